/- Parts of a proof: each theorem states what it proves, and its conditions. -/
import Derived.Test.YtgimdkjgaemcbaaGreatIgF
import Derived.OrdersHeld
import Derived.StillTail
import Derived.Deep.RegionHeld
import Derived.WalkKit
import Derived.Sort.WalkA
import Derived.Shelf.Abstract
import Derived.Lib.ReflectliteSwap
import Derived.Lib.ReflectliteSlice
import Derived.WalkMore
import Derived.ArgAppend
import Derived.Deep.RegionHeld3
import Derived.Deep.RegionLaw
import Derived.Deep.AppendLies
namespace Go.Proofs.YtgimdkjgaemcbaaGreat
open Go.RowKit Go.Rep Go.Lim Go.Lin
end Go.Proofs.YtgimdkjgaemcbaaGreat
namespace Go.Lin
end Go.Lin
namespace Go.Proofs.YtgimdkjgaemcbaaGreat
open Go.RowKit Go.Rep Go.Lim Go.Lin
end Go.Proofs.YtgimdkjgaemcbaaGreat
namespace Go.Lin
theorem getD_row {m : Mat} {i : Nat} (h : i < m.length) : m.getD i [] = m[i] := by simp [List.getD_eq_getElem?_getD, h]
end Go.Lin
namespace Go.Rep
open Go.RowKit Go.Lim Go.Lin
section
variable {X : Nat -> Bool} {base : Nat} {e1 e2 : TypeId} {w w' : World} {ao : Option Addr} {cap : Nat} {hs : List Hdr} {m : List (List Rat)}
theorem swapL_get {m : Mat} {i k q : Nat} (hi : i < m.length) (hk : k < m.length) (hq : q < (swapL m i k).length) : (swapL m i k)[q] = if q = k then m[i] else if q = i then m[k] else m[q]'(by simpa [swapL] using hq) := by
  simp only [swapL, getD_row hi, getD_row hk]
  rw [List.getElem_set]
  by_cases a : k = q
  · rw [if_pos a, if_pos a.symm]
  · rw [if_neg a, if_neg (Ne.symm a), List.getElem_set]
    by_cases b : i = q
    · rw [if_pos b, if_pos b.symm]
    · rw [if_neg b, if_neg (Ne.symm b)]
theorem hset_get {hs : List Hdr} {i k q : Nat} (hi : i < hs.length) (hk : k < hs.length) (hq : q < ((hs.set i hs[k]).set k hs[i]).length) : ((hs.set i hs[k]).set k hs[i])[q] = if q = k then hs[i] else if q = i then hs[k] else hs[q]'(by simpa using hq) := by
  rw [List.getElem_set]
  by_cases a : k = q
  · rw [if_pos a, if_pos a.symm]
  · rw [if_neg a, if_neg (Ne.symm a), List.getElem_set]
    by_cases b : i = q
    · rw [if_pos b, if_pos b.symm]
    · rw [if_neg b, if_neg (Ne.symm b)]
theorem MO.swap (h : MO X base e1 e2 w ao cap hs m) {i k : Nat} (hi : i < hs.length) (hk : k < hs.length) (hE : ExtX (ob ao) w w') (ho : OL HdR 1 X base e1 w' ao cap ((hs.set i hs[k]).set k hs[i])) : MO X base e1 e2 w' ao cap ((hs.set i hs[k]).set k hs[i]) (swapL m i k) := by
  have hl := h.len
  refine h.perm (fun q => if q = k then i else if q = i then k else q) (fun q hq => ?_) (fun a b ha hb hab => ?_) (fun q hq => ?_) (by simp) (by simp [swapL]) (fun q hq hq' => ?_) (fun q hq hq' => ?_) hE ho
  · split
    · exact hi
    · split
      · exact hk
      · exact hq
  · split at hab <;> split at hab <;> (try split at hab) <;> (try split at hab) <;> omega
  · by_cases a : q = i
    · exact ⟨k, hk, by simp [a]⟩
    · by_cases b : q = k
      · refine ⟨i, hi, ?_⟩
        by_cases c : i = k
        · omega
        · simp [c, b]
      · exact ⟨q, hq, by simp [a, b]⟩
  · rw [hset_get hi hk hq]
    by_cases a : q = k
    · simp [a]
    · by_cases b : q = i
      · subst b; simp [a]
      · simp [a, b]
  · rw [swapL_get (by omega) (by omega) hq]
    by_cases a : q = k
    · simp [a]
    · by_cases b : q = i
      · subst b; simp [a]
      · simp [a, b]
end
section
variable {P : Program} {ops : Array Oper} {Q : Exit -> Act -> World -> Prop} {rest : List Oper} {a : Act} {w : World}
variable {d : Option Tmp} {ty : TypeId} {ps : String} {af : Array Edge}
end
end Go.Rep
namespace Go.Lin
end Go.Lin
namespace Go.Rep
end Go.Rep
namespace Go.Proofs.YtgimdkjgaemcbaaGreat
open Go.RowKit Go.Rep Go.Lim Go.Lin
end Go.Proofs.YtgimdkjgaemcbaaGreat
namespace Go.Lin
end Go.Lin
namespace Go.Rep
end Go.Rep
namespace Go.Proofs.YtgimdkjgaemcbaaGreat
open Go.RowKit Go.Rep Go.Lim Go.Lin
end Go.Proofs.YtgimdkjgaemcbaaGreat
namespace Go.Proofs.YtgimdkjgaemcbaaGreat
open Go.RowKit Go.Rep Go.Lim Go.Lin
end Go.Proofs.YtgimdkjgaemcbaaGreat
namespace Go.Lin
open Go.Lim
end Go.Lin
namespace Go.Proofs.YtgimdkjgaemcbaaGreat
open Go.RowKit Go.Rep Go.Lim Go.Lin
end Go.Proofs.YtgimdkjgaemcbaaGreat
namespace Go.Lin
open Go.Lim
end Go.Lin
namespace Go.Lin
open Go.Lim
end Go.Lin
namespace Go.Lin
open Go.Lim
def fn (l : List Rat) : Nat -> Rat := fun i => l.getD i 0
theorem NS.congr {n c : Nat} {f f' : F2} {y y' b b' : Nat -> Rat} (h : NS n c f y b) (hf : Eqm n c f f') (hy : ∀ i, i < n -> y i = y' i) (hb : ∀ j, j < c -> b j = b' j) : NS n c f' y' b' := fun i hi => by
  have e1 : ∀ j, j < c -> gr n f i j = gr n f' i j := fun j hj => sm_congr fun r hr => by rw [hf r hr i hi, hf r hr j hj]
  have e2 : gy n f y i = gy n f' y' i := sm_congr fun r hr => by rw [hf r hr i hi, hy r hr]
  rw [<- e2, <- h i hi]
  exact sm_congr fun j hj => by rw [e1 j hj, hb j hj]
theorem Nul.congr {n c : Nat} {f f' : F2} {x : Nat -> Rat} (h : Nul n c f x) (e : Eqm n c f f') : Nul n c f' x := ((RE.same e).nul x).1 h
end Go.Lin
namespace Go.Lin
open Go.Lim
def sumL (l : List Rat) : Rat := sm l.length (fn l)
theorem sm_head : ∀ (n : Nat) (F : Nat -> Rat), sm (n + 1) F = F 0 + sm n fun i => F (i + 1)
  | 0, F => by show (0 : Rat) + F 0 = F 0 + 0; grind
  | n + 1, F => by
    show sm (n + 1) F + F (n + 1) = _
    rw [sm_head n F]
    show _ = F 0 + (sm n (fun i => F (i + 1)) + F (n + 1))
    grind
theorem sumL_nil : sumL [] = 0 := rfl
theorem sumL_cons (x : Rat) (l : List Rat) : sumL (x :: l) = x + sumL l := by
  unfold sumL
  rw [List.length_cons, sm_head]
  rfl
theorem sumL_app (a b : List Rat) : sumL (a ++ b) = sumL a + sumL b := by
  induction a with
  | nil => rw [sumL_nil, List.nil_append]; grind
  | cons x a ih => rw [List.cons_append, sumL_cons, sumL_cons, ih]; grind
def srt (l : List Rat) : List Rat := l.mergeSort fun a b => decide (a <= b)
theorem srt_perm (l : List Rat) : (srt l).Perm l := List.mergeSort_perm _ _
theorem srt_len (l : List Rat) : (srt l).length = l.length := (srt_perm l).length_eq
theorem srt_pw (l : List Rat) : (srt l).Pairwise (· <= ·) := by
  have := List.pairwise_mergeSort (le := fun (a b : Rat) => decide (a <= b)) (fun a b c h1 h2 => by simp only [decide_eq_true_eq] at *; exact Rat.le_trans h1 h2) (fun a b => by simp only [Bool.or_eq_true, decide_eq_true_eq]; exact Rat.le_total) l
  exact this.imp fun h => by simpa using h
theorem srt_uniq {s l : List Rat} (hp : s.Perm l) (hs : s.Pairwise (· <= ·)) : s = srt l :=
  List.Perm.eq_of_pairwise (le := fun a b => a <= b) (fun _ _ _ _ h1 h2 => Rat.le_antisymm h1 h2) hs (srt_pw l) (hp.trans (srt_perm l).symm)
def rkA (k t : Int) (n : Nat) : Nat := if k = 1 then 0 else if k = 2 then (n + 1) / 2 - 1 else if k = 3 then n / 2 else if k = 4 then (n + 1) / 2 - 1 else t.toNat
def rkB (k t : Int) (n : Nat) : Nat := if k = 1 then n else if k = 2 then (n + 1) / 2 else if k = 3 then n / 2 + 1 else if k = 4 then n / 2 + 1 else n - t.toNat
def knownL (k t : Int) : Prop := 1 <= k /\ k <= 5 /\ 0 <= t /\ (k = 5 \/ t = 0)
def fitsL (k t : Int) (n : Nat) : Prop := 1 <= n /\ (k ≠ 5 \/ t <= ((n - 1) / 2 : Nat))
theorem rk_ok {k t : Int} {n : Nat} (h : knownL k t) (hf : fitsL k t n) : rkA k t n < rkB k t n /\ rkB k t n <= n := by
  obtain ⟨h1, h2, h3, h4⟩ := h
  obtain ⟨f1, f2⟩ := hf
  unfold rkA rkB
  repeat' split
  all_goals omega
def winL (s : List Rat) (a b : Nat) : List Rat := (s.drop a).take (b - a)
theorem winL_len {s : List Rat} {a b : Nat} (h : b <= s.length) : (winL s a b).length = b - a := by simp [winL]; omega
def estL (k t : Int) (l : List Rat) : Rat := sumL (winL (srt l) (rkA k t l.length) (rkB k t l.length)) / (((rkB k t l.length - rkA k t l.length : Nat) : Int) : Rat)
def Btw (s : List Rat) (c : Nat) (z : Rat) : Prop := (∀ x ∈ s.take c, x <= z) /\ (∀ x ∈ s.drop c, z <= x)
theorem srt_btw {l : List Rat} {c : Nat} {z : Rat} (h : Btw (srt l) c z) : srt (l ++ [z]) = (srt l).take c ++ z :: (srt l).drop c := by
  refine (srt_uniq ?_ ?_).symm
  · refine List.perm_middle.trans ?_
    rw [List.take_append_drop]
    exact ((srt_perm l).cons z).trans (List.perm_append_singleton z l).symm
  · have hp := srt_pw l
    rw [<- List.take_append_drop c (srt l), List.pairwise_append] at hp
    rw [List.pairwise_append]
    refine ⟨hp.1, List.pairwise_cons.2 ⟨h.2, hp.2.1⟩, fun a ha b hb => ?_⟩
    rcases List.mem_cons.1 hb with rfl | hb
    · exact h.1 a ha
    · exact Rat.le_trans (h.1 a ha) (h.2 _ (by
        have : b ∈ (srt l).drop c := hb
        exact this) |> fun h2 => h2)
theorem winL_mid (u v : List Rat) (z : Rat) (a b : Nat) (hab : a <= b) :
    sumL (winL (u ++ z :: v) a b) = sumL (winL (u ++ 0 :: v) a b) + if a <= u.length /\ u.length < b then z else 0 := by
  have key : ∀ (w : List Rat) (i : Nat), sumL ((w ++ z :: v).take i) = sumL ((w ++ 0 :: v).take i) + if w.length < i then z else 0 := by
    intro w i
    rw [List.take_append, List.take_append, sumL_app, sumL_app]
    by_cases h : w.length < i
    · obtain ⟨j, hj⟩ : ∃ j, i - w.length = j + 1 := ⟨i - w.length - 1, by omega⟩
      rw [hj, List.take_succ_cons, List.take_succ_cons, sumL_cons, sumL_cons, if_pos h]; grind
    · rw [show i - w.length = 0 by omega, if_neg h]; simp only [List.take_zero]; grind
  unfold winL
  by_cases h : a <= u.length
  · rw [List.drop_append_of_le_length h, List.drop_append_of_le_length h, key]
    rw [List.length_drop]
    by_cases h2 : u.length < b
    · have e1 : a <= u.length /\ u.length < b := ⟨h, h2⟩
      have e2 : u.length - a < b - a := by omega
      simp only [e1, e2, and_self, if_true]
    · have e1 : ¬ (a <= u.length /\ u.length < b) := fun e => h2 e.2
      have e2 : ¬ (u.length - a < b - a) := by omega
      simp only [e1, e2, if_false]
  · obtain ⟨j, hj⟩ : ∃ j, a - u.length = j + 1 := ⟨a - u.length - 1, by omega⟩
    rw [List.drop_append, List.drop_append, hj, List.drop_succ_cons, List.drop_succ_cons, if_neg (fun e => h e.1)]
    grind
def lnA (k t : Int) (l : List Rat) (c : Nat) : Rat := sumL (winL ((srt l).take c ++ 0 :: (srt l).drop c) (rkA k t (l.length + 1)) (rkB k t (l.length + 1))) / (((rkB k t (l.length + 1) - rkA k t (l.length + 1) : Nat) : Int) : Rat)
def lnB (k t : Int) (n c : Nat) : Rat := (if rkA k t (n + 1) <= c /\ c < rkB k t (n + 1) then 1 else 0) / (((rkB k t (n + 1) - rkA k t (n + 1) : Nat) : Int) : Rat)
theorem est_line {k t : Int} {l : List Rat} {c : Nat} {z : Rat} (hk : knownL k t) (hf : fitsL k t (l.length + 1)) (hc : c <= l.length) (h : Btw (srt l) c z) : estL k t (l ++ [z]) = lnA k t l c + lnB k t l.length c * z := by
  have hr := rk_ok hk hf
  unfold estL
  rw [srt_btw h, show (l ++ [z]).length = l.length + 1 by simp, winL_mid _ _ _ _ _ (by omega)]
  have e : ((srt l).take c).length = c := by rw [List.length_take, srt_len]; omega
  rw [e]
  unfold lnA lnB
  split <;> grind
structure Pc where
  lo : Option Rat
  hi : Option Rat
  a : Rat
  b : Rat
def lineB (f : Rat -> Rat) (p q : Rat) : Rat := (f q - f p) / (q - p)
def lineA (f : Rat -> Rat) (p q : Rat) : Rat := f p - lineB f p q * p
theorem line_of {f : Rat -> Rat} {p q α β : Rat} (hp : f p = α + β * p) (hq : f q = α + β * q) (hpq : p ≠ q) : lineA f p q = α /\ lineB f p q = β := by
  have h1 : q - p ≠ 0 := fun h => hpq (by grind)
  have hb : lineB f p q = β := by
    unfold lineB
    rw [hp, hq, show α + β * q - (α + β * p) = β * (q - p) by grind, Rat.mul_div_cancel h1]
  exact ⟨by unfold lineA; rw [hb, hp]; grind, hb⟩
end Go.Lin
namespace Go
section
variable {P : Program} {ops : Array Oper} {Q : Exit -> Act -> World -> Prop} {md : Region.Mode} {S : World -> Prop} {n : Nat}
def wpAnyK (P : Program) (md : Region.Mode) (ops : Array Oper) (Q : Exit -> Act -> World -> Prop) (S : World -> Prop) (n : Nat) : Nat -> Array Bool -> Act -> World -> Prop
  | 0, listed, a, w => Region.ready md ops listed = [] /\ Q .normal a w
  | fuel + 1, listed, a, w =>
    (Region.ready md ops listed = [] -> Q .normal a w) /\
    ∀ i ∈ Region.ready md ops listed, wpOp P ops Q i (fun a' w' => (i < n -> S w') /\ wpAnyK P md ops Q S n fuel (listed.setIfInBounds i true) a' w') a w
theorem wpAny_of_K : ∀ (fuel : Nat) (listed : Array Bool) (a : Act) (w : World), wpAnyK P md ops Q S n fuel listed a w -> wpAny P md ops Q fuel listed a w
  | 0, _, _, _, h => h
  | fuel + 1, _, _, _, h => ⟨h.1, fun i hi => wpOp_mono (fun a' w' h' => wpAny_of_K fuel _ a' w' h'.2) (h.2 i hi)⟩
theorem wpAnyK_first {i : Nat} {oi : Oper} {v : Value} (hs : Region.sinkB md ops n = true) (hc : Region.chainB md ops n = true) (hn : n < ops.size) (hin : i < n) (hi : ops[i]? = some oi) (hsel : ∀ (j : Nat) (o : Oper) cs b, ops[j]? = some o -> o.op ≠ .select cs b)
    (hQ : ∀ c a w, Q (.panic c) (a.put oi.dst v) w -> Q (.panic c) a w) :
    ∀ (fuel : Nat) (listed : Array Bool) (a : Act) (w : World), HeadInv md ops n listed ->
      (∀ j oj, ops[j]? = some oj -> j ≠ i -> listed.getD j true = false -> (∀ e ∈ oj.after, Region.binds md e = true -> e.on ≠ i) -> oi.apart ops oj = true) ->
      i ∈ Region.ready md ops listed -> YieldsIf P ops S oi v a -> S w ->
      wpAnyK P md ops Q S n fuel (listed.setIfInBounds i true) (a.put oi.dst v) w -> wpAnyK P md ops Q S n (fuel + 1) listed a w := by
  intro fuel
  induction fuel with
  | zero =>
    intro listed a w _ _ hr hy hS H
    refine ⟨fun h => (by rw [h] at hr; cases hr), fun j hj => ?_⟩
    by_cases hji : j = i
    · subst hji; exact hy.wpOp hi hS ⟨fun _ => hS, H⟩
    · have := ready_mono hj hji
      rw [H.1] at this
      cases this
  | succ fuel ih =>
    intro listed a w inv hfree hr hy hS H
    refine ⟨fun h => (by rw [h] at hr; cases hr), fun j hj => ?_⟩
    by_cases hji : j = i
    · subst hji; exact hy.wpOp hi hS ⟨fun _ => hS, H⟩
    · have hjn : j < n := by
        rcases Nat.lt_or_ge j n with h | h
        · exact h
        · exact absurd hj (tail_waits hs hc hn inv (n - i) i rfl hin (mem_ready.1 hr).1 j h)
      have h1 := H.2 j (ready_mono hj hji)
      obtain ⟨hjun, oj, hoj, hall⟩ := mem_ready.1 hj
      have hnot : ∀ e ∈ oj.after, Region.binds md e = true -> e.on ≠ i := fun e he hb heq => by
        have h1 := hall e he hb
        have h0 := (mem_ready.1 hr).1
        rw [heq] at h1
        rcases Nat.lt_or_ge i listed.size with h' | h'
        · simp [h'] at h0 h1; rw [h0] at h1; cases h1
        · simp [Array.getElem?_eq_none h'] at h1
      have h2 := wpOp_putIf hoj (hfree j oj hoj hji hjun hnot) (fun cs b => hsel i oi cs b hi) (fun cs b => hsel j oj cs b hoj) hQ hy h1
      have hfree' : ∀ k ok, ops[k]? = some ok -> k ≠ i -> (listed.setIfInBounds j true).getD k true = false ->
          (∀ e ∈ ok.after, Region.binds md e = true -> e.on ≠ i) -> oi.apart ops ok = true := fun k ok hk hki hun hno => by
        refine hfree k ok hk hki ?_ hno
        by_cases hjk : j = k
        · subst hjk; exact hjun
        · rw [getD_set_ne true hjk] at hun; exact hun
      refine wpOp_mono (fun a' w' h3 => ⟨h3.2.1, ih (listed.setIfInBounds j true) a' w' (inv.set hj hjn) hfree' (ready_mono hr (Ne.symm hji)) h3.1 (h3.2.1 hjn) ?_⟩) h2
      rw [Array.setIfInBounds_comm _ _ hji]
      exact h3.2.2
def headB (md : Region.Mode) (ops : Array Oper) (n : Nat) (listed : Array Bool) : Bool :=
  decide (listed.size = ops.size) &&
  ((List.range ops.size).all fun j => !listed.getD j false || (match ops[j]? with | some o => o.after.all fun e => !Region.binds md e || listed.getD e.on false | none => true)) &&
  ((List.range ops.size).all fun t => decide (t < n) || !listed.getD t true)
theorem headB_inv {listed : Array Bool} (h : headB md ops n listed = true) : HeadInv md ops n listed := by
  unfold headB at h
  simp only [Bool.and_eq_true, decide_eq_true_eq] at h
  obtain ⟨⟨h1, h2⟩, h3⟩ := h
  refine ⟨h1, fun j oj hj hl e he hb => ?_, fun t ht ht' => ?_⟩
  · have hlt : j < ops.size := (Array.getElem?_eq_some_iff.1 hj).1
    have h4 := List.all_eq_true.1 h2 j (List.mem_range.2 hlt)
    rw [hl, hj] at h4
    simp only [Bool.not_true, Bool.false_or] at h4
    have h5 := Array.all_eq_true_iff_forall_mem.1 h4 e he
    rw [hb] at h5
    simpa using h5
  · have h4 := List.all_eq_true.1 h3 t (List.mem_range.2 ht')
    simp only [Bool.or_eq_true, decide_eq_true_eq, Bool.not_eq_true'] at h4
    rcases h4 with h4 | h4
    · omega
    · exact h4
def takeB (md : Region.Mode) (ops : Array Oper) (n i : Nat) (listed : Array Bool) : Bool :=
  decide (i < n) && headB md ops n listed && Region.free md ops listed i && (Region.ready md ops listed).contains i
def onceB (md : Region.Mode) (ops : Array Oper) (n : Nat) : Bool := Region.sinkB md ops n && Region.chainB md ops n && decide (n < ops.size) && Region.noSelect ops
theorem wpAnyK_take {i : Nat} {oi : Oper} {v : Value} {fuel : Nat} {listed : Array Bool} {a : Act} {w : World} (hO : Shut (onceB md ops n = true)) (hi : ops[i]? = some oi)
    (hB : takeB md ops n i listed = true)
    (hQ : ∀ c a w, Q (.panic c) (a.put oi.dst v) w -> Q (.panic c) a w) (hS : S w) (hw : Region.wanted oi (yielded ops a.tmps) = true) (hy : ∀ w, S w -> (execOp a.eval oi).run P w = .ok (.value v) w)
    (h : wpAnyK P md ops Q S n fuel (listed.setIfInBounds i true) (a.put oi.dst v) w) : wpAnyK P md ops Q S n (fuel + 1) listed a w := by
  unfold takeB at hB
  simp only [Bool.and_eq_true, decide_eq_true_eq] at hB
  obtain ⟨⟨⟨b4, b5⟩, b7⟩, b8⟩ := hB
  have hO := hO.out
  unfold onceB at hO
  simp only [Bool.and_eq_true, decide_eq_true_eq] at hO
  obtain ⟨⟨⟨b1, b2⟩, b3⟩, b6⟩ := hO
  exact wpAnyK_first b1 b2 b3 b4 hi (Region.noSelect_spec b6) hQ fuel listed a w (headB_inv b5) (Region.free_spec hi b7) (by simpa using b8) (.inl ⟨hw, hy⟩) hS h
theorem wpAnyK_step {i : Nat} {o : Oper} {fuel : Nat} {listed : Array Bool} {a : Act} {w : World} (hr : Region.ready md ops listed = [i]) (ho : ops[i]? = some o)
    (h : ∀ K' : Act -> World -> Prop, Shut (∀ a w, S w -> (S w -> wpAnyK P md ops Q S n fuel (listed.setIfInBounds i true) a w) -> K' a w) -> if Region.wanted o (yielded ops a.tmps) = true then Oper.wp P o a w K' Q else K' (a.put o.dst undef) w) : wpAnyK P md ops Q S n (fuel + 1) listed a w := by
  refine ⟨fun h0 => (by rw [hr] at h0; cases h0), fun j hj => ?_⟩
  rw [hr] at hj
  have : j = i := by simpa using hj
  subst this
  exact wpOp_step ho (fun K' hK => h K' (fun a w hS hW => hK a w ⟨fun _ => hS, hW hS⟩))
theorem wpAnyK_two {i j : Nat} {oi oj : Oper} {fuel : Nat} {listed : Array Bool} {a : Act} {w : World} (hr : Region.ready md ops listed = [i, j]) (hi : ops[i]? = some oi) (hj : ops[j]? = some oj)
    (h1 : ∀ K' : Act -> World -> Prop, Shut (∀ a w, S w -> (S w -> wpAnyK P md ops Q S n fuel (listed.setIfInBounds i true) a w) -> K' a w) -> if Region.wanted oi (yielded ops a.tmps) = true then Oper.wp P oi a w K' Q else K' (a.put oi.dst undef) w)
    (h2 : ∀ K' : Act -> World -> Prop, Shut (∀ a w, S w -> (S w -> wpAnyK P md ops Q S n fuel (listed.setIfInBounds j true) a w) -> K' a w) -> if Region.wanted oj (yielded ops a.tmps) = true then Oper.wp P oj a w K' Q else K' (a.put oj.dst undef) w) : wpAnyK P md ops Q S n (fuel + 1) listed a w := by
  refine ⟨fun h0 => (by rw [hr] at h0; cases h0), fun k hk => ?_⟩
  rw [hr] at hk
  rcases List.mem_cons.1 hk with rfl | hk
  · exact wpOp_step hi (fun K' hK => h1 K' (fun a w hS hW => hK a w ⟨fun _ => hS, hW hS⟩))
  · obtain rfl : k = j := by simpa using hk
    exact wpOp_step hj (fun K' hK => h2 K' (fun a w hS hW => hK a w ⟨fun _ => hS, hW hS⟩))
theorem wpAnyK_last {i : Nat} {o : Oper} {fuel : Nat} {listed : Array Bool} {a : Act} {w : World} (hr : Region.ready md ops listed = [i]) (ho : ops[i]? = some o) (hin : n <= i)
    (hd : Region.ready md ops (listed.setIfInBounds i true) = [])
    (h : ∀ K' : Act -> World -> Prop, Shut (∀ a w, Q .normal a w -> K' a w) -> if Region.wanted o (yielded ops a.tmps) = true then Oper.wp P o a w K' Q else K' (a.put o.dst undef) w) : wpAnyK P md ops Q S n (fuel + 1) listed a w := by
  refine ⟨fun h0 => (by rw [hr] at h0; cases h0), fun j hj => ?_⟩
  rw [hr] at hj
  have : j = i := by simpa using hj
  subst this
  refine wpOp_step ho (fun K' hK => h K' (fun a w hq => hK a w ⟨fun hlt => absurd hlt (Nat.not_lt.2 hin), ?_⟩))
  cases fuel with
  | zero => exact ⟨hd, hq⟩
  | succ f => exact ⟨fun _ => hq, by rw [hd]; simp⟩
theorem ks (i : Nat) {d : Option Tmp} {op : Op} {ty : TypeId} {ps : String} {af : Array Edge} {g : Option (Nat × Bool)} {fuel : Nat} {listed : Array Bool} {a : Act} {w : World}
    (h : ∀ K' : Act -> World -> Prop, Shut (∀ a w, S w -> (S w -> wpAnyK P md ops Q S n fuel (listed.setIfInBounds i true) a w) -> K' a w) -> if Region.wanted ⟨d, op, ty, ps, af, g⟩ (yielded ops a.tmps) = true then Oper.wp P ⟨d, op, ty, ps, af, g⟩ a w K' Q else K' (a.put d undef) w)
    (ho : ops[i]? = some ⟨d, op, ty, ps, af, g⟩ := by rfl) (hr : Region.ready md ops listed = [i] := by kernel_rfl) : wpAnyK P md ops Q S n (fuel + 1) listed a w := wpAnyK_step hr ho h
theorem kl (i : Nat) {d : Option Tmp} {op : Op} {ty : TypeId} {ps : String} {af : Array Edge} {g : Option (Nat × Bool)} {fuel : Nat} {listed : Array Bool} {a : Act} {w : World}
    (h : ∀ K' : Act -> World -> Prop, Shut (∀ a w, Q .normal a w -> K' a w) -> if Region.wanted ⟨d, op, ty, ps, af, g⟩ (yielded ops a.tmps) = true then Oper.wp P ⟨d, op, ty, ps, af, g⟩ a w K' Q else K' (a.put d undef) w)
    (ho : ops[i]? = some ⟨d, op, ty, ps, af, g⟩ := by rfl) (hr : Region.ready md ops listed = [i] := by kernel_rfl) (hin : n <= i := by decide) (hd : Region.ready md ops (listed.setIfInBounds i true) = [] := by kernel_rfl) : wpAnyK P md ops Q S n (fuel + 1) listed a w := wpAnyK_last hr ho hin hd h
theorem kcn {K : Act -> World -> Prop} {fuel : Nat} {listed l' : Array Bool} {a a' : Act} {w : World} (hK : Shut (∀ a w, S w -> (S w -> wpAnyK P md ops Q S n fuel listed a w) -> K a w)) (hS : S w) (h : S w -> wpAnyK P md ops Q S n fuel l' a' w)
    (hl : listed = l' := by first | (simp only [List.setIfInBounds_toArray, List.set_cons_zero, List.set_cons_succ]; rfl) | rfl) (ha : a = a' := by first | (simp only [Act.put, List.setIfInBounds_toArray, List.set_cons_zero, List.set_cons_succ]; rfl) | rfl) : K a w :=
  hK.out _ _ hS fun h0 => by rw [hl, ha]; exact h h0
theorem wp_region_K {id : Nat} {a : Act} {w : World} (n : Nat) (S : World -> Prop) (hm : P.follows .mixedOrders = true) (hO : onceB .any ops n = true) (hS : S w.drew)
    (h : S w.drew -> Shut (onceB .any ops n = true) -> wpAnyK P .any ops Q S n ops.size (Array.replicate ops.size false) a w.drew) : (Code.region id ops true).wp P Q a w :=
  wp_region_any hm (wpAny_of_K _ _ _ _ (h hS hO))
end
end Go
namespace Go
section
variable {P : Program} {ops : Array Oper} {Q : Exit -> Act -> World -> Prop} {md : Region.Mode} {S : World -> Prop} {n : Nat}
theorem wpAnyK_skip {i : Nat} {oi : Oper} {fuel : Nat} {listed : Array Bool} {a : Act} {w : World} (hO : Shut (onceB md ops n = true)) (hi : ops[i]? = some oi)
    (hB : takeB md ops n i listed = true)
    (hQ : ∀ c a w, Q (.panic c) (a.put oi.dst undef) w -> Q (.panic c) a w) (hS : S w) (hw : Region.wanted oi (yielded ops a.tmps) = false)
    (h : wpAnyK P md ops Q S n fuel (listed.setIfInBounds i true) (a.put oi.dst undef) w) : wpAnyK P md ops Q S n (fuel + 1) listed a w := by
  unfold takeB at hB
  simp only [Bool.and_eq_true, decide_eq_true_eq] at hB
  obtain ⟨⟨⟨b4, b5⟩, b7⟩, b8⟩ := hB
  have hO := hO.out
  unfold onceB at hO
  simp only [Bool.and_eq_true, decide_eq_true_eq] at hO
  obtain ⟨⟨⟨b1, b2⟩, b3⟩, b6⟩ := hO
  exact wpAnyK_first b1 b2 b3 b4 hi (Region.noSelect_spec b6) hQ fuel listed a w (headB_inv b5) (Region.free_spec hi b7) (by simpa using b8) (.inr ⟨hw, rfl⟩) hS h
end
end Go
namespace Go
section
variable {P : Program} {ops : Array Oper} {Q : Exit -> Act -> World -> Prop} {md : Region.Mode} {S : World -> Prop} {n : Nat}
theorem kt (i : Nat) {d : Option Tmp} {op : Op} {ty : TypeId} {ps : String} {af : Array Edge} {g : Option (Nat × Bool)} {v : Value} {fuel : Nat} {listed l' : Array Bool} {a a' : Act} {w : World} (hO : Shut (onceB md ops n = true))
    (h : wpAnyK P md ops Q S n fuel l' a' w)
    (hi : ops[i]? = some ⟨d, op, ty, ps, af, g⟩ := by rfl)
    (hB : takeB md ops n i listed = true := by kernel_rfl)
    (hS : S w := by assumption) (hw : Region.wanted ⟨d, op, ty, ps, af, g⟩ (yielded ops a.tmps) = true := by rfl)
    (hy : ∀ w, S w -> (execOp a.eval ⟨d, op, ty, ps, af, g⟩).run P w = .ok (.value v) w := by
      intro w hSw
      (try dsimp only at hSw)
      go_simp
      all_goals with_reducible rfl)
    (hQ : ∀ c a w, Q (.panic c) (a.put d v) w -> Q (.panic c) a w := by exact fun _ _ _ h => h)
    (hl : listed.setIfInBounds i true = l' := by first | (simp only [List.setIfInBounds_toArray, List.set_cons_zero, List.set_cons_succ]; rfl) | rfl)
    (ha : a.put d v = a' := by simp only [Act.put, List.setIfInBounds_toArray, List.set_cons_zero, List.set_cons_succ]; rfl) : wpAnyK P md ops Q S n (fuel + 1) listed a w :=
  wpAnyK_take hO hi hB hQ hS hw hy (by rw [hl, ha]; exact h)
theorem ku (i : Nat) {d : Option Tmp} {op : Op} {ty : TypeId} {ps : String} {af : Array Edge} {g : Option (Nat × Bool)} {fuel : Nat} {listed l' : Array Bool} {a a' : Act} {w : World} (hO : Shut (onceB md ops n = true))
    (h : wpAnyK P md ops Q S n fuel l' a' w)
    (hi : ops[i]? = some ⟨d, op, ty, ps, af, g⟩ := by rfl)
    (hB : takeB md ops n i listed = true := by kernel_rfl)
    (hS : S w := by assumption) (hw : Region.wanted ⟨d, op, ty, ps, af, g⟩ (yielded ops a.tmps) = false := by rfl)
    (hQ : ∀ c a w, Q (.panic c) (a.put d undef) w -> Q (.panic c) a w := by exact fun _ _ _ h => h)
    (hl : listed.setIfInBounds i true = l' := by first | (simp only [List.setIfInBounds_toArray, List.set_cons_zero, List.set_cons_succ]; rfl) | rfl)
    (ha : a.put d undef = a' := by simp only [Act.put, List.setIfInBounds_toArray, List.set_cons_zero, List.set_cons_succ]; rfl) : wpAnyK P md ops Q S n (fuel + 1) listed a w :=
  wpAnyK_skip hO hi hB hQ hS hw (by rw [hl, ha]; exact h)
end
end Go
namespace Go.Lin
def knownB (k t : Int) : Bool := decide (1 <= k) && decide (k <= 5) && decide (0 <= t) && (decide (k = 5) || decide (t = 0))
def fitsB (k t n : Int) : Bool := decide (1 <= n) && (decide (k ≠ 5) || decide (t <= (n - 1) / 2))
theorem knownB_iff {k t : Int} : knownB k t = true ↔ knownL k t := by
  unfold knownB knownL
  simp only [Bool.and_eq_true, Bool.or_eq_true, decide_eq_true_eq, and_assoc]
theorem fitsB_iff {k t : Int} {n : Nat} : fitsB k t n = true ↔ fitsL k t n := by
  unfold fitsB fitsL
  simp only [Bool.and_eq_true, Bool.or_eq_true, decide_eq_true_eq]
  constructor
  · rintro ⟨h1, h2⟩; exact ⟨by omega, h2.imp id fun h => by omega⟩
  · rintro ⟨h1, h2⟩; exact ⟨by omega, h2.imp id fun h => by omega⟩
end Go.Lin
namespace Go.Proofs.YtgimdkjgaemcbaaGreat
open Go.RowKit Go.Rep Go.Lim Go.Lin
set_option maxRecDepth 100000 in
set_option maxHeartbeats 1600000 in
theorem ifits (w : World) (k t n : Int) (hn1 : -9223372036854775808 <= n) (hn2 : n <= 9223372036854775807) :
    Calls Tryz.prog 93 #[.agg #[.int .i64 k, .int .i64 t], .int .i64 n] w (fun e w' => Ext w w' /\ e = .returned (.tuple #[.bool (knownB k t), .bool (fitsB k t n)])) := by
  obtain ⟨W, hW, hE, b0, hz⟩ := boxes1 w #[.int .i64 k, .int .i64 t] 28
  obtain ⟨b, hb⟩ : ∃ b, w.heap.size = b := ⟨_, rfl⟩
  rw [hb] at b0 hz
  have k0 : W.cell? ⟨b, 0, none⟩ = some (.int .i64 k) := b0.cell 0 rfl
  have k1 : W.cell? ⟨b, 1, none⟩ = some (.int .i64 t) := b0.cell 1 rfl
  go_enter Tryz.func93, Tryz.ntmps93
  go_upto_region 1 with fail
  (try simp only [Act.put])
  go_cut [4] from 6 to 28 (fun v wx => v = .bool (knownB k t) /\ wx = W)
  case first =>
    by_cases h1 : 1 <= k
    · by_cases h2 : k <= 5
      · by_cases h3 : 0 <= t
        · by_cases h4 : k = 5
          · go_wp2_with fail
            go_meet
            case rel => exact ⟨congrArg Value.bool (by rw [Bool.eq_iff_iff]; simp [knownB]; try omega), rfl⟩
          · go_wp2_with fail
            go_meet
            case rel => exact ⟨congrArg Value.bool (by rw [Bool.eq_iff_iff]; simp [knownB]; try omega), rfl⟩
        · go_wp2_with fail
          go_meet
          case rel => exact ⟨congrArg Value.bool (by rw [Bool.eq_iff_iff]; simp [knownB]; try omega), rfl⟩
      · go_wp2_with fail
        go_meet
        case rel => exact ⟨congrArg Value.bool (by rw [Bool.eq_iff_iff]; simp [knownB]; try omega), rfl⟩
    · go_wp2_with fail
      go_meet
      case rel => exact ⟨congrArg Value.bool (by rw [Bool.eq_iff_iff]; simp [knownB]; try omega), rfl⟩
  case rest =>
    obtain ⟨rfl, rfl⟩ := hcut
    have hEd : Ext wc wc.drew := (ExtX.refl wc).drew
    obtain ⟨kn, hkn⟩ : ∃ kn, knownB k t = kn := ⟨_, rfl⟩
    rw [hkn]
    have hkn' := hid hkn
    clear hkn
    by_cases h1 : 1 <= n
    · have ew : IntKind.i64.wrap (n - 1) = n - 1 := IntWalk.i64_in _ (by omega)
      by_cases h2 : k = 5
      · subst h2
        have eq : Int.tdiv (n - 1) 2 = (n - 1) / 2 := Int.tdiv_eq_ediv_of_nonneg (by omega)
        by_cases h3 : t <= (n - 1) / 2
        · go_upto_region 2 with fail
          go_region
          go_wp2_with fail
          go_ret2
          exact ⟨hE.trans hEd, by rw [hkn'.out]; simp [fitsB, h1, h3]⟩
        · go_upto_region 2 with fail
          go_region
          go_wp2_with fail
          go_ret2
          exact ⟨hE.trans hEd, by rw [hkn'.out]; simp [fitsB, h1, h3]⟩
      · have h2b : (k != (5 : Int)) = true := by simpa using h2
        go_upto_region 2 with fail
        go_region
        go_wp2_with fail
        go_ret2
        exact ⟨hE.trans hEd, by rw [hkn'.out]; simp [fitsB, h1, h2]⟩
    · go_upto_region 2 with fail
      go_region
      go_wp2_with fail
      go_ret2
      exact ⟨hE.trans hEd, by rw [hkn'.out]; simp [fitsB]; omega⟩
set_option maxRecDepth 100000 in
set_option maxHeartbeats 1600000 in
theorem iranks (w : World) (k t : Int) (n : Nat) (hn : n <= 1000000) (hk : knownL k t) (hf : fitsL k t n) :
    Calls Tryz.prog 97 #[.agg #[.int .i64 k, .int .i64 t], .int .i64 (n : Int)] w (fun e w' => Ext w w' /\ e = .returned (.tuple #[.int .i64 ((rkA k t n : Int) + 1), .int .i64 (rkB k t n : Int)])) := by
  obtain ⟨W, hW, hE, b0, hz⟩ := boxes1 w #[.int .i64 k, .int .i64 t] 28
  obtain ⟨b, hb⟩ : ∃ b, w.heap.size = b := ⟨_, rfl⟩
  rw [hb] at b0 hz
  have k0 : W.cell? ⟨b, 0, none⟩ = some (.int .i64 k) := b0.cell 0 rfl
  have k1 : W.cell? ⟨b, 1, none⟩ = some (.int .i64 t) := b0.cell 1 rfl
  obtain ⟨h1, h2, h3, h4⟩ := hk
  obtain ⟨g1, g2⟩ := hf
  have ew : IntKind.i64.wrap ((n : Int) + 1) = (n : Int) + 1 := IntWalk.i64_in _ (by omega)
  have eq1 : Int.tdiv ((n : Int) + 1) 2 = ((n : Int) + 1) / 2 := Int.tdiv_eq_ediv_of_nonneg (by omega)
  have eq2 : Int.tdiv (n : Int) 2 = (n : Int) / 2 := Int.tdiv_eq_ediv_of_nonneg (by omega)
  have ew2 : IntKind.i64.wrap ((n : Int) / 2 + 1) = (n : Int) / 2 + 1 := IntWalk.i64_in _ (by omega)
  have hc : k = 1 \/ k = 2 \/ k = 3 \/ k = 4 \/ k = 5 := by omega
  rcases hc with rfl | rfl | rfl | rfl | rfl
  · go_enter Tryz.func97, Tryz.ntmps97
    go_wp2_with fail
    go_ret2
    exact ⟨hE, by simp [rkA, rkB]⟩
  · go_enter Tryz.func97, Tryz.ntmps97
    go_wp2_with fail
    go_ret2
    exact ⟨hE, by simp [rkA, rkB]; omega⟩
  · go_enter Tryz.func97, Tryz.ntmps97
    go_wp2_with fail
    go_ret2
    exact ⟨hE, by simp [rkA, rkB]⟩
  · go_enter Tryz.func97, Tryz.ntmps97
    go_wp2_with fail
    go_ret2
    exact ⟨hE, by simp [rkA, rkB]; omega⟩
  · have g3 : t <= ((n - 1) / 2 : Nat) := by omega
    have ew3 : IntKind.i64.wrap (t + 1) = t + 1 := IntWalk.i64_in _ (by omega)
    have ew4 : IntKind.i64.wrap ((n : Int) - t) = (n : Int) - t := IntWalk.i64_in _ (by omega)
    have hEd : Ext W W.drew := (ExtX.refl W).drew
    go_enter Tryz.func97, Tryz.ntmps97
    go_upto_region 9 with fail
    go_region
    go_wp2_with fail
    go_ret2
    exact ⟨hE.trans hEd, by simp [rkA, rkB]; omega⟩
end Go.Proofs.YtgimdkjgaemcbaaGreat
namespace Go.Proofs.YtgimdkjgaemcbaaGreat
open Go.RowKit Go.Rep Go.Sort Go.Lib
variable {α : Type} [Inhabited α]
structure SortBy (lt : α -> α -> Bool) (g : Nat) (lb : Array Value) (sf : Nat) (sb : Array Value) (Y : Nat -> Bool) (n : Nat) (I : Array α -> World -> Prop) : Prop where
  enter : ∀ args w, (callFunc g args).run Tryz.prog w = .ok (.enter g args) w
  ext : ∀ d w w', I d w -> Ext w w' -> I d w'
  low : ∀ d w, I d w -> ∀ k, Y k = true -> k < w.heap.size
  less : ∀ d w, I d w -> d.size = n -> ∀ i j : Nat, i < n -> j < n -> Calls Tryz.prog g (#[.int .i64 i, .int .i64 j] ++ lb) w fun e w' => e = .returned (.bool (lt d[i]! d[j]!)) /\ Ext w w'
  swap : ∀ d w, I d w -> d.size = n -> ∀ i j : Nat, i < n -> j < n -> i ≠ j -> ∃ w', (callFunc sf (#[.int .i64 i, .int .i64 j] ++ sb)).run Tryz.prog w = .ok (.value (.tuple #[])) w' /\ I (swp d i j) w' /\ ExtX Y w w'
set_option maxHeartbeats 2000000 in
set_option maxRecDepth 100000 in
theorem insort_any {lt : α -> α -> Bool} {g : Nat} {lb : Array Value} {sf : Nat} {sb : Array Value} {Y : Nat -> Bool} {n : Nat} {I : Array α -> World -> Prop} (S : SortBy lt g lb sf sb Y n I) (d : Array α) (w : World) (hI : I d w) (hn : d.size = n) (a b : Nat) (hab : a <= b) (hb : b <= n) (hsz : n < 4611686018427387904) :
    Calls Tryz.prog 242 #[.agg #[.func (.func g) #[] lb, .func (.func sf) #[] sb], .int .i64 a, .int .i64 b] w fun e w' => e = .returned (.tuple #[]) /\ I (Sort.insertionSort lt d a b) w' /\ (Sort.insertionSort lt d a b).size = n /\ ExtX Y w w' := by
  obtain ⟨W1, hW1⟩ : ∃ W1, w.alloc (.cells #[.func (.func g) #[] lb, .func (.func sf) #[] sb] 175) = W1 := ⟨_, rfl⟩
  have hE1 : Ext w W1 := by rw [<- hW1]; exact (ExtX.refl w).alloc _
  have hI1 := S.ext _ _ _ hI hE1
  have hY : Y w.heap.size = false := by
    cases h : Y w.heap.size with
    | false => rfl
    | true => exact absurd (S.low _ _ hI _ h) (Nat.lt_irrefl _)
  have c0 : W1.cell? ⟨w.heap.size, 0, none⟩ = some (.func (.func g) #[] lb) := by rw [<- hW1]; exact cell_new 0 rfl
  have c1 : W1.cell? ⟨w.heap.size, 1, none⟩ = some (.func (.func sf) #[] sb) := by rw [<- hW1]; exact cell_new 1 rfl
  obtain ⟨B, hB⟩ : ∃ B, w.heap.size = B := ⟨_, rfl⟩
  have cc : Hid (∀ wr, ExtX Y W1 wr -> wr.cell? ⟨B, 0, none⟩ = some (.func (.func g) #[] lb) /\ wr.cell? ⟨B, 1, none⟩ = some (.func (.func sf) #[] sb)) := hid fun wr h => by
    rw [hB] at c0 c1 hY
    exact ⟨h.cellY c0 hY, h.cellY c1 hY⟩
  have HE1 := hid hE1
  have eg := S.enter
  clear c0 c1 hY hI hE1
  go_enter Tryz.func242, Tryz.ntmps242
  go_wp2
  (try rw [hW1])
  (try rw [hB])
  go_loopw [6] (fun vi wr => ∃ (i : Nat) (dk : Array α), vi = .int .i64 i /\ a < i /\ i <= b + 1 /\ dk.size = n /\ I dk wr /\ ExtX Y W1 wr /\ insOuter lt a b i dk = insOuter lt a b (a + 1) d) (fun vi _ => b + 1 - (intOf vi).toNat)
  case atStart => exact ⟨a + 1, d, by go_num, by omega, by omega, hn, hI1, ExtX.refl _, rfl⟩
  case round =>
    obtain ⟨i, dk, rfl, hai, hib, hsk, hIk, hEk, hO⟩ := hrel
    have HO : Hid (insOuter lt a b i dk = insOuter lt a b (a + 1) d) := hO
    clear hO
    go_wp2
    · go_loopw [7] (fun vj wr2 => ∃ (j : Nat) (dj : Array α), vj = .int .i64 j /\ a <= j /\ j <= i /\ dj.size = n /\ I dj wr2 /\ ExtX Y W1 wr2 /\ insInner lt a j dj = insInner lt a i dk) (fun vj _ => (intOf vj).toNat)
      case atStart => exact ⟨i, dk, rfl, by omega, Nat.le_refl _, hsk, hIk, hEk, rfl⟩
      case round =>
        rename_i wr0 _ _ wr
        obtain ⟨j, dj, rfl, haj, hji, hsj, hIj, hEj, hIn⟩ := hrel
        have hlt : i < b := by assumption
        obtain ⟨c0, c1⟩ := cc.out wr hEj
        have HI : Hid (insInner lt a j dj = insInner lt a i dk) := hIn
        clear hIn
        have out : (j <= a \/ lt dj[j]! dj[j - 1]! = false) -> ∀ w', Ext wr w' -> ∃ (i' : Nat) (dk' : Array α), Value.int .i64 ((i : Int) + 1) = .int .i64 (i' : Nat) /\ a < i' /\ i' <= b + 1 /\ dk'.size = n /\ I dk' w' /\ ExtX Y W1 w' /\ insOuter lt a b i' dk' = insOuter lt a b (a + 1) d := fun hs w' hE' =>
          ⟨i + 1, dj, by go_num, by omega, by omega, hsj, S.ext _ _ _ hIj hE', hEj.trans (ExtX.of hE'), by rw [<- HO.out, insOuter_go _ _ _ _ _ hlt, <- HI.out, insInner_stop _ _ _ _ hs]⟩
        have OUT : Hid _ := out
        clear out
        by_cases hja : a < j
        · have hl := S.less dj wr hIj hsj j (j - 1) (by omega) (by omega)
          rw [show (((j - 1 : Nat) : Int)) = (j : Int) - 1 by omega] at hl
          cases hlv : lt dj[j]! dj[j - 1]! with
          | true =>
            rw [hlv] at hl
            go_wp2_with (go_at_fn g; refine hl.mono ?_; rintro e w' ⟨rfl, hE'⟩; have c2 := hE'.cell c0; have c3 := hE'.cell c1)
            obtain ⟨ws, hs, hIs, hEs⟩ := S.swap dj w' (S.ext _ _ _ hIj hE') hsj j (j - 1) (by omega) (by omega) (by omega)
            rw [show (((j - 1 : Nat) : Int)) = (j : Int) - 1 by omega] at hs
            rw [hs, Oper.upon_value]
            go_wp2
            go_roundw
            case rel =>
              (repeat apply Exists.intro)
              refine ⟨⟨j - 1, swp dj j (j - 1), by congr 1 <;> omega, by omega, by omega, by rw [size_swp]; exact hsj, hIs, (hEj.trans (ExtX.of hE')).trans hEs, ?_⟩, by rw [decide_eq_true hlt, show ((j - 1 : Nat) : Int) = (j : Int) - 1 by omega]⟩
              rw [<- HI.out, insInner_go lt a j dj hja hlv]
            case measure => simp [intOf]; omega
          | false =>
            rw [hlv] at hl
            go_wp2_with (go_at_fn g; refine hl.mono ?_; rintro e w' ⟨rfl, hE'⟩)
            go_roundw
            case rel => exact OUT.out (Or.inr hlv) _ hE'
            case measure => simp [intOf]; omega
        · go_wp2
          go_roundw
          case rel => exact OUT.out (Or.inl (by omega)) _ (ExtX.refl _)
          case measure => simp [intOf]; omega
    · have hge : ¬ i < b := by assumption
      go_end0
      have hfin : Sort.insertionSort lt d a b = dk := by unfold Sort.insertionSort; rw [<- HO.out, insOuter_stop _ _ _ _ _ hge]
      exact ⟨rfl, by rw [hfin]; exact hIk, by rw [hfin]; exact hsk, (ExtX.of HE1.out).trans hEk⟩
end Go.Proofs.YtgimdkjgaemcbaaGreat
namespace Go.Proofs.YtgimdkjgaemcbaaGreat
open Go.RowKit Go.Rep Go.Sort Go.Lib
variable {α : Type} [Inhabited α]
set_option maxHeartbeats 1600000 in
set_option maxRecDepth 100000 in
theorem stable_any {lt : α -> α -> Bool} {g : Nat} {lb : Array Value} {sf : Nat} {sb : Array Value} {Y : Nat -> Bool} {n : Nat} {I : Array α -> World -> Prop} (S : SortBy lt g lb sf sb Y n I) (d : Array α) (w : World) (hI : I d w) (hn : d.size = n) (h20 : n <= 20) :
    Calls Tryz.prog 189 #[.agg #[.func (.func g) #[] lb, .func (.func sf) #[] sb], .int .i64 n] w fun e w' => e = .returned (.tuple #[]) /\ I (Sort.insertionSort lt d 0 n) w' /\ (Sort.insertionSort lt d 0 n).size = n /\ ExtX Y w w' := by
  obtain ⟨W1, hW1⟩ : ∃ W1, w.alloc (.cells #[.func (.func g) #[] lb, .func (.func sf) #[] sb] 175) = W1 := ⟨_, rfl⟩
  have hE1 : Ext w W1 := by rw [<- hW1]; exact (ExtX.refl w).alloc _
  have hI1 := S.ext _ _ _ hI hE1
  have hY : Y w.heap.size = false := by
    cases h : Y w.heap.size with
    | false => rfl
    | true => exact absurd (S.low _ _ hI _ h) (Nat.lt_irrefl _)
  have c0 : W1.cell? ⟨w.heap.size, 0, none⟩ = some (.func (.func g) #[] lb) := by rw [<- hW1]; exact cell_new 0 rfl
  have c1 : W1.cell? ⟨w.heap.size, 1, none⟩ = some (.func (.func sf) #[] sb) := by rw [<- hW1]; exact cell_new 1 rfl
  obtain ⟨B, hB⟩ : ∃ B, w.heap.size = B := ⟨_, rfl⟩
  have HE1 := hid hE1
  have hi := insort_any S d W1 hI1 hn 0 n (Nat.zero_le _) (Nat.le_refl _) (by omega)
  rw [hB] at c0 c1 hY
  clear hI hE1 hI1
  go_enter Tryz.func189, Tryz.ntmps189
  go_wp2
  (try rw [hW1])
  (try rw [hB])
  rcases Nat.lt_or_ge n 20 with h | h
  · refine wp_loop_rounds 1 ?_
    rw [rounds_succ]
    go_wp2_with (go_at_call 242; refine hi.mono ?_; rintro e w1 ⟨rfl, hI2, hs2, hE2⟩)
    refine wp_loop_rounds 1 ?_
    rw [rounds_succ]
    go_wp2
    all_goals first | (exfalso; omega) | (go_end0; exact ⟨rfl, hI2, hs2, (ExtX.of HE1.out).trans hE2⟩)
  · have hn20 : n = 20 := by omega
    subst hn20
    refine wp_loop_rounds 2 ?_
    rw [rounds_succ]
    go_wp2_with (go_at_call 242; refine hi.mono ?_; rintro e w1 ⟨rfl, hI2, hs2, hE2⟩; have c2 := hE2.cellY c0 hY; have c3 := hE2.cellY c1 hY)
    have hi2 := insort_any S _ w1 hI2 hs2 20 20 (Nat.le_refl _) (Nat.le_refl _) (by omega)
    rw [rounds_succ]
    go_wp2_with (go_at_call 242; refine hi2.mono ?_; rintro e w2 ⟨rfl, hI3, hs3, hE3⟩)
    refine wp_loop_rounds 1 ?_
    rw [rounds_succ]
    go_wp2
    have hst : Sort.insertionSort lt (Sort.insertionSort lt d 0 20) 20 20 = Sort.insertionSort lt d 0 20 := by
      rw [show Sort.insertionSort lt (Sort.insertionSort lt d 0 20) 20 20 = insOuter lt 20 20 21 (Sort.insertionSort lt d 0 20) from rfl, insOuter_stop _ _ _ _ _ (by omega)]
    rw [hst] at hI3
    all_goals first | (exfalso; omega) | (go_end0; exact ⟨rfl, hI3, hs2, (ExtX.of HE1.out).trans (hE2.trans hE3)⟩)
set_option maxHeartbeats 1000000 in
set_option maxRecDepth 100000 in
theorem slicestable_any (t e : TypeId) (i ie : TypeInfo) (hi : Tryz.prog.info? t = some i) (hd : i.desc = .slice e) (hpk : Tryz.prog.packed t = false) (hie : Tryz.prog.info? e = some ie) (ke : Nat) (hke : ∀ w, (Extern.Rtype.kind e).run Tryz.prog w = .ok ke w)
    (p : Option Addr) (n c : Nat) (_hn : n < 4611686018427387904) (f : Nat) (hf : Tryz.prog.funcs.findIdx? (·.name == "internal/reflectlite" ++ ".Swapper$" ++ toString (swapperK n ie ke)) = some f) (g : Nat) (lb : Array Value) (w : World) (R : World -> Prop)
    (hp : ∀ w1, Ext w w1 -> Calls Tryz.prog 189 #[.agg #[.func (.func g) #[] lb, .func (.func f) #[] (if swapperK n ie ke <= 2 then #[] else #[.slice p n c, typeHandle Tryz.prog e])], .int .i64 n] w1 fun e w' => e = .returned (.tuple #[]) /\ R w') :
    Calls Tryz.prog 135 #[.iface t (.slice p n c), .func (.func g) #[] lb] w fun e w' => e = .returned (.tuple #[]) /\ R w' := by
  have hv := run_valueOf_slice (P := Tryz.prog) t e i hi hd p n c w
  have hs := fun w => run_swapper_slice (P := Tryz.prog) t e i ie hi hd hie ke hke p n c f hf w
  have hl := fun a w ha => run_valueLen_slice (P := Tryz.prog) t e i hi hd hpk a p n c w ha
  generalize (if swapperK n ie ke <= 2 then (#[] : Array Value) else #[.slice p n c, typeHandle Tryz.prog e]) = B at hs hp
  simp only [typeHandle] at hv hl
  (first | rw [show Tryz.prog.globals.size = 1 by kernel_rfl] at hl | rw [show Tryz.prog.globals.size = 0 by kernel_rfl] at hl | rw [show Tryz.prog.globals.size = 2 by kernel_rfl] at hl | rw [show Tryz.prog.globals.size = 3 by kernel_rfl] at hl)
  have hE : Ext w ((w.alloc (.cells #[.slice p n c] t)).alloc (.cells #[.pointer (some ⟨Tryz.prog.globals.size, t, none⟩), .pointer (some ⟨w.heap.size, 0, none⟩), .int .u64 151] 169)) := ((ExtX.refl w).alloc _).alloc _
  have hp' := hp _ hE
  go_enter Tryz.func135, Tryz.ntmps135
  go_wp2
  rw [run_callFunc_extern Tryz.func187 (by kernel_rfl) (by kernel_rfl) (by kernel_rfl) (e := fun args => Extern.ReflectliteValue.unpack (args.getD 0 (.tuple #[]))) (by kernel_rfl),
    show Sem.run Tryz.prog ((fun args : Array Value => Extern.ReflectliteValue.unpack (args.getD 0 (.tuple #[]))) #[.iface t (.slice p n c)]) w = _ from hv]
  simp only [Result.andThen]
  rw [Oper.upon_value]
  go_wp2
  rw [run_callFunc_extern Tryz.func188 (by kernel_rfl) (by kernel_rfl) (by kernel_rfl) (e := Extern.ReflectliteSwapper.swapper "internal/reflectlite" (Extern.ReflectliteValue.valueError "Swapper")) (by kernel_rfl), hs]
  simp only [Result.andThen]
  rw [Oper.upon_value]
  go_wp2
  rw [run_callFunc_extern Tryz.func190 (by kernel_rfl) (by kernel_rfl) (by kernel_rfl) (e := Extern.ReflectliteValue.method (Extern.ReflectliteValue.valueError "reflectlite.Value.Len" 0) Extern.ReflectliteValue.len) (by kernel_rfl),
    hl _ _ (by simp)]
  simp only [Result.andThen]
  rw [Oper.upon_value]
  go_wp2_with (go_at_call 189; refine hp'.mono ?_; rintro e w' ⟨rfl, hR⟩)
  go_end0
  exact ⟨rfl, hR⟩
end Go.Proofs.YtgimdkjgaemcbaaGreat
namespace Go.Rep
open Go.RowKit Go.Lim Go.Extern Go.Extern.Rtype Go.Lib
section
variable {P : Program} {α : Type} {R : Mem -> Value -> α -> Prop} {sz : Nat} {X : Nat -> Bool} {base : Nat} {e : TypeId} {w : World} {ao : Option Addr} {cap : Nat} {l : List α}
theorem OL.run_load {t : TypeId} {ti : TypeInfo} (ht : P.info? t = some ti) (hts : ti.size = sz) (hagg : ∀ w, (isAgg t).run P w = .ok true w) (_hR : Elem R sz) (hS : ∀ h u x, R h u x -> ∃ cs, u = .agg cs)
    (h : OL R sz X base e w ao cap l) (i : Nat) (hi : i < l.length) : ∃ u, (loadVar t (adr ao (i * sz))).run P w = .ok u w /\ R (mk (un X ao) w) u l[i] := by
  obtain ⟨us, h1, h2, _, h3, h5⟩ := h.cells
  have hi' : i < us.length := by omega
  obtain ⟨cs, hcs⟩ := hS _ _ _ (h5 i hi' hi)
  have hsz : cs.size = sz := by have := h2 _ (List.getElem_mem hi'); rw [hcs] at this; exact this
  have hl := run_loadCells_list (P := P) w (adr ao (i * sz)) cs.toList (fun j v hj => by
    rw [adr_add]
    have hj1 : j < sz := by rw [<- hsz]; exact (List.getElem?_eq_some_iff.1 hj).1
    have hget := flat_get us i j hi' h2 hj1
    rw [hcs] at hget
    have hj2 : (cellsL (.agg cs))[j]? = some v := by simpa [cellsL, Value.cells] using hj
    rw [hj2] at hget
    exact (h3 _ _ hget).1)
  refine ⟨us[i], ?_, h5 i hi' hi⟩
  rw [hcs]
  simp only [Array.length_toList, hsz, Array.toArray_toList] at hl
  simp [loadVar, hagg, sizeOf, typeInfo, ht, hts, hl, Result.andThen]
theorem OL.run_swap {t : TypeId} {ti : TypeInfo} (g : Bool) (ht : P.info? t = some ti) (hts : ti.size = sz) (hagg : ∀ w, (isAgg t).run P w = .ok true w) (hR : Elem R sz) (hS : ∀ h u x, R h u x -> ∃ cs, u = .agg cs)
    (h : OL R sz X base e w ao cap l) (i j : Nat) (hi : i < l.length) (hj : j < l.length) (c : Nat) :
    ∃ w', (ReflectliteSwapper.swap g #[.int .i64 i, .int .i64 j, .slice ao l.length c, typeHandle P t]).run P w = .ok (.tuple #[]) w' /\ OL R sz X base e w' ao cap ((l.set i l[j]).set j l[i]) /\ ExtX (ob ao) w w' := by
  obtain ⟨u, hu, ru⟩ := h.run_load (P := P) ht hts hagg hR hS i hi
  obtain ⟨v, hv, rv⟩ := h.run_load (P := P) ht hts hagg hR hS j hj
  obtain ⟨w1, s1, o1, e1⟩ := h.run_store (P := P) ht hts hR i hi v l[j] rv
  have ru1 := hR.mono _ _ _ _ (mkun_over e1 (.inl rfl)) ru
  obtain ⟨w2, s2, o2, e2⟩ := o1.run_store (P := P) ht hts hR j (by simpa using hj) u l[i] ru1
  refine ⟨w2, ?_, o2, e1.trans e2⟩
  rcases h.form with ⟨rfl, rfl, rfl⟩ | ⟨b, cur, rfl, _⟩
  · simp at hi
  have i0 : ¬ ((i : Int) < 0) := by omega
  have i1 : ¬ ((i : Int) ≥ l.length) := by omega
  have j0 : ¬ ((j : Int) < 0) := by omega
  have j1 : ¬ ((j : Int) ≥ l.length) := by omega
  simp only [adr, Option.getD_some, Nat.zero_add] at hu hv s1 s2
  rw [rl_swap]
  cases g <;> simp [i0, i1, j0, j1, ofHandle, handleType, typeHandle, ReflectliteSwapper.exchange, sizeOf, typeInfo, ht, hts, Addr.add_lit, hu, hv, s1, s2, Result.andThen]
end
theorem swp_toList {α : Type} [Inhabited α] (d : Array α) (i j : Nat) (hi : i < d.toList.length) (hj : j < d.toList.length) : (Go.Sort.swp d i j).toList = (d.toList.set i d.toList[j]).set j d.toList[i] := by
  have hi' : i < d.size := by simpa using hi
  have hj' : j < d.size := by simpa using hj
  unfold Go.Sort.swp
  simp [hi', hj']
end Go.Rep
namespace Go.Lin
abbrev Vec := Nat -> Rat
def dot (c : Nat) (u v : Vec) : Rat := sm c fun j => u j * v j
def nz (c : Nat) (u : Vec) : Prop := ∃ j, j < c /\ u j ≠ 0
theorem dot_comm (c : Nat) (u v : Vec) : dot c u v = dot c v u := sm_congr fun j _ => by grind
theorem dot_add (c : Nat) (u v x : Vec) : dot c (fun j => u j + v j) x = dot c u x + dot c v x := by
  unfold dot; rw [<- sm_add]; exact sm_congr fun j _ => by grind
theorem dot_mul (c : Nat) (a : Rat) (u x : Vec) : dot c (fun j => a * u j) x = a * dot c u x := by
  unfold dot; rw [<- sm_mul]; exact sm_congr fun j _ => by grind
theorem dot_lin (c : Nat) (u v : Vec) (t : Rat) (x : Vec) : dot c (fun j => u j + t * v j) x = dot c u x + t * dot c v x := by
  rw [dot_add c u (fun j => t * v j), dot_mul]
theorem dot_congr {c : Nat} {u u' v : Vec} (h : ∀ j, j < c -> u j = u' j) : dot c u v = dot c u' v := sm_congr fun j hj => by rw [h j hj]
theorem dot_zero {c : Nat} {u v : Vec} (h : ∀ j, j < c -> u j = 0) : dot c u v = 0 := sm_zero fun j hj => by rw [h j hj]; grind
theorem sm_nonneg {n : Nat} {f : Nat -> Rat} (h : ∀ i, i < n -> 0 <= f i) : 0 <= sm n f := by
  induction n with
  | zero => exact Rat.le_refl
  | succ n ih => unfold sm; have := ih fun i hi => h i (by omega); have := h n (by omega); grind
theorem sm_pos_zero {n : Nat} {f : Nat -> Rat} (h : ∀ i, i < n -> 0 <= f i) (h0 : sm n f = 0) : ∀ i, i < n -> f i = 0 := by
  induction n with
  | zero => intro i hi; omega
  | succ n ih =>
    unfold sm at h0
    have h1 := sm_nonneg (n := n) fun i hi => h i (by omega)
    have h2 := h n (by omega)
    have h3 : sm n f = 0 := by grind
    have h4 : f n = 0 := by grind
    intro i hi
    by_cases e : i = n
    · subst e; exact h4
    · exact ih (fun i hi => h i (by omega)) h3 i (by omega)
theorem sq_nonneg (a : Rat) : 0 <= a * a := by
  rcases Rat.le_total (a := 0) (b := a) with h | h
  · exact Rat.mul_nonneg h h
  · have : 0 <= (-a) * (-a) := Rat.mul_nonneg (by grind) (by grind)
    grind
theorem dot_self {c : Nat} {u : Vec} (h : dot c u u = 0) : ∀ j, j < c -> u j = 0 := fun j hj => by
  have := sm_pos_zero (fun i _ => sq_nonneg (u i)) h j hj
  rcases Rat.mul_eq_zero.1 this with e | e <;> exact e
theorem nz_of {c : Nat} {u : Vec} (h : ¬ ∀ j, j < c -> u j = 0) : nz c u := by
  apply Classical.byContradiction
  intro hn
  exact h fun j hj => Classical.byContradiction fun e => hn ⟨j, hj, e⟩
theorem nz.not {c : Nat} {u : Vec} (h : nz c u) : ¬ ∀ j, j < c -> u j = 0 := fun k => let ⟨j, hj, e⟩ := h; e (k j hj)
theorem nz_dot {c : Nat} {u v : Vec} (h : dot c u v ≠ 0) : nz c u := nz_of fun k => h (dot_zero k)
def cntGe (c : Nat) (u : Vec) (z : List Vec) : Nat := z.countP fun v => decide (0 <= dot c u v)
def posN (c : Nat) (u : Vec) (z : List Vec) : Nat := z.countP fun v => decide (0 < dot c u v)
def onL (c : Nat) (u : Vec) (z : List Vec) : List Vec := z.filter fun v => decide (dot c u v = 0)
def IsDep (c : Nat) (z : List Vec) (k : Nat) : Prop := (∃ u, nz c u /\ cntGe c u z = k) /\ ∀ u, nz c u -> k <= cntGe c u z
theorem least_ex {P : Nat -> Prop} (n : Nat) (h : P n) : ∃ k, P k /\ ∀ m, P m -> k <= m := by
  induction n using Nat.strongRecOn with
  | _ n ih =>
    by_cases hs : ∃ m, m < n /\ P m
    · obtain ⟨m, h1, h2⟩ := hs; exact ih m h1 h2
    · exact ⟨n, h, fun m hm => by
        rcases Nat.lt_or_ge m n with h1 | h1
        · exact absurd ⟨m, h1, hm⟩ hs
        · exact h1⟩
theorem dep_ex {c : Nat} (hc : 0 < c) (z : List Vec) : ∃ k, IsDep c z k := by
  obtain ⟨k, h1, h2⟩ := least_ex (P := fun k => ∃ u, nz c u /\ cntGe c u z = k) (cntGe c (fun _ => 1) z) ⟨fun _ => 1, ⟨0, hc, by grind⟩, rfl⟩
  exact ⟨k, h1, fun u hu => h2 _ ⟨u, hu, rfl⟩⟩
theorem cntGe_le (c : Nat) (u : Vec) (z : List Vec) : cntGe c u z <= z.length := List.countP_le_length
theorem IsDep.le {c : Nat} {z : List Vec} {k : Nat} (h : IsDep c z k) : k <= z.length := by
  obtain ⟨⟨u, _, h2⟩, _⟩ := h; rw [<- h2]; exact cntGe_le _ _ _
def Calm (c : Nat) (u y : Vec) (z : List Vec) (e : Rat) : Prop := ∀ v ∈ z, (0 < dot c u v -> ∀ t, 0 < t -> t <= e -> 0 < dot c u v + t * dot c y v) /\ (dot c u v < 0 -> ∀ t, 0 < t -> t <= e -> dot c u v + t * dot c y v < 0)
theorem calm1 (a b : Rat) : ∃ e, 0 < e /\ (0 < a -> ∀ t, 0 < t -> t <= e -> 0 < a + t * b) := by
  by_cases ha : 0 < a
  · by_cases hb : 0 <= b
    · exact ⟨1, by decide, fun _ t h1 _ => by have := Rat.mul_nonneg (a := t) (b := b) (by grind) hb; grind⟩
    · have hb' : 0 < -b := by grind
      refine ⟨a / (2 * -b), ?_, fun _ t h1 h2 => ?_⟩
      · rw [Rat.div_def]; exact Rat.mul_pos ha (Rat.inv_pos.2 (by grind))
      · have h3 : t * (2 * -b) <= a / (2 * -b) * (2 * -b) := Rat.mul_le_mul_of_nonneg_right h2 (by grind)
        rw [Rat.div_mul_cancel (by grind)] at h3
        have h4 := Rat.mul_pos h1 hb'
        grind
  · exact ⟨1, by decide, fun h => absurd h ha⟩
theorem Calm.le {c : Nat} {u y : Vec} {z : List Vec} {e d : Rat} (h : Calm c u y z e) (hd : d <= e) : Calm c u y z d := fun v hv =>
  ⟨fun h1 t h2 h3 => (h v hv).1 h1 t h2 (Rat.le_trans h3 hd), fun h1 t h2 h3 => (h v hv).2 h1 t h2 (Rat.le_trans h3 hd)⟩
theorem calm_ex (c : Nat) (u y : Vec) (z : List Vec) : ∃ e, 0 < e /\ Calm c u y z e := by
  induction z with
  | nil => exact ⟨1, by decide, fun v hv => by simp at hv⟩
  | cons v z ih =>
    obtain ⟨e1, h1, h2⟩ := ih
    obtain ⟨e2, h3, h4⟩ := calm1 (dot c u v) (dot c y v)
    obtain ⟨e3, h5, h6⟩ := calm1 (-dot c u v) (-dot c y v)
    obtain ⟨e, he, l1, l2, l3⟩ : ∃ e, 0 < e /\ e <= e1 /\ e <= e2 /\ e <= e3 := by
      by_cases a : e1 <= e2
      · by_cases b : e1 <= e3
        · exact ⟨e1, h1, Rat.le_refl, a, b⟩
        · exact ⟨e3, h5, by grind, by grind, Rat.le_refl⟩
      · by_cases b : e2 <= e3
        · exact ⟨e2, h3, by grind, Rat.le_refl, b⟩
        · exact ⟨e3, h5, by grind, by grind, Rat.le_refl⟩
    refine ⟨e, he, fun w hw => ?_⟩
    rcases List.mem_cons.1 hw with rfl | hw
    · refine ⟨fun g t g1 g2 => h4 g t g1 (Rat.le_trans g2 l2), fun g t g1 g2 => ?_⟩
      have := h6 (by grind) t g1 (Rat.le_trans g2 l3)
      grind
    · exact (h2.le l1) w hw
theorem cnt_split (c : Nat) (u u' u2 : Vec) (z : List Vec) (h : ∀ v ∈ z, (0 < dot c u v -> 0 < dot c u2 v) /\ (dot c u v < 0 -> dot c u2 v < 0) /\ (dot c u v = 0 -> (0 <= dot c u2 v ↔ 0 <= dot c u' v))) : cntGe c u2 z = posN c u z + cntGe c u' (onL c u z) := by
  induction z with
  | nil => rfl
  | cons v z ih =>
    have ih := ih fun w hw => h w (List.mem_cons_of_mem _ hw)
    obtain ⟨h1, h2, h3⟩ := h v List.mem_cons_self
    unfold cntGe posN onL at *
    rw [List.countP_cons, List.countP_cons, List.filter_cons, ih]
    by_cases a : 0 < dot c u v
    · have b := h1 a
      rw [if_pos (by simp; grind), if_pos (by simpa using a), if_neg (by simp; grind)]; omega
    · by_cases b : dot c u v = 0
      · have k := h3 b
        rw [if_neg (c := decide (0 < dot c u v) = true) (by simpa using a), if_pos (c := decide (dot c u v = 0) = true) (by simpa using b), List.countP_cons]
        by_cases g : 0 <= dot c u2 v
        · rw [if_pos (by simpa using g), if_pos (by simpa using k.1 g)]; omega
        · rw [if_neg (by simpa using g), if_neg (by simpa using fun x => g (k.2 x))]; omega
      · have k := h2 (by grind)
        rw [if_neg (by simp; grind), if_neg (by simpa using a), if_neg (by simpa using b)]; omega
theorem turn {c : Nat} {u u' : Vec} (hu : nz c u) (z : List Vec) : ∃ u2, nz c u2 /\ cntGe c u2 z = posN c u z + cntGe c u' (onL c u z) := by
  obtain ⟨j, hj, hne⟩ := hu
  have hun : dot c u (fun i => if i = j then 1 else 0) = u j := by
    unfold dot; rw [sm_one j hj (fun i _ h => by simp [h])]; simp
  obtain ⟨e, he, hc⟩ := calm_ex c u u' ((fun i => if i = j then 1 else 0) :: z)
  refine ⟨fun i => u i + e * u' i, ?_, cnt_split c u u' _ z fun v hv => ⟨fun h => ?_, fun h => ?_, fun h => ?_⟩⟩
  · have hh := hc _ List.mem_cons_self
    rw [hun] at hh
    apply nz_dot (v := fun i => if i = j then 1 else 0)
    rw [dot_lin, hun]
    by_cases h : 0 < u j
    · have := hh.1 h e he Rat.le_refl; grind
    · have := hh.2 (by grind) e he Rat.le_refl; grind
  · rw [dot_lin]; exact (hc v (List.mem_cons_of_mem _ hv)).1 h e he Rat.le_refl
  · rw [dot_lin]; exact (hc v (List.mem_cons_of_mem _ hv)).2 h e he Rat.le_refl
  · rw [dot_lin, h]
    constructor
    · intro h2
      apply Classical.byContradiction; intro h3
      have := Rat.mul_pos he (show 0 < - dot c u' v by grind)
      grind
    · intro h2; have := Rat.mul_nonneg (Rat.le_of_lt he) h2; grind
theorem IsDep.lower {c : Nat} {z : List Vec} {k l : Nat} (h : IsDep c z k) {u : Vec} (hu : nz c u) (hl : IsDep c (onL c u z) l) : k <= posN c u z + l := by
  obtain ⟨⟨u', h1, h2⟩, _⟩ := hl
  obtain ⟨u2, h3, h4⟩ := turn (u' := u') hu z
  have := h.2 u2 h3
  omega
end Go.Lin
namespace Go.Lin
def Sgn (c : Nat) (z : List Vec) (u x : Vec) : Prop := ∀ v ∈ z, (0 < dot c u v -> 0 <= dot c x v) /\ (dot c u v < 0 -> dot c x v <= 0) /\ (dot c u v = 0 -> dot c x v = 0)
def Vertex (c : Nat) (W : Vec -> Prop) (z : List Vec) (x : Vec) : Prop := W x /\ nz c x /\ ∀ y, W y -> (∀ v ∈ onL c x z, dot c y v = 0) -> ∃ t : Rat, ∀ j, j < c -> y j = t * x j
structure Dirs (c : Nat) (z : List Vec) (W : Vec -> Prop) : Prop where
  lin : ∀ u y t, W u -> W y -> W (fun j => u j + t * y j)
  zero : ∀ y, W y -> (∀ v ∈ z, dot c y v = 0) -> ∀ j, j < c -> y j = 0
  all : ∀ u, ∃ x, W x /\ ∀ v ∈ z, dot c x v = dot c u v
  some_ : ∃ u, W u /\ nz c u
theorem min_ex {P : Vec -> Prop} (f : Vec -> Rat) (z : List Vec) (h : ∃ v ∈ z, P v) : ∃ v ∈ z, P v /\ ∀ w ∈ z, P w -> f v <= f w := by
  induction z with
  | nil => obtain ⟨v, hv, _⟩ := h; simp at hv
  | cons a z ih =>
    by_cases hz : ∃ v ∈ z, P v
    · obtain ⟨v, h1, h2, h3⟩ := ih hz
      by_cases ha : P a /\ f a <= f v
      · exact ⟨a, List.mem_cons_self, ha.1, fun w hw hp => by
          rcases List.mem_cons.1 hw with rfl | hw
          · exact Rat.le_refl
          · exact Rat.le_trans ha.2 (h3 w hw hp)⟩
      · exact ⟨v, List.mem_cons_of_mem _ h1, h2, fun w hw hp => by
          rcases List.mem_cons.1 hw with rfl | hw
          · have : ¬ f w <= f v := fun h => ha ⟨hp, h⟩
            grind
          · exact h3 w hw hp⟩
    · obtain ⟨v, hv, hp⟩ := h
      rcases List.mem_cons.1 hv with rfl | hv
      · exact ⟨v, List.mem_cons_self, hp, fun w hw hq => by
          rcases List.mem_cons.1 hw with rfl | hw
          · exact Rat.le_refl
          · exact absurd ⟨w, hw, hq⟩ hz⟩
      · exact absurd ⟨v, hv, hp⟩ hz
theorem countP_lt {α : Type} {p q : α -> Bool} {l : List α} (h : ∀ x ∈ l, p x = true -> q x = true) {a : α} (ha : a ∈ l) (h1 : p a = false) (h2 : q a = true) : l.countP p < l.countP q := by
  induction l with
  | nil => simp at ha
  | cons b l ih =>
    have hle : l.countP p <= l.countP q := List.countP_mono_left fun x hx => h x (List.mem_cons_of_mem _ hx)
    rw [List.countP_cons, List.countP_cons]
    rcases List.mem_cons.1 ha with rfl | ha
    · rw [h1, h2]; simp; omega
    · have := ih (fun x hx => h x (List.mem_cons_of_mem _ hx)) ha
      have hb := h b List.mem_cons_self
      cases hp : p b <;> cases hq : q b <;> simp_all <;> omega
theorem vertex_ex {c : Nat} {z : List Vec} {W : Vec -> Prop} (hW : Dirs c z W) : ∀ (n : Nat) (u : Vec), W u -> nz c u -> z.countP (fun v => decide (dot c u v ≠ 0)) = n -> ∃ x, Vertex c W z x /\ Sgn c z u x := by
  intro n
  induction n using Nat.strongRecOn with
  | _ n ih =>
    intro u hu hn hc
    by_cases hv : Vertex c W z u
    · exact ⟨u, hv, fun v _ => ⟨Rat.le_of_lt, Rat.le_of_lt, id⟩⟩
    · obtain ⟨y, hy, hy0, hyn⟩ : ∃ y, W y /\ (∀ v ∈ onL c u z, dot c y v = 0) /\ ∀ t : Rat, ¬ ∀ j, j < c -> y j = t * u j := by
        apply Classical.byContradiction
        intro h
        refine hv ⟨hu, hn, fun y h1 h2 => Classical.byContradiction fun h3 => h ⟨y, h1, h2, fun t h4 => h3 ⟨t, h4⟩⟩⟩
      obtain ⟨v0, hv0, hv1⟩ : ∃ v ∈ z, dot c y v ≠ 0 := by
        apply Classical.byContradiction
        intro h
        have := hW.zero y hy fun v hv => Classical.byContradiction fun e => h ⟨v, hv, e⟩
        exact hyn 0 fun j hj => by rw [this j hj]; grind
      have hu0 : ∀ v ∈ z, dot c u v = 0 -> dot c y v = 0 := fun v hv h => hy0 v (List.mem_filter.2 ⟨hv, by simpa using h⟩)
      obtain ⟨y', hy', hy0', hyn', hneg⟩ : ∃ y', W y' /\ (∀ v ∈ z, dot c u v = 0 -> dot c y' v = 0) /\ (∀ t : Rat, ¬ ∀ j, j < c -> y' j = t * u j) /\ ∃ v ∈ z, dot c y' v * dot c u v < 0 := by
        have huv : dot c u v0 ≠ 0 := fun h => hv1 (hu0 v0 hv0 h)
        by_cases hs : dot c y v0 * dot c u v0 < 0
        · exact ⟨y, hy, hu0, hyn, v0, hv0, hs⟩
        · have hne : dot c y v0 * dot c u v0 ≠ 0 := fun h => by rcases Rat.mul_eq_zero.1 h with e | e <;> contradiction
          have hd : ∀ v, dot c (fun j => y j + -2 * y j) v = - dot c y v := fun v => by rw [dot_lin]; grind
          refine ⟨fun j => y j + -2 * y j, hW.lin y y (-2) hy hy, fun v hv h => by rw [hd, hu0 v hv h]; grind, fun t h => hyn (-t) fun j hj => by have := h j hj; grind, v0, hv0, ?_⟩
          rw [hd]; grind
      obtain ⟨w, hw, hwn, hmin⟩ := min_ex (fun v => - dot c u v / dot c y' v) z hneg
      have hne : dot c y' w ≠ 0 := fun h => by rw [h] at hwn; grind
      have hnu : dot c u w ≠ 0 := fun h => by rw [h] at hwn; grind
      obtain ⟨t, ht⟩ : ∃ t, - dot c u w / dot c y' w = t := ⟨_, rfl⟩
      have htw : t * dot c y' w = - dot c u w := by rw [<- ht]; exact Rat.div_mul_cancel hne
      have htp : 0 < t := by
        apply Classical.byContradiction
        intro h
        have h1 := Rat.mul_nonneg (show 0 <= -t by grind) (sq_nonneg (dot c y' w))
        have h2 : t * (dot c y' w * dot c y' w) = - dot c u w * dot c y' w := by rw [<- htw]; grind
        grind
      have hstep : ∀ v ∈ z, (0 < dot c u v -> 0 <= dot c u v + t * dot c y' v) /\ (dot c u v < 0 -> dot c u v + t * dot c y' v <= 0) := fun v hv => by
        by_cases hs : dot c y' v * dot c u v < 0
        · have h1 := hmin v hv hs
          rw [ht] at h1
          have hne2 : dot c y' v ≠ 0 := fun h => by rw [h] at hs; grind
          have h3 : - dot c u v / dot c y' v * dot c y' v = - dot c u v := Rat.div_mul_cancel hne2
          constructor
          · intro hp
            have hyneg : dot c y' v < 0 := by
              apply Classical.byContradiction; intro h
              have := Rat.mul_nonneg (show 0 <= dot c y' v by grind) (Rat.le_of_lt hp); grind
            have h4 := Rat.mul_le_mul_of_nonneg_right h1 (show 0 <= - dot c y' v by grind)
            grind
          · intro hp
            have hypos : 0 < dot c y' v := by
              apply Classical.byContradiction; intro h
              have := Rat.mul_nonneg (show 0 <= - dot c y' v by grind) (show 0 <= - dot c u v by grind); grind
            have h4 := Rat.mul_le_mul_of_nonneg_right h1 (Rat.le_of_lt hypos)
            grind
        · constructor
          · intro hp
            have : 0 <= dot c y' v := by
              apply Classical.byContradiction; intro h
              have := Rat.mul_pos (show 0 < - dot c y' v by grind) hp; grind
            have := Rat.mul_nonneg (Rat.le_of_lt htp) this
            grind
          · intro hp
            have : dot c y' v <= 0 := by
              apply Classical.byContradiction; intro h
              have := Rat.mul_pos (show 0 < dot c y' v by grind) (show 0 < - dot c u v by grind); grind
            have := Rat.mul_nonneg (Rat.le_of_lt htp) (show 0 <= - dot c y' v by grind)
            grind
      have hz2 : ∀ v ∈ z, dot c u v = 0 -> dot c u v + t * dot c y' v = 0 := fun v hv h => by rw [h, hy0' v hv h]; grind
      have hw0 : dot c u w + t * dot c y' w = 0 := by rw [htw]; grind
      obtain ⟨x, hx1, hx2⟩ := ih _ (by
        rw [<- hc]
        refine countP_lt (p := fun v => decide (dot c (fun j => u j + t * y' j) v ≠ 0)) (fun v hv h => ?_) hw ?_ (by simpa using hnu)
        · simp only [decide_eq_true_eq] at h |-
          intro e
          rw [dot_lin] at h
          exact h (hz2 v hv e)
        · exact decide_eq_false fun h => h (by rw [dot_lin]; exact hw0)) (fun j => u j + t * y' j) (hW.lin u y' t hu hy') (nz_of fun h => hyn' (-(1 / t)) fun j hj => by
            have h1 := h j hj
            have h2 : 1 / t * t = 1 := Rat.div_mul_cancel (by grind)
            have h3 : 1 / t * (u j + t * y' j) = 0 := by rw [h1]; grind
            have h4 : 1 / t * (t * y' j) = y' j := by rw [<- Rat.mul_assoc, h2]; grind
            rw [Rat.mul_add, h4] at h3
            grind) rfl
      refine ⟨x, hx1, fun v hv => ?_⟩
      obtain ⟨g1, g2, g3⟩ := hx2 v hv
      rw [dot_lin] at g1 g2 g3
      obtain ⟨s1, s2⟩ := hstep v hv
      refine ⟨fun h => ?_, fun h => ?_, fun h => g3 (hz2 v hv h)⟩
      · have := s1 h
        by_cases e : dot c u v + t * dot c y' v = 0
        · rw [g3 e]; exact Rat.le_refl
        · exact g1 (by grind)
      · have := s2 h
        by_cases e : dot c u v + t * dot c y' v = 0
        · rw [g3 e]; exact Rat.le_refl
        · exact g2 (by grind)
theorem cnt_vertex {c : Nat} {z : List Vec} {u x : Vec} (h : Sgn c z u x) : cntGe c u z = posN c x z + cntGe c u (onL c x z) :=
  cnt_split c x u u z fun v hv => by
    obtain ⟨h1, h2, h3⟩ := h v hv
    refine ⟨fun g => ?_, fun g => ?_, fun _ => Iff.rfl⟩
    · apply Classical.byContradiction; intro k
      by_cases e : dot c u v = 0
      · have := h3 e; grind
      · have := h2 (by grind); grind
    · apply Classical.byContradiction; intro k
      by_cases e : dot c u v = 0
      · have := h3 e; grind
      · have := h1 (by grind); grind
theorem pos_on_le (c : Nat) (x : Vec) (z : List Vec) : posN c x z + (onL c x z).length <= z.length := by
  have := cnt_split c x (fun _ => 0) x z fun v _ => ⟨id, id, fun h => by rw [h, dot_zero (u := fun _ => 0) (fun _ _ => rfl)]⟩
  have h2 := cntGe_le c x z
  have h3 : cntGe c (fun _ => 0) (onL c x z) = (onL c x z).length := by
    unfold cntGe
    rw [List.countP_eq_length]
    intro v _
    rw [dot_zero (u := fun _ => 0) (fun _ _ => rfl)]
    exact decide_eq_true Rat.le_refl
  omega
theorem IsDep.upper {c : Nat} {z : List Vec} {W : Vec -> Prop} (hW : Dirs c z W) {k : Nat} (h : IsDep c z k) : ∃ x, Vertex c W z x /\ ∀ l, IsDep c (onL c x z) l -> posN c x z + l <= k := by
  obtain ⟨⟨u, hu, hk⟩, _⟩ := h
  obtain ⟨y, hy, hyu⟩ := hW.all u
  have hky : cntGe c y z = k := by
    rw [<- hk]
    unfold cntGe
    exact List.countP_congr fun v hv => by rw [hyu v hv]
  by_cases hn : nz c y
  · obtain ⟨x, h1, h2⟩ := vertex_ex hW _ y hy hn rfl
    refine ⟨x, h1, fun l hl => ?_⟩
    have := cnt_vertex h2
    have := hl.2 y hn
    omega
  · obtain ⟨s, hs, hsn⟩ := hW.some_
    obtain ⟨x, h1, _⟩ := vertex_ex hW _ s hs hsn rfl
    refine ⟨x, h1, fun l hl => ?_⟩
    have hall : cntGe c y z = z.length := by
      unfold cntGe
      rw [List.countP_eq_length]
      intro v _
      have : dot c y v = 0 := dot_zero fun j hj => Classical.byContradiction fun e => hn ⟨j, hj, e⟩
      rw [this]; exact decide_eq_true Rat.le_refl
    have := pos_on_le c x z
    have := hl.le
    omega
end Go.Lin
namespace Go.Lin
def Ort (c : Nat) (M : List Vec) (y : Vec) : Prop := ∀ v ∈ M, dot c v y = 0
theorem Ort.app {c : Nat} {M L : List Vec} {y : Vec} : Ort c (M ++ L) y ↔ Ort c M y /\ Ort c L y := by
  constructor
  · exact fun h => ⟨fun v hv => h v (List.mem_append_left _ hv), fun v hv => h v (List.mem_append_right _ hv)⟩
  · rintro ⟨h1, h2⟩ v hv
    rcases List.mem_append.1 hv with hv | hv
    · exact h1 v hv
    · exact h2 v hv
theorem dot_linr (c : Nat) (v u y : Vec) (t : Rat) : dot c v (fun j => u j + t * y j) = dot c v u + t * dot c v y := by
  rw [dot_comm, dot_lin, dot_comm c u v, dot_comm c y v]
theorem Ort.lin {c : Nat} {M : List Vec} {u y : Vec} (t : Rat) (hu : Ort c M u) (hy : Ort c M y) : Ort c M (fun j => u j + t * y j) := fun v hv => by
  rw [dot_linr, hu v hv, hy v hv]; grind
theorem Ort.congr {c : Nat} {M : List Vec} {u y : Vec} (h : ∀ j, j < c -> u j = y j) (hu : Ort c M u) : Ort c M y := fun v hv => by
  rw [dot_comm, <- dot_congr h, dot_comm]; exact hu v hv
theorem dot_cmb (c k : Nat) (f : F2) (a : Vec) (v : Vec) : dot c v (fun j => cmb k f a j) = sm k fun i => a i * dot c v (f i) := by
  unfold dot cmb
  rw [sm_congr (g := fun j => sm k fun i => v j * (a i * f i j)) fun j _ => (sm_mul k (v j) _).symm, sm_comm]
  exact sm_congr fun i _ => by rw [<- sm_mul]; exact sm_congr fun j _ => by grind
structure Basis (c : Nat) (P : Vec -> Prop) (k : Nat) (f : F2) : Prop where
  mem : ∀ i, i < k -> P (f i)
  li : LI k c f
  span : ∀ y, P y -> ∃ a : Vec, ∀ j, j < c -> y j = cmb k f a j
theorem li_le {k m c : Nat} {f g : F2} (hf : LI k c f) (h : ∀ i, i < k -> ∃ a : Vec, ∀ j, j < c -> f i j = cmb m g a j) : k <= m := by
  obtain ⟨r, p, d, hr, h1⟩ := rref_ex k c f
  have h2 := hf.full hr h1
  have h3 : ∀ i, ∃ a : Vec, i < k -> ∀ j, j < c -> f i j = cmb m g a j := fun i => by
    by_cases hi : i < k
    · obtain ⟨a, ha⟩ := h i hi; exact ⟨a, fun _ => ha⟩
    · exact ⟨fun _ => 0, fun h => absurd h hi⟩
  have := rank_le hr h1 (fun i => (h3 i).choose) g fun i hi j hj => (h3 i).choose_spec hi j hj
  omega
theorem Basis.le {c : Nat} {P Q : Vec -> Prop} {k m : Nat} {f g : F2} (h : Basis c P k f) (h' : Basis c Q m g) (hPQ : ∀ y, P y -> Q y) : k <= m :=
  li_le h.li fun i hi => h'.span _ (hPQ _ (h.mem i hi))
theorem nul_span {n c : Nat} {r : F2} {p : List Nat} (h : Rref n c r p) {x : Vec} (hx : Nul n c r x) (j : Nat) (hj : j < c) : x j = cmb (nullL r p c).length (ent (nullL r p c)) (fun i => x (((List.range c).filter (· ∉ p)).getD i 0)) j := by
  obtain ⟨F, hF⟩ : ∃ F, (List.range c).filter (· ∉ p) = F := ⟨_, rfl⟩
  have hlen : (nullL r p c).length = F.length := by rw [<- hF]; simp [nullL]
  have he : ∀ i (hi : i < F.length), ent (nullL r p c) i j = nv r p F[i] j := fun i hi => by
    unfold ent nullL
    rw [hF, List.getD_eq_getElem?_getD (l := List.map _ _), List.getElem?_map, List.getElem?_eq_getElem hi]
    simp only [Option.map_some, Option.getD_some]
    rw [List.getD_eq_getElem?_getD, List.getElem?_map, List.getElem?_range hj]; rfl
  have hFm : ∀ q, q ∈ F ↔ q < c /\ q ∉ p := fun q => by rw [<- hF]; simp
  have hnd : F.Pairwise (· < ·) := by rw [<- hF]; exact List.Pairwise.filter _ List.pairwise_lt_range
  have hgd : ∀ i (hi : i < F.length), F.getD i 0 = F[i] := fun i hi => by simp [List.getD_eq_getElem?_getD, hi]
  rw [hF, hlen]
  unfold cmb
  rw [sm_congr (g := fun i => x (F.getD i 0) * nv r p (F.getD i 0) j) fun i hi => by rw [he i hi]; dsimp only; rw [hgd i hi]]
  by_cases hjp : j ∈ p
  · obtain ⟨i0, hi0, rfl⟩ := List.getElem_of_mem hjp
    have hn : ∀ q, q ∉ p -> nv r p q p[i0] = - r i0 q := fun q hq => h.nv_piv hq i0 hi0
    have hrow := h.row i0 hi0 x
    have h0 := hx i0 (by have := h.le; omega)
    rw [hrow] at h0
    have key : ∀ (g : Nat -> Rat), sm F.length (fun i => g (F.getD i 0)) = sm c (fun q => if q ∈ p then 0 else g q) := fun g => by
      have gen : ∀ (k : Nat) (G : List Nat), G = (List.range k).filter (· ∉ p) -> sm G.length (fun i => g (G.getD i 0)) = sm k (fun q => if q ∈ p then 0 else g q) := by
        intro k
        induction k with
        | zero => intro G hG; subst hG; rfl
        | succ k ih =>
          intro G hG
          rw [List.range_succ, List.filter_append] at hG
          have ih := ih _ rfl
          show _ = sm k _ + _
          by_cases hk : k ∈ p
          · have : (List.filter (· ∉ p) [k]) = [] := by simp [hk]
            rw [this, List.append_nil] at hG
            subst hG
            rw [ih]; simp [hk]; grind
          · have : (List.filter (· ∉ p) [k]) = [k] := by simp [hk]
            rw [this] at hG
            subst hG
            obtain ⟨H, hH⟩ : ∃ H, List.filter (· ∉ p) (List.range k) = H := ⟨_, rfl⟩
            rw [hH] at ih |-
            rw [List.length_append, <- ih]
            show sm H.length _ + _ = _
            congr 1
            · exact sm_congr fun i hi => by simp [List.getD_eq_getElem?_getD, List.getElem?_append_left hi]
            · simp [hk, List.getD_eq_getElem?_getD]
      exact gen c F hF.symm
    have k1 := key (fun q => x q * - r i0 q)
    have k2 : sm c (fun q => if q ∈ p then 0 else x q * - r i0 q) = - sm c (fun q => if q ∈ p then 0 else r i0 q * x q) := by
      have := sm_mul c (-1) (fun q => if q ∈ p then 0 else r i0 q * x q)
      rw [show -sm c (fun q => if q ∈ p then 0 else r i0 q * x q) = -1 * sm c (fun q => if q ∈ p then 0 else r i0 q * x q) by grind, <- this]
      exact sm_congr fun q _ => by split <;> grind
    have k3 : sm F.length (fun i => x (F.getD i 0) * nv r p (F.getD i 0) p[i0]) = sm F.length (fun i => x (F.getD i 0) * - r i0 (F.getD i 0)) := sm_congr fun i hi => by
      rw [hgd i hi, hn _ ((hFm _).1 (List.getElem_mem hi)).2]
    rw [k3, k1, k2]
    grind
  · obtain ⟨i0, hi0, hij⟩ := List.getElem_of_mem ((hFm j).2 ⟨hj, hjp⟩)
    rw [sm_one i0 hi0 fun i hi hne => by
      rw [hgd i hi]
      have : F[i] ≠ j := fun e => by
        rw [List.pairwise_iff_getElem] at hnd
        rcases Nat.lt_or_gt_of_ne hne with a | a
        · have := hnd i i0 hi hi0 a; omega
        · have := hnd i0 i hi0 hi a; omega
      rw [nv_free hjp (Ne.symm this)]; grind]
    rw [hgd i0 hi0, hij, nv_self]; grind
theorem basis_null {n c : Nat} {f r : F2} {p : List Nat} {d : Rat} (hr : Rref n c r p) (h : RE n c f r d) : Basis c (Nul n c f) (nullL r p c).length (ent (nullL r p c)) := by
  refine ⟨fun i hi => ?_, nullL_li r p c, fun y hy => ⟨_, fun j hj => nul_span hr ((h.nul y).1 hy) j hj⟩⟩
  have hi' : i < ((List.range c).filter (· ∉ p)).length := by simpa [nullL] using hi
  have hm := List.getElem_mem hi'
  rw [List.mem_filter, List.mem_range] at hm
  have hnp : ((List.range c).filter (· ∉ p))[i] ∉ p := by simpa using hm.2
  have h1 := (h.nul _).2 (hr.nv_nul hnp hm.1)
  intro q hq
  rw [<- h1 q hq]
  refine sm_congr fun j hj => ?_
  congr 1
  unfold ent nullL
  rw [List.getD_eq_getElem?_getD (l := List.map _ _), List.getElem?_map, List.getElem?_eq_getElem hi']
  simp only [Option.map_some, Option.getD_some]
  rw [List.getD_eq_getElem?_getD, List.getElem?_map, List.getElem?_range hj]; rfl
def fL (M : List Vec) : F2 := fun i => M.getD i fun _ => 0
theorem ort_nul (c : Nat) (M : List Vec) (y : Vec) : Ort c M y ↔ Nul M.length c (fL M) y := by
  constructor
  · intro h i hi
    have := h M[i] (List.getElem_mem hi)
    unfold dot at this
    rw [<- this]
    exact sm_congr fun j _ => by simp [fL, List.getD_eq_getElem?_getD, hi]
  · intro h v hv
    obtain ⟨i, hi, rfl⟩ := List.getElem_of_mem hv
    have := h i hi
    unfold dot
    rw [<- this]
    exact sm_congr fun j _ => by simp [fL, List.getD_eq_getElem?_getD, hi]
def Dim (c : Nat) (M : List Vec) (k : Nat) : Prop := ∃ f, Basis c (Ort c M) k f
theorem Basis.of_iff {c : Nat} {P Q : Vec -> Prop} {k : Nat} {f : F2} (h : Basis c P k f) (hPQ : ∀ y, P y ↔ Q y) : Basis c Q k f :=
  ⟨fun i hi => (hPQ _).1 (h.mem i hi), h.li, fun y hy => h.span y ((hPQ y).2 hy)⟩
theorem dim_ex (c : Nat) (M : List Vec) : ∃ k, Dim c M k := by
  obtain ⟨r, p, d, hr, h⟩ := rref_ex M.length c (fL M)
  exact ⟨_, _, (basis_null hr h).of_iff fun y => (ort_nul c M y).symm⟩
theorem Dim.iff {c : Nat} {M L : List Vec} {k : Nat} (h : Dim c M k) (hML : ∀ y, Ort c M y ↔ Ort c L y) : Dim c L k := let ⟨f, hf⟩ := h; ⟨f, hf.of_iff hML⟩
theorem Dim.more {c : Nat} {M : List Vec} {k : Nat} (h : Dim c M (k + 1)) {v y : Vec} (hy : Ort c M y) (hv : dot c v y ≠ 0) : Dim c (M ++ [v]) k := by
  obtain ⟨f, hf⟩ := h
  obtain ⟨m, g, hg⟩ := dim_ex c (M ++ [v])
  have hext : ∀ a j, cmb (m + 1) (fun i => if i < m then g i else y) a j = cmb m g a j + a m * y j := fun a j => by
    unfold cmb
    show sm m _ + _ = _
    congr 1
    · exact sm_congr fun i hi => by simp [hi]
    · simp
  have hgo : ∀ i, i < m -> Ort c M (g i) /\ dot c v (g i) = 0 := fun i hi => by
    have := Ort.app.1 (hg.mem i hi)
    exact ⟨this.1, this.2 v (by simp)⟩
  have h1 : m + 1 <= k + 1 := by
    refine li_le (c := c) (f := fun i => if i < m then g i else y) (g := f) (fun a ha => ?_) fun i hi => ?_
    · have h0 : dot c v (fun j => cmb m g a j + a m * y j) = 0 := by
        rw [dot_comm]; exact dot_zero fun j hj => by rw [<- hext]; exact ha j hj
      rw [dot_linr c v (fun j => cmb m g a j) y (a m), dot_cmb, sm_zero fun i hi => by rw [(hgo i hi).2]; grind] at h0
      have ham : a m = 0 := by
        have : a m * dot c v y = 0 := by grind
        rcases Rat.mul_eq_zero.1 this with e | e
        · exact e
        · contradiction
      have h2 := hg.li a fun j hj => by have := ha j hj; rw [hext, ham] at this; grind
      intro i hi
      by_cases e : i = m
      · subst e; exact ham
      · exact h2 i (by omega)
    · by_cases hi' : i < m
      · obtain ⟨a, ha⟩ := hf.span _ (hgo i hi').1
        exact ⟨a, fun j hj => by simp only [hi', if_true]; exact ha j hj⟩
      · obtain ⟨a, ha⟩ := hf.span _ hy
        exact ⟨a, fun j hj => by simp only [hi', if_false]; exact ha j hj⟩
  have h2 : k + 1 <= m + 1 := by
    refine li_le (c := c) (f := f) (g := fun i => if i < m then g i else y) hf.li fun i hi => ?_
    have hfi := hf.mem i hi
    obtain ⟨t, ht⟩ : ∃ t, dot c v (f i) / dot c v y = t := ⟨_, rfl⟩
    have ht2 : t * dot c v y = dot c v (f i) := by rw [<- ht]; exact Rat.div_mul_cancel hv
    obtain ⟨a, ha⟩ := hg.span (fun j => f i j + -t * y j) (Ort.app.2 ⟨hfi.lin (-t) hy, fun w hw => by
      have : w = v := by simpa using hw
      subst this
      rw [dot_linr]; grind⟩)
    refine ⟨fun q => if q < m then a q else t, fun j hj => ?_⟩
    rw [hext]
    have h3 := ha j hj
    have h4 : cmb m g (fun q => if q < m then a q else t) j = cmb m g a j := sm_congr fun q hq => by simp [hq]
    simp only [Nat.lt_irrefl, if_false]
    rw [h4]; grind
  have : m = k := by omega
  subst this
  exact ⟨g, hg⟩
theorem Dim.one {c : Nat} {M : List Vec} (h : Dim c M 1) {x : Vec} (hx : Ort c M x) (hn : nz c x) (y : Vec) (hy : Ort c M y) : ∃ t : Rat, ∀ j, j < c -> y j = t * x j := by
  obtain ⟨f, hf⟩ := h
  obtain ⟨a, ha⟩ := hf.span x hx
  obtain ⟨b, hb⟩ := hf.span y hy
  have h1 : ∀ (a : Vec) j, cmb 1 f a j = a 0 * f 0 j := fun a j => by unfold cmb sm sm; grind
  have ha0 : a 0 ≠ 0 := fun e => hn.not fun j hj => by rw [ha j hj, h1, e]; grind
  refine ⟨b 0 / a 0, fun j hj => ?_⟩
  rw [hb j hj, ha j hj, h1, h1, <- Rat.mul_assoc, Rat.div_mul_cancel ha0]
theorem Dim.two {c k : Nat} {M : List Vec} (h : Dim c M (k + 2)) (x : Vec) : ∃ y, Ort c M y /\ ∀ t : Rat, ¬ ∀ j, j < c -> y j = t * x j := by
  apply Classical.byContradiction
  intro hn
  have hall : ∀ y, Ort c M y -> ∃ t : Rat, ∀ j, j < c -> y j = t * x j := fun y hy => Classical.byContradiction fun h2 => hn ⟨y, hy, fun t ht => h2 ⟨t, ht⟩⟩
  obtain ⟨f, hf⟩ := h
  have := li_le (m := 1) (g := fun _ => x) hf.li fun i hi => by
    obtain ⟨t, ht⟩ := hall _ (hf.mem i hi)
    exact ⟨fun _ => t, fun j hj => by rw [ht j hj]; unfold cmb sm sm; grind⟩
  omega
end Go.Lin
namespace Go.Lin
def z0 : Vec := fun _ => 0
def pickV (z : List Vec) (I : List Nat) : List Vec := I.map fun i => z.getD i z0
theorem vec_congr {c : Nat} {u x : Vec} (h : ∀ j, j < c -> u j = x j) (z : List Vec) : posN c u z = posN c x z /\ onL c u z = onL c x z /\ cntGe c u z = cntGe c x z := by
  have : ∀ v, dot c u v = dot c x v := fun v => dot_congr h
  unfold posN onL cntGe
  simp only [this]; exact ⟨trivial, trivial, trivial⟩
end Go.Lin
namespace Go.Lin
def lexOk (c : Nat) : List Vec -> Vec -> Bool
  | [], _ => true
  | u :: us, v => decide (0 < dot c u v) || (decide (dot c u v = 0) && lexOk c us v)
def lexc (c : Nat) (us : List Vec) (z : List Vec) : Nat := z.countP fun v => lexOk c us v
theorem lexc_nil (c : Nat) (z : List Vec) : lexc c [] z = z.length := by simp [lexc, lexOk]
theorem lexc_cons (c : Nat) (u : Vec) (us z : List Vec) : lexc c (u :: us) z = posN c u z + lexc c us (onL c u z) := by
  induction z with
  | nil => rfl
  | cons v z ih =>
    unfold lexc posN onL at *
    rw [List.countP_cons, List.countP_cons, List.filter_cons, ih]
    by_cases a : 0 < dot c u v
    · rw [if_pos (by simp [lexOk, a]), if_pos (by simpa using a), if_neg (by simp; grind)]; omega
    · by_cases b : dot c u v = 0
      · rw [if_neg (c := decide (0 < dot c u v) = true) (by simpa using a), if_pos (c := decide (dot c u v = 0) = true) (by simpa using b), List.countP_cons]
        have e : lexOk c (u :: us) v = lexOk c us v := by simp [lexOk, b]
        rw [e]; omega
      · rw [if_neg (by simp [lexOk, a, b]), if_neg (by simpa using a), if_neg (by simpa using b)]; omega
theorem zero_pos {c : Nat} {u : Vec} (h : ¬ nz c u) (z : List Vec) : posN c u z = 0 /\ onL c u z = z := by
  have h0 : ∀ j, j < c -> u j = 0 := fun j hj => Classical.byContradiction fun e => h ⟨j, hj, e⟩
  have hd : ∀ v, dot c u v = 0 := fun v => dot_zero h0
  unfold posN onL
  simp only [hd]
  refine ⟨?_, List.filter_eq_self.2 fun _ _ => by simp⟩
  rw [List.countP_eq_zero]; intro a _; simp
theorem lexc_zero (c : Nat) : ∀ (us z : List Vec), (∀ u ∈ us, ¬ nz c u) -> lexc c us z = z.length
  | [], z, _ => lexc_nil c z
  | u :: us, z, h => by
    obtain ⟨h1, h2⟩ := zero_pos (h u List.mem_cons_self) z
    rw [lexc_cons, h1, h2, lexc_zero c us z fun u hu => h u (List.mem_cons_of_mem _ hu)]; omega
theorem lexc_least {c : Nat} : ∀ (us z : List Vec) (k : Nat), IsDep c z k -> (∃ u ∈ us, nz c u) -> k <= lexc c us z
  | [], _, _, _, h => by obtain ⟨_, h, _⟩ := h; simp at h
  | u :: us, z, k, hk, h => by
    rw [lexc_cons]
    by_cases hu : nz c u
    · obtain ⟨l, hl⟩ := dep_ex (c := c) (by obtain ⟨j, hj, _⟩ := hu; omega) (onL c u z)
      have h1 := hk.lower hu hl
      have h2 : l <= lexc c us (onL c u z) := by
        by_cases hs : ∃ u ∈ us, nz c u
        · exact lexc_least us _ l hl hs
        · rw [lexc_zero c us _ fun u hu hn => hs ⟨u, hu, hn⟩]; exact hl.le
      omega
    · obtain ⟨h1, h2⟩ := zero_pos hu z
      rw [h1, h2]
      have := lexc_least us z k hk (by
        obtain ⟨x, hx, hn⟩ := h
        rcases List.mem_cons.1 hx with rfl | hx
        · exact absurd hn hu
        · exact ⟨x, hx, hn⟩)
      omega
theorem lexOk_zero {c : Nat} {v : Vec} (h : ¬ nz c v) : ∀ us : List Vec, lexOk c us v = true
  | [] => rfl
  | u :: us => by
    have h0 : dot c u v = 0 := by
      rw [dot_comm]; exact dot_zero fun j hj => Classical.byContradiction fun e => h ⟨j, hj, e⟩
    simp [lexOk, h0, lexOk_zero h us]
open Classical in
noncomputable def nzL (c : Nat) (z : List Vec) : List Vec := z.filter fun v => decide (nz c v)
open Classical in
theorem countP_nzL {c : Nat} {p : Vec -> Bool} (hp : ∀ v, ¬ nz c v -> p v = true) (z : List Vec) : z.countP p = (nzL c z).countP p + (z.length - (nzL c z).length) := by
  induction z with
  | nil => rfl
  | cons v z ih =>
    have hle : (nzL c z).length <= z.length := List.length_filter_le ..
    unfold nzL at *
    rw [List.filter_cons, List.countP_cons]
    by_cases h : nz c v
    · rw [if_pos (c := decide (nz c v) = true) (by simpa using h), List.countP_cons, List.length_cons, List.length_cons, ih]; omega
    · rw [if_neg (c := decide (nz c v) = true) (by simpa using h), List.length_cons, if_pos (hp v h), ih]; omega
theorem lexc_nzL (c : Nat) (us z : List Vec) : lexc c us z = lexc c us (nzL c z) + (z.length - (nzL c z).length) := countP_nzL (fun _ h => lexOk_zero h us) z
theorem cntGe_nzL (c : Nat) (u : Vec) (z : List Vec) : cntGe c u z = cntGe c u (nzL c z) + (z.length - (nzL c z).length) := countP_nzL (fun v h => by
  have h0 : dot c u v = 0 := by rw [dot_comm]; exact dot_zero fun j hj => Classical.byContradiction fun e => h ⟨j, hj, e⟩
  simp [h0]) z
theorem IsDep.nzL {c k : Nat} {z : List Vec} (h : IsDep c (nzL c z) k) : IsDep c z (k + (z.length - (nzL c z).length)) := by
  obtain ⟨⟨u, h1, h2⟩, h3⟩ := h
  refine ⟨⟨u, h1, by rw [cntGe_nzL, h2]⟩, fun v hv => ?_⟩
  rw [cntGe_nzL]; have := h3 v hv; omega
structure Wit (c : Nat) (z : List Vec) (n : Nat) (us : List Vec) : Prop where
  head : ∃ u t, us = u :: t /\ nz c u
  cnt : lexc c us z = n
  few : ∀ k, Dim c z k -> us.length + k <= c \/ us.length = 1
theorem Wit.least {c n k : Nat} {z us : List Vec} (h : Wit c z n us) (hk : IsDep c z k) : k <= n := by
  obtain ⟨u, t, rfl, hu⟩ := h.head
  rw [<- h.cnt]; exact lexc_least _ _ _ hk ⟨u, List.mem_cons_self, hu⟩
theorem Wit.one {c : Nat} {z : List Vec} {u : Vec} (hu : nz c u) (ho : onL c u z = []) : Wit c z (posN c u z) [u] :=
  ⟨⟨u, [], rfl, hu⟩, by rw [lexc_cons, ho]; rfl, fun _ _ => Or.inr rfl⟩
theorem Dim.lt {c k m : Nat} {z L : List Vec} {u : Vec} (h : Dim c z k) (h' : Dim c L m) (hs : ∀ v ∈ L, v ∈ z) (hu : Ort c L u) (hn : ∃ v ∈ z, dot c v u ≠ 0) : k < m := by
  obtain ⟨v, hv, hne⟩ := hn
  rcases m with _ | m
  · obtain ⟨f, hf⟩ := h'
    obtain ⟨a, ha⟩ := hf.span u hu
    exact absurd (by rw [dot_comm]; exact dot_zero fun j hj => by rw [ha j hj]; rfl) hne
  · obtain ⟨g, hg⟩ := h'.more hu hne
    obtain ⟨f, hf⟩ := h
    have := hf.le hg fun y hy => Ort.app.2 ⟨fun x hx => hy x (hs x hx), fun x hx => by simp at hx; subst hx; exact hy _ hv⟩
    omega
theorem Dim.lt_c {c k : Nat} {z : List Vec} (h : Dim c z k) (hz : ∃ v ∈ z, nz c v) : k < c := by
  obtain ⟨v, hv, hn⟩ := hz
  obtain ⟨m, hm⟩ := dim_ex c []
  have h1 := h.lt hm (by simp) (u := v) (by simp [Ort]) ⟨v, hv, fun e => hn.not (dot_self e)⟩
  obtain ⟨f, hf⟩ := hm
  have := li_le (m := c) (g := fun i j => if j = i then 1 else 0) hf.li fun i _ => ⟨f i, fun j hj => by unfold cmb; rw [sm_one j hj fun i _ hi => by simp [Ne.symm hi]]; simp⟩
  omega
theorem Wit.more {c l : Nat} {z us : List Vec} {u : Vec} (hu : nz c u) (h : Wit c (onL c u z) l us) (ho : ∃ v ∈ onL c u z, nz c v) (hn : ∃ v ∈ z, dot c v u ≠ 0) : Wit c z (posN c u z + l) (u :: us) :=
  ⟨⟨u, us, rfl, hu⟩, by rw [lexc_cons, h.cnt], fun k hk => by
    obtain ⟨m, hm⟩ := dim_ex c (onL c u z)
    have h1 := hk.lt hm (fun v hv => (List.mem_filter.1 hv).1) (u := u) (fun v hv => by rw [dot_comm]; simpa using (List.mem_filter.1 hv).2) hn
    have h2 := hm.lt_c ho
    rcases h.few m hm with h3 | h3
    · left; simp; omega
    · left; simp; omega⟩
def Tried (c : Nat) (z O : List Vec) (cnt : Nat) (I : List Nat) : Prop := Dim c (pickV z I ++ O) 1 -> ∀ x, nz c x -> Ort c (pickV z I ++ O) x -> ∀ l, IsDep c (onL c x z) l -> cnt <= posN c x z + l
theorem Tried.le {c : Nat} {z O : List Vec} {m n : Nat} {I : List Nat} (h : Tried c z O n I) (hm : m <= n) : Tried c z O m I := fun h1 x h2 h3 l h4 => Nat.le_trans hm (h h1 x h2 h3 l h4)
end Go.Lin
namespace Go.Lin
def vec (l : List Rat) : Vec := fun j => l.getD j 0
def vecs (m : Mat) : List Vec := m.map vec
section
variable {n c : Nat} {m : Mat} (hs : Shp n c m)
include hs
end
end Go.Lin
namespace Go.Lin
theorem vecs_filter {z : Mat} {p : List Rat -> Bool} {q : Vec -> Bool} (h : ∀ r ∈ z, p r = q (vec r)) : vecs (z.filter p) = (vecs z).filter q := by
  unfold vecs
  rw [List.filter_map]
  exact congrArg _ (List.filter_congr fun r hr => h r hr)
def zeroB (r : List Rat) : Bool := r.all fun x => decide (x = 0)
theorem nz_vec {c : Nat} {r : List Rat} (hr : r.length = c) : nz c (vec r) ↔ zeroB r = false := by
  constructor
  · rintro ⟨j, hj, hne⟩
    rw [<- Bool.not_eq_true]
    intro h
    unfold zeroB at h
    rw [List.all_eq_true] at h
    have hj' : j < r.length := by omega
    have := h r[j] (List.getElem_mem hj')
    apply hne
    unfold vec
    rw [List.getD_eq_getElem?_getD, List.getElem?_eq_getElem hj']
    simpa using this
  · intro h
    apply nz_of
    intro hz
    rw [<- Bool.not_eq_true] at h
    apply h
    unfold zeroB
    rw [List.all_eq_true]
    intro x hx
    obtain ⟨j, hj, rfl⟩ := List.getElem_of_mem hx
    have := hz j (by omega)
    unfold vec at this
    rw [List.getD_eq_getElem?_getD, List.getElem?_eq_getElem hj] at this
    simpa using this
def others (z : Mat) : Mat := z.filter fun r => !zeroB r
theorem others_vecs {n c : Nat} {z : Mat} (hs : Shp n c z) : vecs (others z) = nzL c (vecs z) := vecs_filter fun r hr => by
  by_cases h : zeroB r = false
  · rw [h]; have := (nz_vec (hs.2 r hr)).2 h; simp [this]
  · have h2 : ¬ nz c (vec r) := fun k => h ((nz_vec (hs.2 r hr)).1 k)
    simp [h2]; simpa using h
def Sofar (c : Nat) (z : Mat) (cnt : Nat) (us : Mat) : Prop := (cnt = z.length + 1 /\ us = []) \/ Wit c (vecs z) cnt (vecs us)
section
variable {n c : Nat} {z : Mat} (hs : Shp n c z) (hz : ∀ v ∈ vecs z, nz c v) (hne : z ≠ [])
include hs hz hne
end
theorem back {n c cnt : Nat} {z us : Mat} (hs : Shp n c z) (h : IsDep c (vecs (others z)) cnt) (hw : Wit c (vecs (others z)) cnt (vecs us)) :
    IsDep c (vecs z) (cnt + (z.length - (others z).length)) /\ Wit c (vecs z) (cnt + (z.length - (others z).length)) (vecs us) := by
  have e : (others z).length = (nzL c (vecs z)).length := by rw [<- others_vecs hs]; simp [vecs]
  have e2 : z.length = (vecs z).length := by simp [vecs]
  rw [e, e2]
  rw [others_vecs hs] at h hw
  refine ⟨h.nzL, hw.head, by rw [lexc_nzL, hw.cnt], fun k hk => hw.few k (hk.iff fun y => ⟨fun hy v hv => hy v (List.mem_filter.1 hv).1, fun hy v hv => ?_⟩)⟩
  by_cases hn : nz c v
  · exact hy v (List.mem_filter.2 ⟨hv, by simpa using hn⟩)
  · exact dot_zero fun j hj => Classical.byContradiction fun e => hn ⟨j, hj, e⟩
end Go.Lin
namespace Go.Lin
open Go.Lim
theorem HB.app {B : Nat} {a b : Mat} (ha : HB B a) (hb : HB B b) : HB B (a ++ b) := by
  intro i j
  unfold ent
  by_cases hi : i < a.length
  · rw [show (a ++ b).getD i [] = a.getD i [] by simp [List.getD_eq_getElem?_getD, List.getElem?_append_left hi]]; exact ha i j
  · rw [show (a ++ b).getD i [] = b.getD (i - a.length) [] by simp [List.getD_eq_getElem?_getD, List.getElem?_append_right (Nat.le_of_not_lt hi)]]; exact hb _ j
end Go.Lin
namespace Go.Lin
theorem nz2 {u : Vec} : nz 2 u ↔ u 0 ≠ 0 \/ u 1 ≠ 0 := by
  constructor
  · rintro ⟨j, hj, e⟩
    rcases (by omega : j = 0 \/ j = 1) with rfl | rfl
    · exact .inl e
    · exact .inr e
  · rintro (e | e)
    · exact ⟨0, by omega, e⟩
    · exact ⟨1, by omega, e⟩
end Go.Lin
namespace Go.Lin
open Go.Rep
end Go.Lin
namespace Go.Proofs.YtgimdkjgaemcbaaGreat
open Go.RowKit Go.Rep Go.Lim Go.Lin
end Go.Proofs.YtgimdkjgaemcbaaGreat
namespace Go.Lin
open Go.Lim Go.Rep
end Go.Lin
namespace Go.Lim
def up (lo : Int) : Nat -> List Int
  | 0 => []
  | k + 1 => lo :: up (lo + 1) k
end Go.Lim
namespace Go.Lin
open Go.Lim Go.Rep
end Go.Lin
namespace Go.Proofs.YtgimdkjgaemcbaaGreat
open Go.RowKit Go.Rep Go.Lim Go.Lin
end Go.Proofs.YtgimdkjgaemcbaaGreat
namespace Go.Lin
open Go.Lim Go.Rep
end Go.Lin
namespace Go.Proofs.YtgimdkjgaemcbaaGreat
open Go.RowKit Go.Rep Go.Lim Go.Lin
end Go.Proofs.YtgimdkjgaemcbaaGreat
namespace Go.Lim
end Go.Lim
namespace Go.Lin
open Go.Lim Go.Rep
def Bd (c : Nat) (z : Mat) (cnt : Nat) (x : Vec) : Prop := ∀ l, IsDep c (onL c x (vecs z)) l -> cnt <= posN c x (vecs z) + l
theorem Bd.le {c cnt n : Nat} {z : Mat} {x : Vec} (h : Bd c z cnt x) (hn : n <= cnt) : Bd c z n x := fun l hl => Nat.le_trans hn (h l hl)
theorem Bd.congr {c cnt : Nat} {z : Mat} {x y : Vec} (h : Bd c z cnt x) (he : ∀ j, j < c -> x j = y j) : Bd c z cnt y := fun l hl => by
  obtain ⟨h1, h2, _⟩ := vec_congr he (vecs z)
  have := h l (by rw [h2]; exact hl)
  rwa [h1] at this
section
variable {n c : Nat} {z : Mat} (hs : Shp n c z)
include hs
end
theorem Sofar.le {c cnt : Nat} {z us : Mat} (h : Sofar c z cnt us) : cnt <= z.length + 1 := by
  rcases h with ⟨rfl, _⟩ | h
  · exact Nat.le_refl _
  · have : cnt = lexc c (vecs us) (vecs z) := h.cnt.symm
    rw [this]
    have := List.countP_le_length (p := fun v => lexOk c (vecs us) v) (l := vecs z)
    unfold lexc
    simp [vecs] at this |-
    omega
end Go.Lin
namespace Go.Lin
open Go.Lim Go.Rep
end Go.Lin
namespace Go.Proofs.YtgimdkjgaemcbaaGreat
open Go.RowKit Go.Rep Go.Lim
end Go.Proofs.YtgimdkjgaemcbaaGreat
namespace Go.Proofs.YtgimdkjgaemcbaaGreat
open Go.RowKit Go.Rep Go.Lim Go.Lin
end Go.Proofs.YtgimdkjgaemcbaaGreat
namespace Go.Proofs.YtgimdkjgaemcbaaGreat
open Go.RowKit Go.Rep Go.Lim Go.Lin
end Go.Proofs.YtgimdkjgaemcbaaGreat
namespace Go.Proofs.YtgimdkjgaemcbaaGreat
open Go.RowKit Go.Rep Go.Lim Go.Lin
end Go.Proofs.YtgimdkjgaemcbaaGreat
namespace Go.Rep
open Go.RowKit
section
variable {P : Program} {ops : Array Oper} {Q : Exit -> Act -> World -> Prop} {rest : List Oper} {a : Act} {w : World}
variable {α : Type} {R : Mem -> Value -> α -> Prop} {sz : Nat} {X : Nat -> Bool} {base : Nat} {e : TypeId} {ao : Option Addr} {cap : Nat} {l : List α}
variable {d : Option Tmp} {ty : TypeId} {ps : String} {af : Array Edge}
theorem OL.field (hR : Elem R sz) (h : OL R sz X base e w ao cap l) (i j : Nat) (hi : i < l.length) (hj : j < sz) (v : Value) (y : α)
    (hu : ∀ u, R (mk (un X ao) w) u l[i] -> ∃ u', cellsL u' = (cellsL u).set j v /\ R (mk (un X ao) w) u' y) :
    (∃ v0, w.cell? (adr ao (i * sz + j)) = some v0) /\ w.frozen? (adr ao (i * sz + j)) = false /\ Sl R sz (mk X (w.setCell (adr ao (i * sz + j)) v)) ao (l.set i y) /\ ExtX (ob ao) w (w.setCell (adr ao (i * sz + j)) v) := by
  obtain ⟨us, h1, h2, h22, h3, h5⟩ := h.cells
  have hsub : (i + 1) * sz <= us.length * sz := Nat.mul_le_mul_right _ (by omega)
  rw [Nat.succ_mul] at hsub
  have hcell : ∀ k (hk : k < us.length) q (hq : q < sz), w.cell? (adr ao (k * sz + q)) = some (us[k].cells[q]'(by rw [h2 _ (List.getElem_mem _)]; exact hq)) /\ w.frozen? (adr ao (k * sz + q)) = false := by
    intro k hk q hq
    have hz : us[k].cells.size = sz := h2 _ (List.getElem_mem _)
    have hg := flat_get us k q hk h2 hq
    have hc : (cellsL us[k])[q]? = some (us[k].cells[q]'(by rw [hz]; exact hq)) := by simp [cellsL, hz, hq]
    rw [hc] at hg
    exact h3 _ _ hg
  have hE : ExtX (ob ao) w (w.setCell (adr ao (i * sz + j)) v) :=
    ⟨rfl, rfl, rfl, by simp [World.setCell], fun k hk hy => Below.heap_setCell _ _ _ _ (fun e => by
      have hf := h.form
      rcases hf with ⟨_, _, rfl⟩ | ⟨g, cur, rfl, _⟩
      · simp at hi
      · subst e; simp [ob] at hy)⟩
  have hX : ∀ q, X (adr ao q).block = false := by
    intro q
    have hf := h.form
    have hx := h.1
    rcases hf with ⟨_, _, rfl⟩ | ⟨g, cur, rfl, _⟩
    · simp at hi
    · exact hx _ (by simp [ob, adr])
  have hi' : i < us.length := by omega
  refine ⟨⟨_, (hcell i hi' j hj).1⟩, (hcell i hi' j hj).2, ⟨by simpa using h.hd, fun k hk => ?_⟩, hE⟩
  have hk' : k < us.length := by simpa [h1] using hk
  have hle : Le (mk (un X ao) w) (mk X (w.setCell (adr ao (i * sz + j)) v)) := mk_over hE (fun k _ hk => un_right hk) fun k _ hk => un_left hk
  by_cases hki : k = i
  · subst hki
    obtain ⟨u', hu1, hu2⟩ := hu us[k] (h5 k hk' (by omega))
    have hsz' := hR.size _ _ _ hu2
    refine ⟨u', hsz', fun q hq => ?_, by simpa using hR.mono _ _ _ _ hle hu2⟩
    have hq' : q < sz := by omega
    have hget : (cellsL u')[q]? = some u'.cells[q] := by simp [cellsL, hq]
    rw [hu1, List.getElem?_set] at hget
    unfold mk
    rw [hX]
    by_cases hqj : j = q
    · subst hqj
      rw [if_pos rfl, if_pos (by simp [cellsL, h2 _ (List.getElem_mem hk'), hj])] at hget
      have : u'.cells[j] = v := by simpa using hget.symm
      rw [this]
      exact World.cell?_setCell_same' w _ v (by rw [(hcell k hk' j hj).1]; rfl)
    · rw [if_neg hqj] at hget
      have hc := (hcell k hk' q hq').1
      have : us[k].cells[q]'(by rw [h2 _ (List.getElem_mem _)]; exact hq') = u'.cells[q] := by
        simpa [cellsL] using (List.getElem?_eq_some_iff.1 hget).2
      rw [this] at hc
      rw [<- hc]
      exact World.cell?_setCell_other w _ _ v (by simp [adr])
  · have hz : us[k].cells.size = sz := h2 _ (List.getElem_mem _)
    refine ⟨us[k], hz, fun q hq => ?_, by simpa [List.getElem_set, Ne.symm hki] using hR.mono _ _ _ _ hle (h5 k hk' (by simpa using hk))⟩
    have hc := (hcell k hk' q (by omega)).1
    unfold mk
    rw [hX, <- hc]
    refine World.cell?_setCell_other w _ _ v ?_
    have hne : k * sz + q ≠ i * sz + j := by
      intro he
      rcases Nat.lt_or_gt_of_ne hki with hlt | hlt
      · have := Nat.mul_le_mul_right sz (show k + 1 <= i by omega)
        rw [Nat.succ_mul] at this; omega
      · have := Nat.mul_le_mul_right sz (show i + 1 <= k by omega)
        rw [Nat.succ_mul] at this; omega
    simp [adr]
end
end Go.Rep
namespace Go.Rep
open Go.RowKit
section
variable {P : Program} {ops : Array Oper} {Q : Exit -> Act -> World -> Prop} {rest : List Oper} {a : Act} {w : World}
variable {α : Type} {R : Mem -> Value -> α -> Prop} {sz : Nat} {X : Nat -> Bool} {e : TypeId}
variable {d : Option Tmp} {ty : TypeId} {ps : String} {af : Array Edge}
theorem st_copy {t by_ : Nat} {z : Value} {s x : Operand} {asl : Option Addr} {cs m : Nat} (T : SliceT P t e sz by_ z) (hzs : z.cells.size = sz) (hR : Elem R sz) (hX : ∀ k, X k = true -> k < w.heap.size)
    (xs : List α) (hs : a.eval s = .slice none 0 0) (hx : a.eval x = .slice asl m cs) (hm : m = xs.length)
    (hxs : Sl R sz (mk X w) asl xs) (hroom : m * by_ <= 140737488355328) (hmax : m <= 9223372036854775807)
    (K : ∀ ao' cap' w', OL R sz X w.heap.size e w' ao' cap' xs -> Ext w w' -> wpList P ops Q rest (a.put d (.slice ao' m cap')) w') :
    wpList P ops Q (⟨d, .call { callee := .builtin .append, args := #[s, x], argTypes := #[t, t] }, ty, ps, af, none⟩ :: rest) a w := by
  subst hm
  have h0 : OL R sz X w.heap.size e w none 0 [] := OL.nil _ _ _ _ _ _
  have hun : un X none = X := by funext k; simp [un, ob]
  refine st_appendl (l := []) T hzs hR (Nat.le_refl _) hX xs hs hx h0 (by rw [hun]; exact hxs) (by simpa using hroom) (by simpa using hmax) ?_
  intro ao' cap' w' h1 h2 h3
  have hE : Ext w w' := h2.weaken fun k _ _ => by simp [ob]
  exact K ao' cap' w' h1 hE
theorem OL.beside {base cap : Nat} {ao oo oo' : Option Addr} {l : List α} {w' : World} (hR : Elem R sz) (h : OL R sz (un X oo) base e w ao cap l) (hE : ExtX (ob oo) w w') (ho : oo' = oo \/ ∃ g, oo' = some ⟨g, 0, none⟩ /\ w.heap.size <= g) : OL R sz (un X oo') base e w' ao cap l :=
  h.ext hR hE (fun k _ hk => un_right hk) fun k hk hz => by
    rcases ho with rfl | ⟨g, rfl, hg⟩
    · exact hz
    · by_cases hx : X k = true
      · exact un_left hx
      · have : g = k := by simpa [un, hx, ob] using hz
        omega
end
end Go.Rep
namespace Go.Rep
open Go.RowKit
section
variable {P : Program} {ops : Array Oper} {Q : Exit -> Act -> World -> Prop} {rest : List Oper} {a : Act} {w : World}
variable {α : Type} {R : Mem -> Value -> α -> Prop} {sz : Nat} {X : Nat -> Bool} {base : Nat} {e : TypeId} {ao : Option Addr} {cap : Nat} {l : List α}
variable {d : Option Tmp} {ty : TypeId} {ps : String} {af : Array Edge}
theorem OL.take (h : OL R sz X base e w ao cap l) (_hsz : ∀ m u x, R m u x -> u.cells.size = sz) (n : Nat) : OL R sz X base e w ao cap (l.take n) := by
  have hf := h.form
  obtain ⟨hx, us, h1, h2, h22, ⟨h3, h4⟩, h5⟩ := h
  have hus : ∀ u ∈ us.take n, u.cells.size = sz := fun u hu => h2 u (List.mem_of_mem_take hu)
  refine ⟨hx, us.take n, by simp [h1], hus, fun u hu => h22 u (List.mem_of_mem_take hu), ⟨by rw [flat_length _ hus]; simp [h1], ?_⟩, fun i hi hi' => ?_⟩
  · rcases h4 with ⟨hv, hn⟩ | ⟨g, c, cur, hv, q1, q2, q3, q4, q5, q6⟩
    · simp at hv
      obtain ⟨rfl, h0, rfl⟩ := hv
      refine .inl ⟨by simp [h0], by simp [h0]⟩
    · simp at hv
      obtain ⟨rfl, rfl⟩ := hv
      refine .inr ⟨g, cap, cur, by simp, q1, q2, by simp; omega, q4, q5, ?_⟩
      have e1 : (us.take n).flatMap cellsL = (us.flatMap cellsL).take ((l.take n).length * sz) := by
        have e2 : us.flatMap cellsL = (us.take n).flatMap cellsL ++ (us.drop n).flatMap cellsL := by
          rw [<- List.flatMap_append, List.take_append_drop]
        rw [e2]
        have e3 : (l.take n).length * sz = ((us.take n).flatMap cellsL).length := by rw [flat_length _ hus]; simp [h1]
        rw [e3, List.take_left]
      rw [e1, <- q6, List.take_take]
      congr 1
      have : (l.take n).length <= l.length := by simp; omega
      exact (Nat.min_eq_left (Nat.mul_le_mul_right _ this)).symm
  · simp only [List.getElem_take]
    exact h5 i (by simp at hi; omega) (by simp at hi'; omega)
end
end Go.Rep
namespace Go.Rep
open Go.RowKit
end Go.Rep
namespace Go.Lim
end Go.Lim
namespace Go.Proofs.YtgimdkjgaemcbaaGreat
open Go.RowKit Go.Rep Go.Lim
def ownB (base : Nat) : Nat -> Bool := fun k => decide (base <= k) && decide (k < base + 6)
def hbB (W : World) (g : Nat) : Nat -> Bool := fun k => decide (k < W.heap.size) && !(k == g)
structure FromSt (base n k : Nat) (fv : Value) (W : World) (Q : List Int) : Prop where
  bn : W.heap[base]? = some (.cells #[.int .i64 (n : Int)] 3 (0, 0))
  bk : W.heap[base + 1]? = some (.cells #[.int .i64 (k : Int)] 3 (0, 0))
  bf : W.heap[base + 2]? = some (.cells #[fv] 160 (0, 0))
  bl : W.heap[base + 4]? = some (.cells #[.slice (some ⟨base + 3, 0, none⟩) Q.length k] 22 (0, 0))
  br : W.heap[base + 5]? = some (.cells #[.func (.func 217) #[] #[.pointer (some ⟨base + 4, 0, none⟩), .pointer (some ⟨base + 1, 0, none⟩), .pointer (some ⟨base + 2, 0, none⟩), .pointer (some ⟨base, 0, none⟩), .pointer (some ⟨base + 5, 0, none⟩)]] 188 (0, 0))
  ol : OL (IntIn .i64) 1 (hbB W (base + 3)) base 3 W (some ⟨base + 3, 0, none⟩) k Q
  sz : base + 6 <= W.heap.size
def Keep (base : Nat) (W W' : World) : Prop := W.heap.size <= W'.heap.size /\ ∀ k, ownB base k = true -> W'.heap[k]? = W.heap[k]?
theorem ob3 {base k : Nat} (h : ob (some ⟨base, 0, none⟩) k = true) : base = k := by simpa [ob] using h
theorem hide3 {W : World} {base k : Nat} (h : ob (some ⟨base, 0, none⟩) k = true) : hbB W base k = false := by
  have := ob3 h
  subst this
  simp [hbB]
theorem intR0 : ∀ (h h' : Mem) (u : Value) (x : Int), IntIn .i64 h u x -> IntIn .i64 h' u x := fun _ _ _ _ h => h
theorem FromSt.set {base n k : Nat} {fv : Value} {W W1 : World} {Q Q' : List Int} (h : FromSt base n k fv W Q) (hE : ExtX (ob (some ⟨base + 3, 0, none⟩)) W W1) {X : Nat -> Bool} (hO : OL (IntIn .i64) 1 X base 3 W1 (some ⟨base + 3, 0, none⟩) k Q') (m : Nat) (hm : m = Q'.length) :
    FromSt base n k fv (W1.setCell ⟨base + 4, 0, none⟩ (.slice (some ⟨base + 3, 0, none⟩) m k)) Q' /\ ExtX (ownB base) W (W1.setCell ⟨base + 4, 0, none⟩ (.slice (some ⟨base + 3, 0, none⟩) m k)) /\
      W1.cell? ⟨base + 4, 0, none⟩ = some (.slice (some ⟨base + 3, 0, none⟩) Q.length k) /\ W1.frozen? ⟨base + 4, 0, none⟩ = false := by
  subst hm
  have hsz := h.sz
  have hE2 : ExtX (fun j => j == base + 4) W1 (W1.setCell ⟨base + 4, 0, none⟩ (.slice (some ⟨base + 3, 0, none⟩) Q'.length k)) :=
    ⟨rfl, rfl, rfl, by simp [World.setCell], fun j hj hy => Below.heap_setCell _ _ _ _ (fun e => by subst e; simp at hy)⟩
  have h1 : ∀ j, j < W.heap.size -> j ≠ base + 3 -> W1.heap[j]? = W.heap[j]? := fun j hj hn => hE.block j hj (by
    cases hh : ob (some ⟨base + 3, 0, none⟩) j
    · rfl
    · exact absurd (ob3 hh).symm hn)
  have h2 : ∀ j, j < W.heap.size -> j ≠ base + 3 -> j ≠ base + 4 -> (W1.setCell ⟨base + 4, 0, none⟩ (.slice (some ⟨base + 3, 0, none⟩) Q'.length k)).heap[j]? = W.heap[j]? := fun j hj hn hn2 => by
    rw [hE2.block j (Nat.lt_of_lt_of_le hj hE.size) (by simpa using hn2), h1 j hj hn]
  have hbl := h1 (base + 4) (by omega) (by omega)
  rw [h.bl] at hbl
  have hnew : (W1.setCell ⟨base + 4, 0, none⟩ (.slice (some ⟨base + 3, 0, none⟩) Q'.length k)).heap[base + 4]? = some (.cells #[.slice (some ⟨base + 3, 0, none⟩) Q'.length k] 22 (0, 0)) := by
    simp only [World.setCell, Array.getElem?_modify, hbl]
    simp
  refine ⟨⟨by rw [h2 base (by omega) (by omega) (by omega)]; exact h.bn, by rw [h2 _ (by omega) (by omega) (by omega)]; exact h.bk, by rw [h2 _ (by omega) (by omega) (by omega)]; exact h.bf, hnew, by rw [h2 _ (by omega) (by omega) (by omega)]; exact h.br, ?_, by simp [World.setCell]; have := hE.size; omega⟩, ?_, by simp [World.cell?, hbl], by simp [World.frozen?, hbl]⟩
  · obtain ⟨hx, us, g1, g2, g22, ⟨g3, g4⟩, g5⟩ := hO
    refine ⟨fun k hk => hide3 hk, us, g1, g2, g22, ⟨g3, ?_⟩, fun i hi hi' => intR0 _ _ _ _ (g5 i hi hi')⟩
    rcases g4 with g4 | ⟨g, c, cur, hv, q1, q2, q3⟩
    · exact .inl g4
    · simp at hv
      obtain ⟨rfl, rfl⟩ := hv
      have hlt : base + 3 < W1.heap.size := by have := hE.size; omega
      exact .inr ⟨base + 3, k, cur, by simp, q1, by rw [hE2.block _ hlt (by simp)]; exact q2, q3⟩
  · refine ⟨hE2.os.trans hE.os, hE2.tape.trans hE.tape, hE2.output.trans hE.output, Nat.le_trans hE.size hE2.size, fun j hj hy => h2 j hj ?_ ?_⟩
    · intro e; subst e; simp [ownB] at hy
    · intro e; subst e; simp [ownB] at hy
section
variable (cb base n k : Nat) (caps : Array Value) (Inv : List (List Int) -> World -> Prop)
end
theorem FromSt.start {w wb wc wd : World} {n k : Nat} {fv : Value} {X : Nat -> Bool} (hEb : Ext w wb) (hzb : wb.heap.size = w.heap.size + 3)
    (b0 : wb.heap[w.heap.size]? = some (.cells #[.int .i64 (n : Int)] 3 (0, 0))) (b1 : wb.heap[w.heap.size + 1]? = some (.cells #[.int .i64 (k : Int)] 3 (0, 0))) (b2 : wb.heap[w.heap.size + 2]? = some (.cells #[fv] 160 (0, 0)))
    (hEc : Ext wb wc) (hzc : wc.heap.size = wb.heap.size + 1) (hOc : OL (IntIn .i64) 1 X w.heap.size 3 wc (some ⟨wb.heap.size, 0, none⟩) k []) (hEd : Ext wc wd)
    (d4 : wd.heap[w.heap.size + 3 + 1]? = some (.cells #[.slice (some ⟨w.heap.size + 3, 0, none⟩) 0 k] 22 (0, 0))) (d5 : wd.heap[w.heap.size + 3 + 1 + 1]? = some (.cells #[.nilFunc] 188 (0, 0))) (hzd : wd.heap.size = w.heap.size + 6) :
    FromSt w.heap.size n k fv (wd.setCell ⟨w.heap.size + 3 + 1 + 1, 0, none⟩ (.func (.func 217) #[] #[.pointer (some ⟨w.heap.size + 3 + 1, 0, none⟩), .pointer (some ⟨w.heap.size + 1, 0, none⟩), .pointer (some ⟨w.heap.size + 1 + 1, 0, none⟩), .pointer (some ⟨w.heap.size, 0, none⟩), .pointer (some ⟨w.heap.size + 3 + 1 + 1, 0, none⟩)])) [] /\
      ExtX (ownB w.heap.size) w (wd.setCell ⟨w.heap.size + 3 + 1 + 1, 0, none⟩ (.func (.func 217) #[] #[.pointer (some ⟨w.heap.size + 3 + 1, 0, none⟩), .pointer (some ⟨w.heap.size + 1, 0, none⟩), .pointer (some ⟨w.heap.size + 1 + 1, 0, none⟩), .pointer (some ⟨w.heap.size, 0, none⟩), .pointer (some ⟨w.heap.size + 3 + 1 + 1, 0, none⟩)])) := by
  obtain ⟨f, hf⟩ : ∃ f, Value.func (.func 217) #[] #[.pointer (some ⟨w.heap.size + 3 + 1, 0, none⟩), .pointer (some ⟨w.heap.size + 1, 0, none⟩), .pointer (some ⟨w.heap.size + 1 + 1, 0, none⟩), .pointer (some ⟨w.heap.size, 0, none⟩), .pointer (some ⟨w.heap.size + 3 + 1 + 1, 0, none⟩)] = f := ⟨_, rfl⟩
  rw [hf]
  have hother : ∀ j, j ≠ w.heap.size + 5 -> (wd.setCell ⟨w.heap.size + 3 + 1 + 1, 0, none⟩ f).heap[j]? = wd.heap[j]? := fun j hj => Below.heap_setCell _ _ _ _ (fun e => hj e)
  have hE : Ext wb wd := hEc.trans hEd
  have hn5 : (wd.setCell ⟨w.heap.size + 3 + 1 + 1, 0, none⟩ f).heap[w.heap.size + 3 + 1 + 1]? = some (.cells #[f] 188 (0, 0)) := by
    simp only [World.setCell, Array.getElem?_modify, d5]
    simp
  refine ⟨⟨?_, ?_, ?_, ?_, ?_, ?_, by simp [World.setCell, hzd]⟩, ?_⟩
  · rw [hother _ (by omega), hE.block _ (by omega) rfl]; exact b0
  · rw [hother _ (by omega), hE.block _ (by omega) rfl]; exact b1
  · rw [hother _ (by omega), hE.block _ (by omega) rfl]; exact b2
  · rw [hother _ (by omega)]; exact d4
  · rw [<- hf] at hn5 |-; exact hn5
  · rw [hzb] at hOc
    obtain ⟨hx, us, g1, g2, g22, ⟨g3, g4⟩, g5⟩ := hOc
    refine ⟨fun k hk => hide3 hk, us, g1, g2, g22, ⟨g3, ?_⟩, fun i hi hi' => intR0 _ _ _ _ (g5 i hi hi')⟩
    rcases g4 with g4 | ⟨g, c, cur, hv, q1, q2, q3⟩
    · exact .inl g4
    · simp at hv
      obtain ⟨rfl, rfl⟩ := hv
      exact .inr ⟨w.heap.size + 3, k, cur, by simp, q1, by rw [hother _ (by omega), hEd.block _ (by omega) rfl]; exact q2, q3⟩
  · refine ⟨hEd.os.trans (hEc.os.trans hEb.os), hEd.tape.trans (hEc.tape.trans hEb.tape), hEd.output.trans (hEc.output.trans hEb.output), by simp [World.setCell, hzd], fun j hj _ => ?_⟩
    rw [hother _ (by omega), (hEb.trans hE).block j hj rfl]
end Go.Proofs.YtgimdkjgaemcbaaGreat
namespace Go.Rep
open Go.RowKit Go.Lim
section
variable {P : Program} {ops : Array Oper} {Q : Exit -> Act -> World -> Prop} {a : Act} {w : World}
variable {α : Type} {R : Mem -> Value -> α -> Prop} {sz : Nat} {X : Nat -> Bool} {base : Nat} {e : TypeId} {ao : Option Addr} {cap : Nat} {l : List α}
end
end Go.Rep
namespace Go.Proofs.YtgimdkjgaemcbaaGreat
open Go.RowKit Go.Rep Go.Lim Go.Lin
def uB : Nat := 10000000000
def twoB (bc bs : Nat) : Nat -> Bool := fun k => (k == bc) || (k == bs)
def hidS (X : Nat -> Bool) (bc bs B0 : Nat) : Nat -> Bool := fun k => X k || twoB bc bs k || ownB B0 k
structure Lay (lo bo bu bc bd bs B0 : Nat) : Prop where
  lo1 : lo <= bo
  lo2 : lo <= bu
  lo3 : lo <= bc
  lo4 : lo <= bd
  lo5 : lo <= bs
  hi1 : bo < B0
  hi2 : bu < B0
  hi3 : bc < B0
  hi4 : bd < B0
  hi5 : bs < B0
  ne1 : bo ≠ bc
  ne2 : bo ≠ bs
  ne3 : bu ≠ bc
  ne4 : bu ≠ bs
  ne5 : bd ≠ bc
  ne6 : bd ≠ bs
  ne7 : bc ≠ bs
structure BSt (X : Nat -> Bool) (w0 : World) (bo bu bc bd bs B0 c : Nat) (oo : Option Addr) (n oc : Nat) (ov : Value) (z N : Mat) (cnt : Nat) (dv : Value) (us : Mat) (W : World) : Prop where
  ext : Ext w0 W
  b1 : Bx W bo #[.slice oo n oc] 53
  b2 : Bx W bu #[ov] 53
  b3 : Bx W bc #[.int .i64 (cnt : Int)] 3
  b4 : Bx W bd #[.int .i64 (c : Int)] 3
  b5 : Bx W bs #[dv] 53
  r1 : MV (mk (hidS X bc bs B0) W) (.slice oo n oc) z
  r2 : MV (mk (hidS X bc bs B0) W) ov N
  r3 : MV (mk (hidS X bc bs B0) W) dv us
section
variable {X : Nat -> Bool} {w0 W W' : World} {bo bu bc bd bs B0 c : Nat} {oo : Option Addr} {n oc : Nat} {ov : Value} {z N : Mat} {cnt : Nat} {dv : Value} {us : Mat}
theorem BSt.hx (_h : BSt X w0 bo bu bc bd bs B0 c oo n oc ov z N cnt dv us W) (hX : HX X w0) (hl : Lay w0.heap.size bo bu bc bd bs B0) (hB : B0 + 6 <= W.heap.size) : HX (hidS X bc bs B0) W := fun k hk => by
  have h1 := hl.hi3
  have h2 := hl.hi5
  have h0 := hl.lo1
  have h00 := hl.hi1
  simp only [hidS, twoB, ownB, Bool.or_eq_true, Bool.and_eq_true, beq_iff_eq, decide_eq_true_eq] at hk
  rcases hk with (h | h | h) | h
  · have := hX k h; omega
  · omega
  · omega
  · omega
theorem BSt.hxs (h : BSt X w0 bo bu bc bd bs B0 c oo n oc ov z N cnt dv us W) (hX : HX X w0) : HX (fun k => X k || twoB bc bs k) W := fun k hk => by
  have h3 := h.b3.lt
  have h5 := h.b5.lt
  have h0 := h.ext.size
  simp only [twoB, Bool.or_eq_true, beq_iff_eq] at hk
  rcases hk with h | h | h
  · have := hX k h; omega
  · omega
  · omega
theorem BSt.step (h : BSt X w0 bo bu bc bd bs B0 c oo n oc ov z N cnt dv us W) (hE : Ext W W') : BSt X w0 bo bu bc bd bs B0 c oo n oc ov z N cnt dv us W' :=
  ⟨h.ext.trans hE, h.b1.ext0 hE, h.b2.ext0 hE, h.b3.ext0 hE, h.b4.ext0 hE, h.b5.ext0 hE, mkx MV.mono h.r1 hE, mkx MV.mono h.r2 hE, mkx MV.mono h.r3 hE⟩
theorem BSt.own (h : BSt X w0 bo bu bc bd bs B0 c oo n oc ov z N cnt dv us W) (hl : Lay w0.heap.size bo bu bc bd bs B0) (hE : ExtX (ownB B0) W W') : BSt X w0 bo bu bc bd bs B0 c oo n oc ov z N cnt dv us W' := by
  have no : ∀ j, j < B0 -> ownB B0 j = false := fun j hj => by simp [ownB]; omega
  have hm := mk_mono (X := hidS X bc bs B0) hE fun k hk => by simp [hidS, hk]
  have := hl.lo1
  have := hl.hi1
  exact ⟨h.ext.then_ hE fun i hi _ => no i (by omega), h.b1.ext hE (no _ hl.hi1), h.b2.ext hE (no _ hl.hi2), h.b3.ext hE (no _ hl.hi3), h.b4.ext hE (no _ hl.hi4), h.b5.ext hE (no _ hl.hi5), MV.mono _ _ _ _ hm h.r1, MV.mono _ _ _ _ hm h.r2, MV.mono _ _ _ _ hm h.r3⟩
theorem BSt.put (h : BSt X w0 bo bu bc bd bs B0 c oo n oc ov z N cnt dv us W) (hl : Lay w0.heap.size bo bu bc bd bs B0) (cnt' : Nat) (dv' : Value) (us' : Mat) (hr : MV (_root_.Go.Rep.mk (hidS X bc bs B0) W) dv' us') :
    (W.setCell ⟨bc, 0, none⟩ (.int .i64 (cnt' : Int))).cell? ⟨bs, 0, none⟩ = some dv /\ (W.setCell ⟨bc, 0, none⟩ (.int .i64 (cnt' : Int))).frozen? ⟨bs, 0, none⟩ = false /\
    BSt X w0 bo bu bc bd bs B0 c oo n oc ov z N cnt' dv' us' ((W.setCell ⟨bc, 0, none⟩ (.int .i64 (cnt' : Int))).setCell ⟨bs, 0, none⟩ dv') /\ ExtX (twoB bc bs) W ((W.setCell ⟨bc, 0, none⟩ (.int .i64 (cnt' : Int))).setCell ⟨bs, 0, none⟩ dv') := by
  obtain ⟨p1, p2⟩ := setCell_block h.b3 (.int .i64 (cnt' : Int)) (i := 0) (by simp)
  have p5 := h.b5.ext p2 (ob_other hl.ne7.symm)
  obtain ⟨q1, q2⟩ := setCell_block p5 dv' (i := 0) (by simp)
  have hE : ExtX (twoB bc bs) W ((W.setCell ⟨bc, 0, none⟩ (.int .i64 (cnt' : Int))).setCell ⟨bs, 0, none⟩ dv') := by
    refine (p2.weaken fun k _ hk => ?_).trans (q2.weaken fun k _ hk => ?_)
    · refine ob_other fun e => ?_
      subst e; simp [twoB] at hk
    · refine ob_other fun e => ?_
      subst e; simp [twoB] at hk
  have hm := mk_mono (X := hidS X bc bs B0) hE fun k hk => by simp [hidS, hk]
  have n1 : twoB bc bs bo = false := by simp [twoB, hl.ne1, hl.ne2]
  have n2 : twoB bc bs bu = false := by simp [twoB, hl.ne3, hl.ne4]
  have n3 : twoB bc bs bd = false := by simp [twoB, hl.ne5, hl.ne6]
  have hlo3 := hl.lo3
  have hlo5 := hl.lo5
  refine ⟨p5.cell 0 rfl, p5.frozen 0, ⟨h.ext.then_ hE fun i hi _ => ?_, h.b1.ext hE n1, h.b2.ext hE n2, ?_, h.b4.ext hE n3, by simpa using q1, MV.mono _ _ _ _ hm h.r1, MV.mono _ _ _ _ hm h.r2, MV.mono _ _ _ _ hm hr⟩, hE⟩
  · simp [twoB]; omega
  · have := p1.ext q2 (ob_other hl.ne7)
    simpa using this
end
def BInv (X : Nat -> Bool) (w0 : World) (bo bu bc bd bs B0 c : Nat) (oo : Option Addr) (n oc : Nat) (ov : Value) (z N : Mat) (done : List (List Int)) (W : World) : Prop :=
  ∃ (cnt : Nat) (dv : Value) (us : Mat), BSt X w0 bo bu bc bd bs B0 c oo n oc ov z N cnt dv us W /\ Sofar c z cnt us /\ BM uB us /\ (∀ r ∈ us, r.length = c) /\ ∀ s ∈ done, Tried c (vecs z) (vecs N) cnt (s.map Int.toNat)
theorem BInv.own {X : Nat -> Bool} {w0 W W' : World} {bo bu bc bd bs B0 c : Nat} {oo : Option Addr} {n oc : Nat} {ov : Value} {z N : Mat} {done : List (List Int)} (h : BInv X w0 bo bu bc bd bs B0 c oo n oc ov z N done W) (hl : Lay w0.heap.size bo bu bc bd bs B0) (hE : ExtX (ownB B0) W W') : BInv X w0 bo bu bc bd bs B0 c oo n oc ov z N done W' := by
  obtain ⟨cnt, dv, us, h1, h2⟩ := h
  exact ⟨cnt, dv, us, h1.own hl hE, h2⟩
theorem Keep.trans {B0 : Nat} {A B C : World} (h : Keep B0 A B) (k : Keep B0 B C) : Keep B0 A C := ⟨Nat.le_trans h.1 k.1, fun i hi => (k.2 i hi).trans (h.2 i hi)⟩
end Go.Proofs.YtgimdkjgaemcbaaGreat
namespace Go.Lin
open Go.Lim Go.Rep Go.Proofs.YtgimdkjgaemcbaaGreat
end Go.Lin
namespace Go.Proofs.YtgimdkjgaemcbaaGreat
open Go.RowKit Go.Rep Go.Lim Go.Lin
theorem lit_rat1 (X : Nat -> Bool) (w : World) (s : Bool) (a : Option Addr) (n c : Nat) (d : Option Addr) (k e : Nat) (x : Rat) (t : TypeId) (hX : HX X w) (h : QC (mk X w) (.agg #[.bool s, .slice a n c, .slice d k e]) x) :
    OL QC 3 X w.heap.size t (w.alloc (.cells #[.bool s, .slice a n c, .slice d k e] t)) (some ⟨w.heap.size, 0, none⟩) 1 [x] :=
  OL.lit QC.elem hX (Nat.le_refl _) [.agg #[.bool s, .slice a n c, .slice d k e]] [x] _ (by simp [cellsL, Value.cells]) rfl (fun i hi _ => by
    have : i = 0 := by simpa using hi
    subst this; exact h) (by simp)
theorem BM.sub {B : Nat} {m l : List (List Rat)} (h : BM B m) (hs : ∀ r ∈ l, r ∈ m) : BM B l := fun r hr => h r (hs r hr)
end Go.Proofs.YtgimdkjgaemcbaaGreat
namespace Go.Proofs.YtgimdkjgaemcbaaGreat
open Go.RowKit Go.Rep Go.Lim
def NumR : Mem -> Value -> Nat -> Prop := fun h u n => ∃ ao cap l, u = .slice ao l.length cap /\ l.length <= cap /\ Canon l n /\ Sl (NatIn .u32) 1 h ao l
theorem NumR.mono : Mono NumR := by
  rintro h h' u x hl ⟨ao, cap, l, rfl, h1, h2, h3⟩
  exact ⟨ao, cap, l, rfl, h1, h2, h3.mono (NatIn.mono _) hl⟩
theorem NumR.one : OneCell NumR := by rintro h u x ⟨ao, cap, l, rfl, _⟩; rfl
theorem NumR.elem : Elem NumR 1 := ⟨NumR.mono, by rintro h u x ⟨ao, cap, l, rfl, _⟩; rfl, by rintro h u x ⟨ao, cap, l, rfl, _⟩ c hc; simp [cellsL, Value.cells] at hc; subst hc; rfl, Nat.one_pos⟩
theorem NumR.zero (h : Mem) : NumR h (.slice none 0 0) 0 := ⟨none, 0, [], rfl, by simp, Canon.nil, Sl.nil _ _ _ _⟩
end Go.Proofs.YtgimdkjgaemcbaaGreat
namespace Go.Proofs.YtgimdkjgaemcbaaGreat
open Go.RowKit Go.Rep Go.Lim
end Go.Proofs.YtgimdkjgaemcbaaGreat
