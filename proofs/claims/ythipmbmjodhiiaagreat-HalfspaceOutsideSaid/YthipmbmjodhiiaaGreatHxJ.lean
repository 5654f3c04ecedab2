/- Parts of a proof: each theorem states what it proves, and its conditions. -/
import Derived.Test.YthipmbmjodhiiaaGreatHxI
import Derived.BigRegion
namespace Go.Proofs.YthipmbmjodhiiaaGreat
open Go.RowKit Go.Rep Go.Lim
def tbm (tb : Nat) : Nat -> Bool := fun k => k == tb
theorem tbm_self (tb : Nat) : tbm tb tb = true := by simp [tbm]
theorem tbm_ne {tb k : Nat} (h : k ≠ tb) : tbm tb k = false := by simpa [tbm] using h
def TapeR (X : Nat -> Bool) (tb : Nat) (w : World) : Prop :=
  X tb = true /\ ∃ (lo : Option Addr) (l : List Int) (cap at_ : Nat), w.heap[tb]? = some (.cells #[.slice lo l.length cap, .int .i64 (at_ : Int)] 68 (0, 0)) /\ l.length <= 400 /\ at_ <= l.length /\ Sl (IntIn .i64) 1 (mk X w) lo l
theorem tbm_sub {X : Nat -> Bool} {tb : Nat} (h : X tb = true) : ∀ k, tbm tb k = true -> X k = true := fun k hk => by
  have : k = tb := by simpa [tbm] using hk
  rw [this]; exact h
theorem TapeR.lt {X : Nat -> Bool} {tb : Nat} {w : World} (h : TapeR X tb w) : tb < w.heap.size := by
  obtain ⟨_, lo, l, cap, at_, h1, _⟩ := h
  by_cases hl : tb < w.heap.size
  · exact hl
  · rw [Array.getElem?_eq_none (by omega)] at h1; simp at h1
theorem TapeR.ext {X : Nat -> Bool} {tb : Nat} {w w' : World} (h : TapeR X tb w) (hE : Ext w w') : TapeR X tb w' := by
  have hlt := h.lt
  obtain ⟨hX, lo, l, cap, at_, h1, h2, h3, h4⟩ := h
  exact ⟨hX, lo, l, cap, at_, by rw [hE.block tb hlt rfl]; exact h1, h2, h3, h4.mono (IntIn.mono _) (mk_ext hE)⟩
theorem TapeR.extY {X Y : Nat -> Bool} {tb : Nat} {w w' : World} (h : TapeR X tb w) (hE : ExtX Y w w') (hY : ∀ k, Y k = true -> X k = true) (ht : Y tb = false) : TapeR X tb w' := by
  have hlt := h.lt
  obtain ⟨hX, lo, l, cap, at_, h1, h2, h3, h4⟩ := h
  exact ⟨hX, lo, l, cap, at_, by rw [hE.block tb hlt ht]; exact h1, h2, h3, h4.mono (IntIn.mono _) (mk_mono hE hY)⟩
def NextOut (X : Nat -> Bool) (tb : Nat) (w : World) (n : Int) (e : Ending) (w' : World) : Prop :=
  ExtX (tbm tb) w w' /\ TapeR X tb w' /\ ∃ m : Nat, e = .returned (.int .i64 (m : Int)) /\ ((m : Int) < n \/ m = 0)
theorem tmod_any (v n : Int) (w : World) (h1 : 1 <= n) (h2 : n <= 1099511627776) :
    Calls Tryz.prog 66 #[.int .i64 v, .int .i64 n] w (fun e w' => e = .returned (.int .i64 (v % n)) /\ w' = w) := by
  have hn0 : (n == 0) = false := beqF (by omega)
  have hlo : -n < v.tmod n := Int.lt_tmod_of_pos v (by omega)
  have hhi : v.tmod n < n := Int.tmod_lt_of_pos v (by omega)
  have hem : (v.tmod n < 0 -> v.tmod n + n = v % n) /\ (0 <= v.tmod n -> v.tmod n = v % n) := by
    have h := Int.tmod_eq_emod (a := v) (b := n)
    have e0 := Int.emod_nonneg v (show n ≠ 0 by omega)
    have e1 := Int.emod_lt_of_pos v (show 0 < n by omega)
    split at h <;> omega
  have hem' := hid hem
  clear hem
  go_enter Tryz.func66, Tryz.ntmps66
  go_wp2_with fail
  · go_ret
    exact ⟨ret_int (hem'.out.1 (by assumption)), rfl⟩
  · go_ret
    exact ⟨ret_int (hem'.out.2 (by assumption)), rfl⟩
theorem TapeR.cells {X : Nat -> Bool} {tb : Nat} {w : World} (h : TapeR X tb w) : ∃ (lo : Option Addr) (l : List Int) (cap at_ : Nat), w.cell? ⟨tb, 0, none⟩ = some (.slice lo l.length cap) /\ w.cell? ⟨tb, 1, none⟩ = some (.int .i64 (at_ : Int)) /\ w.frozen? ⟨tb, 1, none⟩ = false /\ l.length <= 400 /\ at_ <= l.length /\ Sl (IntIn .i64) 1 (mk X w) lo l /\
    ∀ at' : Nat, at' <= l.length -> TapeR X tb (w.setCell ⟨tb, 1, none⟩ (.int .i64 (at' : Int))) /\ ExtX (tbm tb) w (w.setCell ⟨tb, 1, none⟩ (.int .i64 (at' : Int))) /\
      (w.setCell ⟨tb, 1, none⟩ (.int .i64 (at' : Int))).cell? ⟨tb, 0, none⟩ = some (.slice lo l.length cap) /\ (w.setCell ⟨tb, 1, none⟩ (.int .i64 (at' : Int))).cell? ⟨tb, 1, none⟩ = some (.int .i64 (at' : Int)) := by
  have hlt := h.lt
  obtain ⟨hX, lo, l, cap, at_, h1, h2, h3, h4⟩ := h
  refine ⟨lo, l, cap, at_, by simp [World.cell?, h1], by simp [World.cell?, h1], by simp [World.frozen?, h1], h2, h3, h4, fun at' ha => ?_⟩
  have hE : ExtX (tbm tb) w (w.setCell ⟨tb, 1, none⟩ (.int .i64 (at' : Int))) :=
    ⟨rfl, rfl, rfl, by simp [World.setCell], fun k hk hy => Below.heap_setCell _ _ _ _ (fun e => by subst e; simp [tbm] at hy)⟩
  have hn : (w.setCell ⟨tb, 1, none⟩ (.int .i64 (at' : Int))).heap[tb]? = some (.cells #[.slice lo l.length cap, .int .i64 (at' : Int)] 68 (0, 0)) := by
    simp only [World.setCell, Array.getElem?_modify, h1]
    simp
  exact ⟨⟨hX, lo, l, cap, at', hn, h2, ha, h4.mono (IntIn.mono _) (mk_mono hE (tbm_sub hX))⟩, hE, by unfold World.cell?; rw [hn]; rfl, by unfold World.cell?; rw [hn]; rfl⟩
theorem TapeR.drewN {X : Nat -> Bool} {tb : Nat} {w : World} (h : TapeR X tb w) (n : Nat) : TapeR X tb (w.drewN n) := h
set_option maxHeartbeats 800000 in
theorem next_any (X : Nat -> Bool) (tb : Nat) (n : Int) (w : World) (ht : TapeR X tb w) (hn : n <= 1099511627776) :
    Calls Tryz.prog 31 #[.pointer (some ⟨tb, 0, none⟩), .int .i64 n] w (NextOut X tb w n) := by
  obtain ⟨lo, l, cap, at_, c0, c1, f1, hl, hat, hs, hset⟩ := ht.cells
  have hh := hs.hd
  by_cases h1 : n < 1
  · have hd : decide (n < 1) = true := decide_eq_true h1
    go_enter Tryz.func31, Tryz.ntmps31
    go_wp2_with fail
    go_quiet (fail)
    go_wp2_with fail
    go_ret
    exact ⟨(ExtX.refl _).drewN _, ht.drewN _, 0, rfl, .inr rfl⟩
  have hd : decide (n < 1) = false := decide_eq_false h1
  by_cases h2 : at_ < l.length
  · obtain ⟨ht2, hE2, k0, k1⟩ := hset (at_ + 1) (by omega)
    have hs2 := (hs.mono (IntIn.mono _) (mk_mono hE2 (tbm_sub ht.1))).int at_ h2
    obtain ⟨x, hx⟩ : ∃ x, l[at_] = x := ⟨_, rfl⟩
    rw [hx] at hs2
    clear hx hset
    have e1 : ((at_ + 1 : Nat) : Int) = (at_ : Int) + 1 := by omega
    rw [e1] at k0 k1 hs2 ht2 hE2
    have kk0 : ∀ N, ((w.drewN N).setCell ⟨tb, 1, none⟩ (.int .i64 ((at_ : Int) + 1))).cell? ⟨tb, 0, none⟩ = some (.slice lo l.length cap) := fun _ => k0
    have kk1 : ∀ N, ((w.drewN N).setCell ⟨tb, 1, none⟩ (.int .i64 ((at_ : Int) + 1))).cell? ⟨tb, 1, none⟩ = some (.int .i64 ((at_ : Int) + 1)) := fun _ => k1
    have kk2 : ∀ N, ((w.drewN N).setCell ⟨tb, 1, none⟩ (.int .i64 ((at_ : Int) + 1))).cell? (adr lo at_) = some (.int .i64 x) := fun _ => hs2
    have ew : IntKind.i64.wrap ((at_ : Int) + 1 - 1) = (at_ : Int) := by rw [IntWalk.i64_in _ (by omega)]; omega
    have ht3 : ∀ N, TapeR X tb ((w.drewN N).setCell ⟨tb, 1, none⟩ (.int .i64 ((at_ : Int) + 1))) := fun _ => ht2
    have hE3 : ∀ N, ExtX (tbm tb) w ((w.drewN N).setCell ⟨tb, 1, none⟩ (.int .i64 ((at_ : Int) + 1))) := fun _ => ⟨hE2.os, hE2.tape, hE2.output, hE2.size, hE2.block⟩
    have ht4 := hid ht3
    have hE4 := hid hE3
    clear e1 ht2 hE2 k0 k1 ht3 hE3
    have hd2 : decide ((l.length : Int) <= (at_ : Int)) = false := decide_eq_false (by omega)
    have i1 : ∀ W, (Instr.indexAt 22 (.slice lo l.length cap) (.int .i64 (at_ : Int))).run Tryz.prog W = .ok (.pointer (some (adr lo at_))) W := run_ix1 slInt lo l.length cap .i64 at_ hh h2 rfl
    go_enter Tryz.func31, Tryz.ntmps31
    go_wp2_with fail
    go_quiet (fail)
    go_wp2_with fail
    have hm0 := Int.emod_nonneg x (show n ≠ 0 by omega)
    have hm1 := Int.emod_lt_of_pos x (show 0 < n by omega)
    obtain ⟨m, hm⟩ := Int.eq_ofNat_of_zero_le hm0
    have hm' := hid hm
    have hm2 : Hid ((m : Int) < n) := hid (by rw [<- hm]; exact hm1)
    clear hm hm0 hm1
    go_quiet ((go_at_call 66; exact Calls.quiet_of_same (tmod_any x n _ (by omega) (by omega))))
    go_wp2_with fail
    go_ret
    exact ⟨(hE4.out _).drewN _, (ht4.out _).drewN _, m, ret_int hm'.out, .inl hm2.out⟩
  · have hd2 : decide ((l.length : Int) <= (at_ : Int)) = true := decide_eq_true (by omega)
    go_enter Tryz.func31, Tryz.ntmps31
    go_wp2_with fail
    go_quiet (fail)
    go_wp2_with fail
    go_ret
    exact ⟨(ExtX.refl _).drewN _, ht.drewN _, 0, rfl, .inr rfl⟩
end Go.Proofs.YthipmbmjodhiiaaGreat
namespace Go.Proofs.YthipmbmjodhiiaaGreat
open Go.RowKit Go.Rep Go.Lim
def TBoolOut (X : Nat -> Bool) (tb : Nat) (w : World) (e : Ending) (w' : World) : Prop := ExtX (tbm tb) w w' /\ TapeR X tb w' /\ ∃ b : Bool, e = .returned (.bool b)
def TIntOut (X : Nat -> Bool) (tb : Nat) (w : World) (lo hi : Int) (e : Ending) (w' : World) : Prop := ExtX (tbm tb) w w' /\ TapeR X tb w' /\ ∃ m : Int, e = .returned (.int .i64 m) /\ lo <= m /\ m <= hi
theorem tbool_any (X : Nat -> Bool) (tb : Nat) (n : Int) (w : World) (ht : TapeR X tb w) (h1 : -1000 <= n) (hn : n <= 1099511627776) :
    Calls Tryz.prog 46 #[.pointer (some ⟨tb, 0, none⟩), .int .i64 n] w (TBoolOut X tb w) := by
  go_enter Tryz.func46, Tryz.ntmps46
  go_wp2_with fail
  refine (next_any X tb n _ ht hn).mono ?_
  rintro e w1 ⟨hE, ht1, m, rfl, hm⟩
  go_wp2_with fail
  go_ret
  exact ⟨hE, ht1, _, rfl⟩
theorem pick_any (X : Nat -> Bool) (tb : Nat) (lo : Option Addr) (l : List Int) (cap : Nat) (w : World) (a b : Int) (ht : TapeR X tb w) (hs : Sl (IntIn .i64) 1 (mk X w) lo l) (h0 : 0 < l.length) (hl : l.length <= 1000) (hab : Hid (∀ x ∈ l, a <= x /\ x <= b)) :
    Calls Tryz.prog 60 #[.pointer (some ⟨tb, 0, none⟩), .slice lo l.length cap] w (TIntOut X tb w a b) := by
  have hh := hs.hd
  go_enter Tryz.func60, Tryz.ntmps60
  go_wp2_with fail
  refine (next_any X tb _ _ ht (by omega)).mono ?_
  rintro e w1 ⟨hE, ht1, m, rfl, hm⟩
  have hml : m < l.length := by omega
  have hc := (hs.mono (IntIn.mono _) (mk_mono hE (tbm_sub ht.1))).int m hml
  have hr := hab.out l[m] (List.getElem_mem hml)
  obtain ⟨x, hx⟩ : ∃ x, l[m] = x := ⟨_, rfl⟩
  rw [hx] at hc hr
  clear hx
  go_wp2_with (with_reducible refine up_ix1 slInt (by omega) (by assumption) ?_)
  go_ret
  exact ⟨hE, ht1, x, rfl, hr.1, hr.2⟩
theorem tnew_any (lo : Option Addr) (l : List Int) (cap : Nat) (w : World) (hs : Sl (IntIn .i64) 1 w.cell? lo l) (hl : l.length <= cap) (hb : l.length <= 9223372036854775807) :
    Calls Tryz.prog 14 #[.slice lo l.length cap] w (fun e w' => e = .returned (.pointer (some ⟨w.heap.size, 0, none⟩)) /\ Ext w w' /\ TapeR (tbm w.heap.size) w.heap.size w' /\ w'.heap.size = w.heap.size + 1) := by
  have key : ∀ (l : List Int), l.length <= 400 -> Sl (IntIn .i64) 1 w.cell? lo l -> TapeR (tbm w.heap.size) w.heap.size (w.alloc (.cells #[.slice lo l.length cap, .int .i64 0] 68)) := by
    intro l hl hs
    refine ⟨tbm_self _, lo, l, cap, 0, heap_alloc_new w _, hl, Nat.zero_le _, ?_⟩
    rw [<- mk_noY] at hs
    refine hs.mono (IntIn.mono _) (mk_over ((ExtX.refl (Y := noY) w).alloc _) (fun k _ hk => by simp [noY] at hk) fun k hk hz => ?_)
    have : k = w.heap.size := by simpa [tbm] using hz
    omega
  have hE : ∀ u v, Ext w (w.alloc (.cells #[u, v] 68)) := fun u v => (ExtX.refl w).alloc _
  by_cases h4 : 400 < l.length
  · have ht := hid (key (l.take 400) (by simp; omega) (hs.take 400))
    have hlen : (l.take 400).length = 400 := by simp; omega
    rw [hlen] at ht
    clear key hlen
    go_enter Tryz.func14, Tryz.ntmps14
    go_wp2_with fail
    go_ret
    exact ⟨rfl, hE _ _, ht.out, by simp⟩
  · have ht := hid (key l (by omega) hs)
    clear key
    go_enter Tryz.func14, Tryz.ntmps14
    go_wp2_with fail
    go_ret
    exact ⟨rfl, hE _ _, ht.out, by simp⟩
theorem lit_cells (l : List Int) : (l.map (Value.int .i64)).flatMap cellsL = l.map (Value.int .i64) := by
  induction l with
  | nil => rfl
  | cons x l ih => simp only [List.map_cons, List.flatMap_cons, ih]; rfl
theorem lit_sl (X : Nat -> Bool) (w : World) (l : List Int) (e : TypeId) (arr : Array Value) (harr : arr = (l.map (Value.int .i64)).toArray) (hX : ∀ k, X k = true -> k < w.heap.size) (hl : l.length <= 1000) :
    OL (IntIn .i64) 1 X w.heap.size e (w.alloc (.cells arr e)) (some ⟨w.heap.size, 0, none⟩) l.length l := by
  refine OL.lit (IntIn.elem .i64) hX (Nat.le_refl _) (l.map (Value.int .i64)) l arr ?_ (by simp) (fun i hi hi' => by simp [IntIn]) (by omega)
  rw [harr, lit_cells]
theorem lit_pick (X : Nat -> Bool) (tb : Nat) (l : List Int) (arr : Array Value) (e : TypeId) (len : Nat) (w : World) (a b : Int) (ht : TapeR X tb w) (hX : ∀ k, X k = true -> k < w.heap.size) (harr : arr = (l.map (Value.int .i64)).toArray) (hlen : len = l.length) (h0 : 0 < l.length) (hl : l.length <= 1000) (hab : Hid (∀ x ∈ l, a <= x /\ x <= b)) :
    Calls Tryz.prog 60 #[.pointer (some ⟨tb, 0, none⟩), .slice (some ⟨w.heap.size, 0, none⟩) len len] (w.alloc (.cells arr e)) (TIntOut X tb w a b) := by
  subst hlen
  have hE : Ext w (w.alloc (.cells arr e)) := (ExtX.refl w).alloc _
  refine (pick_any X tb _ l _ _ a b (ht.ext hE) (OL.sl (IntIn.elem .i64) (lit_sl X w l e arr harr hX hl)) h0 hl hab).mono ?_
  rintro e' w' ⟨hE', ht', r⟩
  exact ⟨(ExtX.of hE).trans hE', ht', r⟩
end Go.Proofs.YthipmbmjodhiiaaGreat
namespace Go.Proofs.YthipmbmjodhiiaaGreat
open Go.RowKit Go.Rep Go.Lim
theorem TapeR.unstep {X : Nat -> Bool} {tb : Nat} {w w' : World} {oo oo' : Option Addr} (h : TapeR (un X oo) tb w) (hb : ob oo tb = false) (hE : ExtX (ob oo) w w') (ho : oo' = oo \/ ∃ g, oo' = some ⟨g, 0, none⟩ /\ w.heap.size <= g) : TapeR (un X oo') tb w' := by
  have hlt := h.lt
  obtain ⟨hX, lo, l, cap, at_, h1, h2, h3, h4⟩ := h
  refine ⟨?_, lo, l, cap, at_, by rw [hE.block tb hlt hb]; exact h1, h2, h3, h4.unstep (IntIn.mono _) hE ho⟩
  have : X tb = true := by simpa [un, hb] using hX
  exact un_left this
theorem TapeR.unX {X : Nat -> Bool} {tb : Nat} {w : World} {oo : Option Addr} (h : TapeR (un X oo) tb w) (hX : X tb = true) : TapeR X tb w := by
  obtain ⟨_, lo, l, cap, at_, h1, h2, h3, h4⟩ := h
  exact ⟨hX, lo, l, cap, at_, h1, h2, h3, h4.unX (IntIn.mono _)⟩
theorem un_none (X : Nat -> Bool) : un X none = X := by funext k; simp [un, ob]
theorem TapeR.none {X : Nat -> Bool} {tb : Nat} {w : World} (h : TapeR X tb w) : TapeR (un X none) tb w := by rw [un_none]; exact h
theorem TapeR.old {X : Nat -> Bool} {tb : Nat} {w w' : World} {oo : Option Addr} (h : TapeR X tb w) (hE : Ext w w') (hb : ∀ j, j < w.heap.size -> ob oo j = false) : TapeR (un X oo) tb w' := by
  have hlt := h.lt
  obtain ⟨hX, lo, l, cap, at_, h1, h2, h3, h4⟩ := h
  exact ⟨un_left hX, lo, l, cap, at_, by rw [hE.block tb hlt rfl]; exact h1, h2, h3, h4.old (IntIn.mono _) hE hb⟩
theorem _root_.Go.Rep.OL.not_ob {α : Type} {R : Mem -> Value -> α -> Prop} {sz base cap : Nat} {e : TypeId} {ao : Option Addr} {l : List α} {X : Nat -> Bool} {w : World} (ho : OL R sz X base e w ao cap l) {k : Nat} (hk : X k = true) : ob ao k = false := by
  have h : ∀ k, ob ao k = true -> X k = false := ho.1
  cases hh : ob ao k
  · rfl
  · rw [h k hh] at hk; simp at hk
theorem ob_new (w : World) : ∀ j, j < w.heap.size -> ob (some ⟨w.heap.size, 0, none⟩) j = false := fun j hj => by
  cases hh : ob (some ⟨w.heap.size, 0, none⟩) j
  · rfl
  · have : w.heap.size = j := by simpa [ob] using hh
    omega
end Go.Proofs.YthipmbmjodhiiaaGreat
namespace Go.Lin
open Go.Lim Go.Rep
theorem sgL_get {s : Int} {L : List Rat} {j : Nat} (hj : j < L.length) (h : j < (sgL s L).length) : (sgL s L)[j] = (s : Rat) * L[j] := by simp [sgL]
theorem bd_more {c n : Nat} {z : Mat} {U : List Rat} {l : Nat} (hl : IsDep c (vecs (onM c U z)) l) (h : n <= posM c U z + l) : Bd c z n (vec U) := fun m hm => by
  rw [onM_vecs] at hl
  have := hm.uniq hl
  rw [<- posM_vecs]; omega
end Go.Lin
namespace Go.Proofs.YthipmbmjodhiiaaGreat
open Go.RowKit Go.Rep Go.Lim Go.Lin
theorem lit_row1 (X : Nat -> Bool) (w : World) (ao : Option Addr) (n cap : Nat) (l : List Rat) (e : TypeId) (hX : ∀ k, X k = true -> k < w.heap.size) (h : RV (mk X w) (.slice ao n cap) l) :
    OL RV 1 X w.heap.size e (w.alloc (.cells #[.slice ao n cap] e)) (some ⟨w.heap.size, 0, none⟩) 1 [l] :=
  OL.lit RV.elem hX (Nat.le_refl _) [.slice ao n cap] [l] _ (by simp [cellsL, Value.cells]) rfl (fun i hi _ => by
    have : i = 0 := by simpa using hi
    subst this; exact h) (by simp)
set_option maxRecDepth 100000 in
set_option maxHeartbeats 6400000 in
theorem try_any (X : Nat -> Bool) (w0 : World) (bo bu bc bd bs B0 n c B : Nat) (oo : Option Addr) (oc : Nat) (ov : Value) (z N : List (List Rat)) (done : List (List Int)) (s : List Int) (W : World)
    (ih : ∀ m, m < n -> BestC m) (hs : Shp n c z) (hn : n <= 64) (hc2 : 2 <= c) (hc3 : c <= 3) (hzB : BM B z) (hB1 : 1 <= B) (hB : B <= 6500) (hnz : ∀ v ∈ vecs z, nz c v) (hne : z ≠ []) (hN : N = nullM z c) (hr : (redP z c).2.length = s.length + 1)
    (hl : Lay w0.heap.size bo bu bc bd bs B0) (hX : HX X w0) (hi : BInv X w0 bo bu bc bd bs B0 c oo n oc ov z N done W) (hsb : ∀ x ∈ s, 0 <= x /\ x < (z.length : Int)) (hsl : Sl (IntIn .i64) 1 W.cell? (some ⟨B0 + 3, 0, none⟩) s) (hB0 : B0 + 6 <= W.heap.size) :
    Calls Tryz.prog 92 #[.slice (some ⟨B0 + 3, 0, none⟩) s.length s.length, .pointer (some ⟨bo, 0, none⟩), .pointer (some ⟨bu, 0, none⟩), .pointer (some ⟨bc, 0, none⟩), .pointer (some ⟨bd, 0, none⟩), .pointer (some ⟨bs, 0, none⟩)] W
      (fun e W' => e = .returned (.tuple #[]) /\ BInv X w0 bo bu bc bd bs B0 c oo n oc ov z N (done ++ [s]) W' /\ Keep B0 W W') := by
  obtain ⟨cnt, dv, us, hst, hSo, hUB, hUl, hTr⟩ := hi
  have hzl : z.length = n := hs.1
  have hpc := piv_le_cols hs
  obtain ⟨H, hH⟩ : ∃ H, hidS X bc bs B0 = H := ⟨_, rfl⟩
  have hXH : HX H W := hH ▸ hst.hx hX hl hB0
  have hz0 := hst.r1
  have hN0 := hst.r2
  rw [hH] at hz0 hN0
  obtain ⟨na, nc0, rfl, hnc0, hnS⟩ := hN0
  obtain ⟨hT, hNB, hMlen⟩ := search_inner hs (bm_hb hzB hB1) hB hc3 hsb hr.symm
  rw [<- hN] at hT hNB hMlen
  have hNrow : ∀ r ∈ N, r.length = c := fun r hr => by rw [hN] at hr; exact nullM_row r hr
  have hMs := rows_shp hs hsb N hNrow
  obtain ⟨hMf, hMc⟩ := formedB_of hMs (by omega) (by omega) (by omega) (by omega)
  have hno := hid (fun (h : (nullM (rowsL z s ++ N) c).length ≠ 1) cnt => (by
    have := tried_none hs (cnt := cnt) hsb (by rw [hN] at h; exact h)
    rwa [<- hN] at this : Tried c (vecs z) (vecs N) cnt (s.map Int.toNat)))
  have hyes := hid (fun (h : (nullM (rowsL z s ++ N) c).length = 1) L (hL : (nullM (rowsL z s ++ N) c)[0]? = some L) => (by
    subst hN
    have hL := (List.getElem?_eq_some_iff.1 hL).2
    obtain ⟨h1, h2, h3⟩ := null_one hs hsb h L hL
    have h4 : BR (1500625 * B) L := by rw [<- hL]; exact hb_bm hNB _ (List.getElem_mem _)
    exact ⟨h1, h2, ort_out h3, h4, fun cnt a b => tried_two h2 h3 a b⟩ :
    L.length = c /\ nz c (vec L) /\ Ort c (vecs N) (vec L) /\ BR (1500625 * B) L /\ ∀ cnt, Bd c z cnt (vec (sgL 1 L)) -> Bd c z cnt (vec (sgL (-1) L)) -> Tried c (vecs z) (vecs N) cnt (s.map Int.toNat)))
  obtain ⟨NN, hNN⟩ : ∃ NN, nullM (rowsL z s ++ N) c = NN := ⟨_, rfl⟩
  obtain ⟨k3, hk3⟩ : ∃ k3, NN.length = k3 := ⟨_, rfl⟩
  have hnull := hid (fun w' um (hX' : HX H w') (hm : MV (mk H w') um (rowsL z s ++ N)) => ((null_ok H w' um (rowsL z s ++ N) _ c hX' hm hMf rfl hMc hT).mono (fun e w'' ⟨h1, u, h2, ao, ca, h3, h4, h5⟩ => ⟨h1, ao, ca, by
    rw [h2, h3, <- hk3, <- hNN]; rfl, by rw [<- hk3, <- hNN]; exact h4, by rw [<- hNN]; exact h5⟩) : Calls Tryz.prog 91 #[um] w' (fun e w'' => Ext w' w'' /\ ∃ (ao : Option Addr) (ca : Nat), e = .returned (.tuple #[.slice ao k3 ca, .int .i64 0]) /\ k3 <= ca /\ Sl RC 1 (mk H w'') ao NN)))
  rw [hNN] at hno hyes
  have hk3' := hid hk3
  have hrl : Hid ((rowsL z s).length = s.length) := hid (rowsL_len z s)
  have hro := hid (fun (w' : World) (hX' : HX H w') (hm : MV (mk H w') (.slice oo n oc) z) (h : Sl (IntIn .i64) 1 w'.cell? (some ⟨B0 + 3, 0, none⟩) s) => erows_any H w' (.slice oo n oc) z (some ⟨B0 + 3, 0, none⟩) s s.length hX' hm h hsb (by omega))
  have hless := hid (fun (U : List Rat) (h1 : nz c (vec U)) (h2 : Ort c (vecs N) (vec U)) => (by
    have := on_less hs hnz hne h1 (by rw [<- hN]; exact h2)
    rw [hzl] at this; exact this : (onM c U z).length < n))
  have hmore := hid (fun (U : List Rat) (l0 : Nat) (us2 : Mat) (h1 : nz c (vec U)) (h2 : Ort c (vecs N) (vec U)) (h3 : onM c U z ≠ []) (h4 : Wit c (vecs (onM c U z)) l0 (vecs us2)) (h5 : IsDep c (vecs (onM c U z)) l0) => (st_more hs hnz hne h1 (by rw [<- hN]; exact h2) h3 h4 h5).1)
  have hs2 : s.length <= 2 := by omega
  have hNl : N.length <= 3 := by rw [List.length_append] at hMlen; omega
  have hsh' := hid hs
  have hzB' := hid hzB
  have ih' := hid ih
  have hSo' := hid (⟨hSo, hUB, hUl, hTr⟩ : Sofar c z cnt us /\ BM uB us /\ (∀ r ∈ us, r.length = c) /\ ∀ s ∈ done, Tried c (vecs z) (vecs N) cnt (s.map Int.toNat))
  have hzl' := hid hzl
  have hcl := hSo.le
  rw [hzl] at hcl
  have q1 := hst.b1
  have q2 := hst.b2
  have hS : Hid (∀ Y W', ExtX Y W.drew W' -> Y bo = false -> Y bu = false -> W'.cell? ⟨bo, 0, none⟩ = some (.slice oo n oc) /\ W'.cell? ⟨bu, 0, none⟩ = some (.slice na N.length nc0)) := hid fun Y W' h h1 h2 => ⟨((q1.ext0 ((ExtX.refl (Y := noY) W).drew)).ext h h1).cell 0 rfl, ((q2.ext0 ((ExtX.refl (Y := noY) W).drew)).ext h h2).cell 0 rfl⟩
  obtain ⟨k1, k2⟩ := hS.out noY W.drew (ExtX.refl _) rfl rfl
  have hEd : Ext W W.drew := (ExtX.refl W).drew
  have hro1 := hro.out W.drew hXH hz0 hsl
  unfold RowsOut at hro1
  rw [hrl.out] at hro1
  have hboW := q1.lt
  have hbuW := q2.lt
  obtain ⟨nl, hnl⟩ : ∃ nl, N.length = nl := ⟨_, rfl⟩
  have hnl' := hid hnl
  have hMl' : Hid ((rowsL z s ++ N).length = s.length + nl) := hid (by rw [List.length_append, hrl.out, hnl])
  rw [hnl] at hNl hnc0 k2 hst hS |-
  clear hs hzB hnz hne hr ih hT hNB hMs hMf hMc hMlen hNrow hSo hUB hUl hTr hsb hsl hN q1 q2 hro hz0 hnl hzl hNN hk3
  go_enter Tryz.func92, Tryz.ntmps92
  go_wp2_with fail
  go_region_held3 (fun w' => w'.cell? ⟨bo, 0, none⟩ = some (.slice oo n oc) /\ w'.cell? ⟨bu, 0, none⟩ = some (.slice na nl nc0))
    (first | exact hS.out (ob ra) _ ((ExtX.of t1).trans hE2) hnb1 hnb2 | exact hS.out noY _ t23 rfl rfl | exact hS.out noY _ t1 rfl rfl | go_keep)
    (first | (go_at_call 75; (with_reducible refine hro1.mono ?_); rintro ee w1 ⟨t1, ra, rc, rfl, hO1⟩; have hX1 : HX H w1 := hXH.ext (hEd.trans t1); have hn1 : Sl RV 1 (mk (un H ra) w1) na N := hnS.old RV.mono (hEd.trans t1) (fun j hj => hO1.ob_lt hj); have hnb1 : ob ra bo = false := hO1.ob_lt hboW; have hnb2 : ob ra bu = false := hO1.ob_lt hbuW; have hb1 : W.drew.heap.size <= w1.heap.size := t1.size) | (go_at_call 91; (with_reducible refine (hnull.out w2 (.slice ro2 (s.length + nl) rc2) hX2 hM2).mono ?_); rintro ee w3 ⟨t3, na3, nc3, rfl, hnc3, hs3⟩; have t23 : Ext W.drew w3 := t2.trans t3) | (refine step_appendl (l := rowsL z s) rfl (by rfl) slRats rfl RV.elem hb1 hX1 N s.length nl hrl.out hnl'.out rfl rfl hO1 hn1 (by omega) (by omega) ?_; intro ro2 rc2 w2 hO2 hE2 hor2; have t2 : Ext W.drew w2 := t1.own hO1 (Nat.le_refl _) hE2; have hX2 : HX H w2 := hXH.ext (hEd.trans t2); have hM2 : MV (mk H w2) (.slice ro2 (s.length + nl) rc2) (rowsL z s ++ N) := ⟨ro2, rc2, by rw [hMl'.out], hO2.lenCap, hO2.sl RV.elem⟩))
  have tW3 : Ext W w3 := hEd.trans t23
  clear t3
  have t3 := tW3
  have hst3 := hst.step t3
  have hX3 := hXH.ext t3
  have hB3 : B0 + 6 <= w3.heap.size := Nat.le_trans hB0 t3.size
  have hB0' := hB0
  clear hS k1 k2 hro1 hnS hst hXH hB0 hboW hbuW hnb1 hnb2 hO2 hE2 hor2 t2 hX2 hM2 hO1 hX1 hn1 hb1 t1 hEd t23
  have hsub : ∀ k, twoB bc bs k = true -> H k = true := fun k hk => by rw [<- hH]; simp [hidS, hk]
  have hkeep := hid (fun (wr : World) (h : ExtX (twoB bc bs) w3 wr) => (keep_ext ((ExtX.of t3).trans h) (fun k hk => by
    have := hl.hi3
    have := hl.hi5
    simp only [twoB, Bool.or_eq_true, beq_iff_eq] at hk
    simp [ownB]; omega) hB0' : Keep B0 W wr))
  have hH' := hid hH
  have hl' := hid hl
  clear hH hl
  by_cases hk1 : k3 = 1
  rotate_left 1
  · have d1 : ((k3 : Int) != 1) = true := bneT (by omega)
    obtain ⟨h1, h2, h3, h4⟩ := hSo'.out
    have hTq : Hid (BInv X w0 bo bu bc bd bs B0 c oo n oc (.slice na nl nc0) z N (done ++ [s]) w3 /\ Keep B0 W w3) := hid ⟨⟨cnt, dv, us, hst3, h1, h2, h3, fun t ht => by
      rcases List.mem_append.1 ht with h | h
      · exact h4 t h
      · rw [List.mem_singleton.1 h]; exact hno.out (by rw [hk3'.out]; exact hk1) cnt⟩, hkeep.out w3 (ExtX.refl _)⟩
    clear h1 h2 h3 h4 hst3 hs3
    go_wp2_with fail
    refine bodyPost_ret (results_none rfl _ _ _) rfl ?_
    exact ⟨rfl, hTq.out⟩
  subst hk1
  have h0N : 0 < NN.length := by rw [hk3'.out]; decide
  obtain ⟨hLl, hLz, hLo, hLB, hfinT⟩ := hyes.out hk3'.out (NN[0]'h0N) (List.getElem?_eq_getElem _)
  have hrow := hid (fun (wr : World) (h : ExtX (twoB bc bs) w3 wr) => (hs3.mono RC.mono (mk_mono h hsub)).row 0 h0N)
  have hhn : Hd na3 1 := by have := hs3.hd; rw [hk3'.out] at this; exact this
  obtain ⟨L, hL⟩ : ∃ L, NN[0]'h0N = L := ⟨_, rfl⟩
  rw [hL] at hLl hLz hLo hLB hfinT hrow
  have hLl' := hid hLl
  have hLz' := hid hLz
  have hLo' := hid hLo
  have hfinT' := hid hfinT
  have hLC : Hid (BR 9999999999 L) := hid fun q hq => Nat.le_trans (hLB q hq) (by omega)
  have hlit := (lit_sl H w3 [1, -1] 3 #[.int .i64 1, .int .i64 (-1)] rfl hX3 (by simp)).sl (IntIn.elem _)
  have hEa : Ext w3 (w3.alloc (.cells #[.int .i64 1, .int .i64 (-1)] 3)) := (ExtX.refl _).alloc _
  obtain ⟨w4, hw4⟩ : ∃ w4, w3.alloc (.cells #[.int .i64 1, .int .i64 (-1)] 3) = w4 := ⟨_, rfl⟩
  obtain ⟨g4, hg4⟩ : ∃ g4 : Option Addr, some ⟨w3.heap.size, 0, none⟩ = g4 := ⟨_, rfl⟩
  obtain ⟨LL, hLL⟩ : ∃ LL : List Int, [1, -1] = LL := ⟨_, rfl⟩
  have hLLl : Hid (LL.length = 2) := hid (by rw [<- hLL]; rfl)
  have hLLv : Hid (∀ q (hq : q < LL.length), (q = 0 /\ LL[q] = 1) \/ (q = 1 /\ LL[q] = -1)) := hid fun q hq => by
    subst hLL
    match q, hq with
    | 0, _ => exact .inl ⟨rfl, rfl⟩
    | 1, _ => exact .inr ⟨rfl, rfl⟩
  rw [hw4] at hEa hlit
  rw [hg4, hLL] at hlit
  have hhL := hlit.hd
  rw [hLLl.out] at hhL
  have hst4 := hst3.step hEa
  have hX4 := hX3.ext hEa
  have hw34 := hid hEa
  obtain ⟨hS1, hS2, hS3, hS4⟩ := hSo'.out
  have hstart := hid (⟨hS1, hS2, hS3, fun h => absurd h (Nat.lt_irrefl _), fun h => by omega, hS4⟩ : Sofar c z cnt us /\ BM uB us /\ (∀ r ∈ us, r.length = c) /\ (0 < 0 -> Bd c z cnt (vec (sgL 1 L))) /\ (1 < 0 -> Bd c z cnt (vec (sgL (-1) L))) /\ ∀ t ∈ done, Tried c (vecs z) (vecs N) cnt (t.map Int.toNat))
  clear hLl hLz hLo hLB hfinT hLL hs3 hL hst3 hS1 hS2 hS3 hS4 hEa hyes hno hSo'
  go_wp2_with fail
  go_loopw [35] (fun cx wr => ∃ (q cnt : Nat) (dv : Value) (us : List (List Rat)), cx = .int .i64 q /\ q <= 2 /\ cnt <= n + 1 /\ BSt X w0 bo bu bc bd bs B0 c oo n oc (.slice na nl nc0) z N cnt dv us wr /\ Hid (Sofar c z cnt us /\ BM uB us /\ (∀ r ∈ us, r.length = c) /\ (0 < q -> Bd c z cnt (vec (sgL 1 L))) /\ (1 < q -> Bd c z cnt (vec (sgL (-1) L))) /\ ∀ t ∈ done, Tried c (vecs z) (vecs N) cnt (t.map Int.toNat)) /\ ExtX (twoB bc bs) w4 wr) (fun cx _ => 2 - (intOf cx).toNat)
  case atStart => exact ⟨0, cnt, dv, us, rfl, Nat.zero_le _, hcl, hst4, hstart, ExtX.refl _⟩
  case round =>
    clear hstart hst4 hcl
    clear cnt dv us
    obtain ⟨q, cnt, dv, us, rfl, hq, hcl, hst, hf, hE⟩ := hrel
    have hE3 : ExtX (twoB bc bs) w3 wr := (ExtX.of hw34.out).trans hE
    have hXr : HX H wr := hX4.ext hE
    by_cases hlt : q < 2
    · have hqL : q < LL.length := by rw [hLLl.out]; exact hlt
      have k00 := (hlit.mono (IntIn.mono _) (mk_mono hE hsub)).int q hqL
      have hsv := hLLv.out q hqL
      obtain ⟨sg, hsg⟩ : ∃ sg, LL[q] = sg := ⟨_, rfl⟩
      rw [hsg] at k00 hsv
      have hsg1 : sg = 1 \/ sg = -1 := by omega
      have hsgi : -9223372036854775808 <= sg /\ sg <= 9223372036854775807 := by omega
      obtain ⟨a1, c1, hX1, hc1, hcl1, hq1⟩ := hrow.out wr hE3
      have k01 := hc1.out noY wr (ExtX.refl _) rfl
      rw [hLl'.out] at k01 hcl1
      have hh1 : Hd a1 c := by have := hq1.hd; rw [hLl'.out] at this; exact this
      obtain ⟨U, hU⟩ : ∃ U, sgL sg L = U := ⟨_, rfl⟩
      have hUl : Hid (U.length = c) := hid (by rw [<- hU, sgL_len]; exact hLl'.out)
      have hUi : Hid (∀ j (hj : j < L.length) (h : j < U.length), U[j] = (sg : Rat) * L[j]) := hid fun j hj h => by subst hU; exact sgL_get hj h
      have hUz : Hid (nz c (vec U)) := hid (by rw [<- hU]; exact sgL_nz hsg1 hLz'.out)
      have hUo : Hid (Ort c (vecs N) (vec U)) := hid (by rw [<- hU]; exact sgL_ort hLo'.out)
      have hUB : Hid (BR uB U) := hid (by rw [<- hU]; exact sgL_br hsg1 hLC.out)
      have hnext : Hid (∀ (cnt' : Nat) (us' : List (List Rat)), cnt' <= cnt -> Sofar c z cnt' us' -> BM uB us' -> (∀ r ∈ us', r.length = c) -> Bd c z cnt' (vec U) -> (Sofar c z cnt' us' /\ BM uB us' /\ (∀ r ∈ us', r.length = c) /\ (0 < q + 1 -> Bd c z cnt' (vec (sgL 1 L))) /\ (1 < q + 1 -> Bd c z cnt' (vec (sgL (-1) L))) /\ ∀ t ∈ done, Tried c (vecs z) (vecs N) cnt' (t.map Int.toNat))) := hid fun cnt' us' h1 h2 h3 h4 h5 => by
        obtain ⟨_, _, _, f4, f5, f6⟩ := hf.out
        subst hU
        refine ⟨h2, h3, h4, fun _ => ?_, fun hq1 => ?_, fun t ht => (f6 t ht).le h1⟩
        · rcases hsv with ⟨rfl, rfl⟩ | ⟨rfl, rfl⟩
          · exact h5
          · exact (f4 (by decide)).le h1
        · rcases hsv with ⟨rfl, rfl⟩ | ⟨rfl, rfl⟩
          · omega
          · exact h5
      have hUl2 : U.length <= c := by rw [hUl.out]; exact Nat.le_refl _
      have hUl3 : c <= U.length := by rw [hUl.out]; exact Nat.le_refl _
      have hsv' := hid hsv
      clear hc1 hU hsg hsv
      obtain ⟨wo, hwo⟩ : ∃ wo, wo = wr := ⟨_, rfl⟩
      subst hwo
      go_wp2_with (first | (with_reducible refine up_ix1 slInt (by omega) (by assumption) ?_) | (with_reducible refine up_ix1 slRats (by omega) (by assumption) ?_))
      go_loopw [11, 43] (fun o cx wx => ∃ (j : Nat) (uo : Option Addr) (uc : Nat), cx = .int .i64 j /\ o = .slice uo j uc /\ j <= c /\ OL QC 3 H wo.heap.size 34 wx uo uc (U.take j) /\ Ext wo wx) (fun _ cx _ => c - (intOf cx).toNat)
      case atStart => exact ⟨0, none, 0, rfl, rfl, Nat.zero_le _, OL.nil _ _ _ _ _ _, ExtX.refl _⟩
      case round =>
        obtain ⟨j, uo, uc, rfl, rfl, hj, hO, hEj⟩ := hrel
        have hXj : HX H wr := hXr.ext hEj
        have hXu : HX (un H uo) wr := hO.unX hXj
        have hbj := hEj.size
        clear k00 k01
        by_cases hlj : j < c
        · have hjL : j < L.length := by rw [hLl'.out]; exact hlj
          have hjU : j < U.length := by omega
          have htk := hid (take_snoc U j hjU)
          have hln := hid (len_take (l := U) (i := j) (by omega))
          have hUj := hUi.out j hjL hjU
          rw [hUj] at htk
          have hq2 : Sl QC 3 (mk (un H uo) wr) a1 L := hq1.old QC.mono hEj (fun j hj => hO.ob_lt hj)
          have hxB := hLC.out L[j] (List.getElem_mem _)
          obtain ⟨x, hx⟩ : ∃ x, L[j] = x := ⟨_, rfl⟩
          rw [hx] at htk hxB
          have hx' := hid hx
          have bx := Bx.new wr #[.bool false, .slice none 0 0, .slice none 0 0] 34
          have hsgq : Go.Lim.hq (sg : Rat) <= 68719476736 := by rcases hsg1 with rfl | rfl <;> decide +kernel
          have hxq : Go.Lim.hq x <= 68719476736 := by omega
          have hobn : ob uo wr.heap.size = false := hO.ob_ge (Nat.le_refl _)
          clear hUj hx hxB
          go_wp2_with (first | (with_reducible refine up_ixn slRat (by omega) (by assumption) ?_) | ((with_reducible show wpList _ _ _ (⟨_, .load 34 _, _, _, _, _⟩ :: _) _ _); refine st_loadElem stRat j hq2 hjL rfl (by simp) QC.agg ?_; intro u5 hu5; rw [hx'.out] at hu5; obtain ⟨s5, a5, n5, c5, d5, m5, e5, rfl⟩ := hu5.shape) | ((with_reducible show wpList _ _ _ (⟨_, .store 34 _ _, _, _, _, _⟩ :: _) _ _); refine st_storeBox stRat rfl rfl bx rfl rfl (one3 _ _ _ _ _ _ _) ?_; intro w5 r1 r2; have hE5 : Ext wr w5 := ExtX.box ((ExtX.refl wr).alloc _) r2 (Nat.le_refl _)))
          have hE5d : Ext wr w5.drew := hE5.drew
          have hX5 : HX (un H uo) w5.drew := hXu.ext hE5d
          have x5 : QV (mk (un H uo) w5.drew) (.agg #[.bool s5, .slice a5 n5 c5, .slice d5 m5 e5]) x := (mkx QC.mono hu5 hE5d).qv hxq
          have hS5 : Hid (∀ Y W', ExtX Y w5.drew W' -> Y wr.heap.size = false -> W'.cell? ⟨wr.heap.size, 0, none⟩ = some (.bool s5) /\ W'.cell? ⟨wr.heap.size, 1, none⟩ = some (.slice a5 n5 c5) /\ W'.cell? ⟨wr.heap.size, 2, none⟩ = some (.slice d5 m5 e5)) := hid fun Y W' h hy => by
            have b1 := (r1.ext0 ((ExtX.refl (Y := noY) w5).drew)).ext h hy
            exact ⟨b1.cell 0 rfl, b1.cell 1 rfl, b1.cell 2 rfl⟩
          obtain ⟨m0, m1, m2⟩ := hS5.out noY w5.drew (ExtX.refl _) rfl
          clear bx r1 r2 hu5
          go_region_held3 (fun w' => w'.cell? ⟨wr.heap.size, 0, none⟩ = some (.bool s5) /\ w'.cell? ⟨wr.heap.size, 1, none⟩ = some (.slice a5 n5 c5) /\ w'.cell? ⟨wr.heap.size, 2, none⟩ = some (.slice d5 m5 e5))
            (first | exact hS5.out (ob uo) _ ((ExtX.of t12).trans hE8) hobn | exact hS5.out noY _ (ExtX.alloc t12 _) rfl | exact hS5.out noY _ t12 rfl | exact hS5.out noY _ t1 rfl | go_keep)
            (first | (go_at_call 94; (with_reducible refine (qfrom (un H uo) w5.drew sg hX5 hsgi.1 hsgi.2).mono ?_); rintro ee w6 ⟨t1, u6, rfl, hu6⟩; obtain ⟨s6, a6, n6, c6, d6, m6, e6, rfl⟩ := hu6.shape; have hX6 : HX (un H uo) w6 := hX5.ext t1; have hg6 : QV (mk (un H uo) w6) (.agg #[.bool s6, .slice a6 n6 c6, .slice d6 m6 e6]) (sg : Rat) := hu6.qv hsgq; have hx6 : QV (mk (un H uo) w6) (.agg #[.bool s5, .slice a5 n5 c5, .slice d5 m5 e5]) x := mkx QV.mono x5 t1) | (go_at_call 93; (with_reducible refine (qmul (un H uo) w6 _ _ _ _ hX6 hg6 hx6).mono ?_); rintro ee w7 ⟨t2, u7, rfl, hu7⟩; obtain ⟨s7, a7, n7, c7, d7, m7, e7, rfl⟩ := hu7.shape; have t12 : Ext w5.drew w7 := t1.trans t2; have hO7 := hO.ext0 QC.elem (hE5d.trans t12); have hX7 : HX H w7 := hXj.ext (hE5d.trans t12); have hb7 : wo.heap.size <= w7.heap.size := Nat.le_trans hbj (hE5d.trans t12).size) | (refine step_append1 (l := U.take j) rfl (by rfl) slRat rfl QC.elem hb7 hX7 j hln.out rfl rfl hO7 (.agg #[.bool s7, .slice a7 n7 c7, .slice d7 m7 e7]) ((sg : Rat) * x) rfl hu7 (by omega) (by omega) ?_; intro uo2 uc2 w8 hO8 hE8 hor8))
          have hE9 := (hEj.trans (hE5d.trans t12)).own hO7 (Nat.le_refl _) hE8
          rw [htk.out] at hO8
          clear m0 m1 m2
          go_wp2_with fail
          go_roundw
          case rel => exact ⟨j + 1, uo2, uc2, by go_num, by go_num, by omega, hO8, hE9⟩
          case measure => simp [intOf]; omega
        · have hjc : c = j := by omega
          subst hjc
          rw [List.take_of_length_le (by omega)] at hO
          have huc := hO.lenCap
          have hURV : RV (mk H wr) (.slice uo c uc) U := ⟨uo, uc, by rw [hUl.out], huc, (hO.sl QC.elem).qv fun q hq => Nat.le_trans (hUB.out q hq) (by decide)⟩
          have hsty := hst.step hEj
          have hEw : ExtX (twoB bc bs) w4 wr := hE.then_ hEj (fun _ _ _ => rfl)
          have hXy := hXj
          clear hst hO hXu hbj hlj hj huc hq1 hrow hhn hEj hXr hXj
          obtain ⟨wy, hwy⟩ : ∃ wy, wy = wr := ⟨_, rfl⟩
          subst hwy
          have k1 := hsty.b1.cell 0 rfl
          have hzy := hsty.r1
          rw [hH'.out] at hzy
          obtain ⟨zo, zc, hze, hzc, hzs⟩ := hzy
          obtain ⟨rfl, -, rfl⟩ : oo = zo /\ n = z.length /\ oc = zc := by simpa using hze
          clear hze
          have hhz : Hd oo n := by have := hzs.hd; rw [hzl'.out] at this; exact this
          go_wp2_with fail
          go_loopw [14, 15, 57] (fun nn o cx wx => ∃ (i : Nat) (fo : Option Addr) (fc : Nat) (F : List (List Rat)) (P : Nat), cx = .int .i64 i /\ i <= n /\ nn = .int .i64 (P : Int) /\ P <= i /\ o = .slice fo F.length fc /\ F.length <= i /\ Hid (P = posM c U (z.take i) /\ F = onM c U (z.take i)) /\ OL RV 1 H wy.heap.size 27 wx fo fc F /\ Ext wy wx) (fun _ _ cx _ => n - (intOf cx).toNat)
          case atStart => exact ⟨0, none, 0, [], 0, rfl, Nat.zero_le _, rfl, Nat.zero_le _, rfl, Nat.zero_le _, hid ⟨rfl, rfl⟩, OL.nil _ _ _ _ _ _, ExtX.refl _⟩
          case round =>
            obtain ⟨i, fo, fc, F, P, rfl, hi, rfl, hPi, rfl, hFl, hFe, hO, hEi⟩ := hrel
            have hXi : HX H wr := hXy.ext hEi
            have hbi := hEi.size
            clear k1
            by_cases hli : i < n
            · have hiZ : i < z.length := by rw [hzl'.out]; exact hli
              have hzr : Sl RV 1 (mk (un H fo) wr) oo z := hzs.old RV.mono hEi (fun j hj => hO.ob_lt hj)
              obtain ⟨a2, c2, hX2, hc2, hcl2, hq2⟩ := hzr.row i hiZ
              have k00 := hc2.out noY wr (ExtX.refl _) rfl
              have hvl := hsh'.out.2 z[i] (List.getElem_mem _)
              have hvB := hzB'.out z[i] (List.getElem_mem _)
              have hos := hid (onM_succ c U hiZ)
              have hps := hid (posM_succ c U hiZ)
              have hdv := hid (dot_vec (u := U) (z := z[i]) hUl.out)
              have hdb := dot_bounds2 (l := U) (m := z[i]) hUB.out hvB (by decide) hB1 (by
                rw [hUl.out]
                have e : uB = 10000000000 := rfl
                have : c * (uB + B + 1) <= 3 * (uB + B + 1) := Nat.mul_le_mul_right _ hc3
                omega)
              have hvU : RV (mk (un H fo) wr) (.slice a2 z[i].length c2) z[i] := ⟨a2, c2, rfl, hcl2, hq2⟩
              have hvX : RV (mk H wr) (.slice a2 z[i].length c2) z[i] := RV.mono _ _ _ _ (mk_sub (X := H) fun k _ hk => un_left hk) hvU
              have hdot := edot_any H wr (.slice uo c uc) (.slice a2 z[i].length c2) U z[i] hXi (mkx RV.mono hURV hEi) hvX (by rw [hUl.out]; omega) (by rw [hUl.out]; exact hvl) hdb.1 hdb.2
              have hdq : Hid (Go.Lim.hq (dotL U z[i]) <= 68719476736) := hid (hdb.1 _ (Nat.le_refl _))
              rw [<- hdv.out] at hos hps
              rw [hvl] at k00 hdot hvU
              obtain ⟨D, hD⟩ : ∃ D, dotL U z[i] = D := ⟨_, rfl⟩
              obtain ⟨v, hv⟩ : ∃ v, z[i] = v := ⟨_, rfl⟩
              rw [hD] at hos hps hdot hdq
              rw [hv] at hos hvU
              clear hc2 hvl hvB hdb hD hdv hcl2 hq2 hv hvX hzr
              rcases sign_cases D with ⟨hs, hsg⟩ | ⟨hs, hsg⟩ | ⟨hs, hsg⟩
              · have hF2 : Hid (P + 1 = posM c U (z.take (i + 1)) /\ F = onM c U (z.take (i + 1))) := hid ⟨by rw [hps.out, if_pos hs, <- hFe.out.1], by rw [hos.out, if_neg (by grind), <- hFe.out.2, List.append_nil]⟩
                have hsg' := hid hsg
                clear hs hsg hos hps
                go_wp2_with (with_reducible refine up_ix1 slRats (by omega) (by assumption) ?_)
                refine hdot.mono ?_
                rintro e w7 ⟨hE7, u7, rfl, hu7⟩
                go_wp2_with fail
                refine (qsign H w7 u7 D (hXi.ext hE7) (hu7.qv hdq.out)).mono ?_
                rintro e w8 ⟨hE8, rfl⟩
                rw [hsg'.out]
                have hE78 := hE7.trans hE8
                have hO8 := hO.ext0 RV.elem hE78
                have hE10 := hEi.trans hE78
                clear k00 hdot
                go_wp2_with fail
                go_roundw
                case rel => exact ⟨i + 1, fo, fc, F, P + 1, by go_num, by omega, by go_num, by omega, rfl, by omega, hF2, hO8, hE10⟩
                case measure => simp [intOf]; omega
              · have hF2 : Hid (P = posM c U (z.take (i + 1)) /\ F ++ [v] = onM c U (z.take (i + 1))) := hid ⟨by rw [hps.out, if_neg (by grind), <- hFe.out.1]; rfl, by rw [hos.out, if_pos hs, <- hFe.out.2]⟩
                have hsg' := hid hsg
                clear hs hsg hos hps
                go_wp2_with (with_reducible refine up_ix1 slRats (by omega) (by assumption) ?_)
                refine hdot.mono ?_
                rintro e w7 ⟨hE7, u7, rfl, hu7⟩
                go_wp2_with fail
                refine (qsign H w7 u7 D (hXi.ext hE7) (hu7.qv hdq.out)).mono ?_
                rintro e w8 ⟨hE8, rfl⟩
                rw [hsg'.out]
                have hE78 := hE7.trans hE8
                have hO8 := hO.ext0 RV.elem hE78
                have hX8 := hXi.ext hE78
                have hv8 := mkx RV.mono hvU hE78
                have hb8 := (hEi.trans hE78).size
                clear k00 hdot
                go_wp2_with (at_builtin; refine st_append1n (l := F) slRats rfl RV.elem hb8 hX8 F.length rfl rfl rfl hO8 (.slice a2 c c2) v rfl hv8 (by omega) (by omega) ?_; intro oo2 co2 w9 hO9 hE9 hor)
                have hE10 := (hEi.trans hE78).own hO8 (Nat.le_refl _) hE9
                have hl9 : (F ++ [v]).length = F.length + 1 := by simp
                go_roundw
                case rel => exact ⟨i + 1, oo2, co2, F ++ [v], P, by go_num, by omega, rfl, by omega, by rw [hl9], by omega, hF2, hO9, hE10⟩
                case measure => simp [intOf]; omega
              · have hF2 : Hid (P = posM c U (z.take (i + 1)) /\ F = onM c U (z.take (i + 1))) := hid ⟨by rw [hps.out, if_neg (by grind), <- hFe.out.1]; rfl, by rw [hos.out, if_neg (by grind), <- hFe.out.2, List.append_nil]⟩
                have hsg' := hid hsg
                clear hs hsg hos hps
                go_wp2_with (with_reducible refine up_ix1 slRats (by omega) (by assumption) ?_)
                refine hdot.mono ?_
                rintro e w7 ⟨hE7, u7, rfl, hu7⟩
                go_wp2_with fail
                refine (qsign H w7 u7 D (hXi.ext hE7) (hu7.qv hdq.out)).mono ?_
                rintro e w8 ⟨hE8, rfl⟩
                rw [hsg'.out]
                have hE78 := hE7.trans hE8
                have hO8 := hO.ext0 RV.elem hE78
                have hE10 := hEi.trans hE78
                clear k00 hdot
                go_wp2_with fail
                go_roundw
                case rel => exact ⟨i + 1, fo, fc, F, P, by go_num, by omega, rfl, by omega, rfl, by omega, hF2, hO8, hE10⟩
                case measure => simp [intOf]; omega
            · have hin : i = n := by omega
              have hFP : P = posM c U z /\ F = onM c U z := by
                obtain ⟨h1, h2⟩ := hFe.out
                rw [List.take_of_length_le (by rw [hzl'.out, hin]; exact Nat.le_refl _)] at h1 h2
                exact ⟨h1, h2⟩
              have hFP' := hid hFP
              have hstz := hsty.step hEi
              have hEz : ExtX (twoB bc bs) w4 wr := hEw.then_ hEi (fun _ _ _ => rfl)
              have k3 := hstz.b3.cell 0 rfl
              obtain ⟨f1, f2, f3, _⟩ := hf.out
              have hkeepN := hid (fun (U0 : Bd c z cnt (vec U)) => hnext.out cnt us (Nat.le_refl _) f1 f2 f3 U0)
              clear hFe hFP hsty hzs hhz hli hi f1 f2 f3
              by_cases hPc : cnt <= P
              · have hN2 := hid (hkeepN.out (bd_triv (by rw [<- hFP'.out.1]; exact hPc)))
                go_wp2_with fail
                go_roundw
                case rel => exact ⟨q + 1, cnt, dv, us, by go_num, by omega, hcl, hstz, hN2, hEz⟩
                case measure => simp [intOf]; omega
              · have hLit := lit_row1 H wr uo c uc U 27 hXi (mkx RV.mono hURV hEi)
                have hEt : Ext wr (wr.alloc (.cells #[.slice uo c uc] 27)) := (ExtX.refl _).alloc _
                have hFs := (hO.sl RV.elem).old (oo := some ⟨wr.heap.size, 0, none⟩) RV.mono hEt (ob_new wr)
                have hFc := hO.lenCap
                obtain ⟨g, hg⟩ : ∃ g : Option Addr, some ⟨wr.heap.size, 0, none⟩ = g := ⟨_, rfl⟩
                obtain ⟨wt, hwt⟩ : ∃ wt, wr.alloc (.cells #[.slice uo c uc] 27) = wt := ⟨_, rfl⟩
                rw [hg, hwt] at hLit hFs
                rw [hwt] at hEt
                have hstT := hstz.step hEt
                have hXt : HX H wt := hXi.ext hEt
                have hXg : HX (un H g) wt := hLit.unX hXt
                have hFr : ∀ r ∈ F, r.length = c /\ BR B r := fun r hr => by
                  rw [hFP'.out.2] at hr
                  have := onM_sub _ _ _ r hr
                  exact ⟨hsh'.out.2 r this, hzB'.out r this⟩
                obtain ⟨fl, hfl⟩ : ∃ fl, F.length = fl := ⟨_, rfl⟩
                have hfl' := hid hfl
                have hUr : ∀ r ∈ [U], r.length = c := fun r hr => by rw [List.mem_singleton.1 hr]; exact hUl.out
                have hUBM : BM uB [U] := fun r hr => by rw [List.mem_singleton.1 hr]; exact hUB.out
                rw [hfl] at hFc hFl |-
                clear hO hfl
                have k3t := hstT.b3.cell 0 rfl
                by_cases h0 : 0 < fl
                rotate_left 1
                · have hF0 : onM c U z = [] := by rw [<- hFP'.out.2]; exact List.eq_nil_of_length_eq_zero (by rw [hfl'.out]; omega)
                  obtain ⟨p1, p2, hst9, hE9⟩ := hstT.put hl'.out P (.slice g 1 1) [U] (by rw [hH'.out]; exact ⟨g, 1, rfl, Nat.le_refl _, hLit.sl RV.elem⟩)
                  have hwit := (st_one hUz.out hF0).1
                  rw [<- hFP'.out.1] at hwit
                  have hN2 := hid (hnext.out P [U] (by omega) (.inr hwit) hUBM hUr (bd_triv (by rw [<- hFP'.out.1]; exact Nat.le_refl _)))
                  have q1 := hstT.b3.frozen 0
                  have hE10 := (hEz.then_ hEt (fun _ _ _ => rfl)).trans hE9
                  clear hstz hstT hLit hF0 hFs hwit hUr hUBM
                  go_wp2_with (first | ((with_reducible show wpList _ _ _ (⟨_, .store 3 _ _, _, _, _, _⟩ :: _) _ _); refine st_cell tyInt rfl rfl rfl rfl k3t q1 ?_) | ((with_reducible show wpList _ _ _ (⟨_, .store 25 _ _, _, _, _, _⟩ :: _) _ _); refine st_cell tyRatss rfl rfl rfl rfl p1 p2 ?_))
                  go_roundw
                  case rel => exact ⟨q + 1, P, .slice g 1 1, [U], by go_num, by omega, by omega, hst9, hN2, hE10⟩
                  case measure => simp [intOf]; omega
                · have hrec := ih'.out fl (by rw [<- hfl'.out, hFP'.out.2]; exact hless.out U hUz.out hUo.out) (un H g) wt (.slice fo fl fc) F c B hXg ⟨fo, fc, by rw [hfl'.out], by rw [hfl'.out]; exact hFc, hFs⟩ ⟨hfl'.out, fun r hr => (hFr r hr).1⟩ (by omega) (by omega) hc3 (fun r hr => (hFr r hr).2) hB1 hB
                  have k4 := hstT.b4.cell 0 rfl
                  have hFne : onM c U z ≠ [] := fun h => by rw [<- hFP'.out.2] at h; rw [<- hfl'.out, h] at h0; exact absurd h0 (by decide)
                  have hFsh : Shp fl c F := ⟨hfl'.out, fun r hr => (hFr r hr).1⟩
                  go_wp2_with fail
                  refine hrec.mono ?_
                  rintro e w9 ⟨hE9, l, dv2, us2, rfl, ⟨ao2, ca2, rfl, hca2, hs2⟩, hB2, hl2, hd2, hw2⟩
                  have hll := hd2.le
                  have hsho := Wit.short hFsh (by omega) hw2
                  have e9 : (vecs F).length = fl := by rw [<- hfl'.out]; simp [vecs]
                  rw [e9] at hll
                  rw [hFP'.out.2] at hd2 hw2
                  have hwit := hmore.out U l us2 hUz.out hUo.out hFne hw2 hd2
                  rw [<- hFP'.out.1] at hwit
                  have hbd := hid (fun n' (h : n' <= P + l) => bd_more hd2 (n := n') (by rw [<- hFP'.out.1]; exact h))
                  obtain ⟨ul, hul⟩ : ∃ ul, us2.length = ul := ⟨_, rfl⟩
                  have hul' := hid hul
                  rw [hul] at hca2 hsho |-
                  have hLit9 := hLit.ext0 RV.elem hE9
                  have hX9 : HX H w9 := hXt.ext hE9
                  have hb9 := (hEt.trans hE9).size
                  have hwr : IntKind.i64.wrap ((P : Int) + (l : Int)) = ((P + l : Nat) : Int) := by rw [IntWalk.i64_in _ (by omega)]; omega
                  have hst9 := hstT.step hE9
                  have hE4 : ExtX (twoB bc bs) w4 w9 := hEz.then_ (hEt.trans hE9) (fun _ _ _ => rfl)
                  have hUr2 : ∀ r ∈ U :: us2, r.length = c := fun r hr => by
                    rcases List.mem_cons.1 hr with rfl | hr
                    · exact hUl.out
                    · exact hl2 r hr
                  have hUB2 : BM uB (U :: us2) := fun r hr => by
                    rcases List.mem_cons.1 hr with rfl | hr
                    · exact hUB.out
                    · exact hB2 r hr
                  have hFPn := hid (fun (h : P + l < cnt) => hnext.out (P + l) (U :: us2) (by omega) (.inr hwit) hUB2 hUr2 (hbd.out _ (Nat.le_refl _)))
                  have hFPk := hid (fun (h : cnt <= P + l) => hkeepN.out (hbd.out cnt h))
                  clear hrec hd2 hw2 hwit hUr2 hUB2 hB2 hl2 hul hstT hLit hFs k3 k3t k4 hUr hUBM hFr hFsh hFne e9
                  by_cases hPl : P + l < cnt
                  · have hN2 := hid (hFPn.out hPl)
                    have hPl' : (P : Int) + (l : Int) < (cnt : Int) := by omega
                    go_wp2_with (first | (at_builtin; refine st_appendl (l := [U]) slRats rfl RV.elem hb9 hX9 us2 rfl (by rw [hul'.out]; rfl) hLit9 hs2 (by rw [hul'.out, List.length_singleton]; omega) (by rw [hul'.out, List.length_singleton]; omega) ?_; intro g2 gc2 w10 hO10 hE10 hor10; have hEA : Ext wr w10 := (hEt.trans hE9).own hLit9 (Nat.le_refl _) hE10; have hst10 := hstz.step hEA; have k5 := hst10.b3.cell 0 rfl; have q1 := hst10.b3.frozen 0; obtain ⟨p1, p2, hst11, hE11⟩ := hst10.put hl'.out (P + l) (.slice g2 (us2.length + 1) gc2) (U :: us2) (by rw [hH'.out]; exact ⟨g2, gc2, rfl, by have := hO10.lenCap; simpa using this, hO10.sl RV.elem⟩); clear hO10) | ((with_reducible show wpList _ _ _ (⟨_, .store 3 _ _, _, _, _, _⟩ :: _) _ _); refine st_cell tyInt rfl rfl rfl rfl k5 q1 ?_) | ((with_reducible show wpList _ _ _ (⟨_, .store 25 _ _, _, _, _, _⟩ :: _) _ _); refine st_cell tyRatss rfl rfl rfl rfl p1 p2 ?_))
                    have hEB := (hEz.then_ hEA (fun _ _ _ => rfl)).trans hE11
                    go_roundw
                    case rel => exact ⟨q + 1, P + l, _, U :: us2, by go_num, by omega, by omega, hst11, hN2, hEB⟩
                    case measure => simp [intOf]; omega
                  · have hN2 := hid (hFPk.out (by omega))
                    have hPl' : ¬ (P : Int) + (l : Int) < (cnt : Int) := by omega
                    go_wp2_with (at_builtin; refine st_appendl (l := [U]) slRats rfl RV.elem hb9 hX9 us2 rfl (by rw [hul'.out]; rfl) hLit9 hs2 (by rw [hul'.out, List.length_singleton]; omega) (by rw [hul'.out, List.length_singleton]; omega) ?_; intro g2 gc2 w10 hO10 hE10 hor10; have hEA : Ext wr w10 := (hEt.trans hE9).own hLit9 (Nat.le_refl _) hE10; have hst10 := hstz.step hEA; have k5 := hst10.b3.cell 0 rfl; clear hO10)
                    have hEB := hEz.then_ hEA (fun _ _ _ => rfl)
                    go_roundw
                    case rel => exact ⟨q + 1, cnt, dv, us, by go_num, by omega, hcl, hst10, hN2, hEB⟩
                    case measure => simp [intOf]; omega
    · have hq2 : q = 2 := by omega
      subst hq2
      obtain ⟨f1, f2, f3, f4, f5, f6⟩ := hf.out
      have hTq : Hid (BInv X w0 bo bu bc bd bs B0 c oo n oc (.slice na nl nc0) z N (done ++ [s]) wr /\ Keep B0 W wr) := hid ⟨⟨cnt, dv, us, hst, f1, f2, f3, fun t ht => by
        rcases List.mem_append.1 ht with h | h
        · exact f6 t h
        · rw [List.mem_singleton.1 h]; exact hfinT'.out cnt (f4 (by decide)) (f5 (by decide))⟩, hkeep.out wr hE3⟩
      clear f1 f2 f3 f4 f5 f6 hst
      go_wp2_with fail
      go_end0
      exact ⟨rfl, hTq.out⟩
end Go.Proofs.YthipmbmjodhiiaaGreat
namespace Go.Lin
open Go.Lim
noncomputable def rankV (m : Mat) (c : Nat) : Nat := (eN m c).2.1.length
theorem rankV_red (m : Mat) (c : Nat) : rankV m c = (redP m c).2.length := rfl
end Go.Lin
namespace Go.Proofs.YthipmbmjodhiiaaGreat
open Go.RowKit Go.Rep Go.Lim Go.Lin
theorem rank_ok (X : Nat -> Bool) (w : World) (u : Value) (m : List (List Rat)) (hX : HX X w) (hu : MV (mk X w) u m) (hf : formedB m = true) (hT : TameE m (colsL m)) : Calls Tryz.prog 90 #[u] w (fun e w' => Ext w w' /\ e = .returned (.tuple #[.int .i64 (rankV m (colsL m) : Int), .int .i64 0])) := by
  obtain ⟨hsh, h96, hc96, _, _⟩ := formedB_shp hf
  have hfo := formed_any X w u m hu (by omega)
  rw [hf] at hfo
  have hco := copied_any X w u m m.length (colsL m) hX hu hsh rfl (by omega) (by omega)
  have hrv : Hid ((eN m (colsL m)).2.1.length = rankV m (colsL m)) := hid rfl
  clear hf
  go_enter Tryz.func90, Tryz.ntmps90
  go_wp2_with fail
  refine hfo.mono ?_
  rintro e w1 ⟨rfl, rfl⟩
  go_wp2_with fail
  refine hco.mono ?_
  rintro e w2 ⟨hE2, ao, cap, hs, rfl, hM2⟩
  go_wp2_with fail
  refine (echelon_any X _ w2 ao cap m.length (colsL m) hs m (hX.ext hE2) hM2 hsh rfl (by omega) (by omega) hT).mono ?_
  rintro e w3 ⟨hE3, po, pc, hs', rfl, hmb, hM3, hP3⟩
  have hEf := hM2.ext_from hE2 (Nat.le_refl _) hE3
  rw [hrv.out]
  go_wp2_with fail
  go_ret2
  exact ⟨hEf, rfl⟩
end Go.Proofs.YthipmbmjodhiiaaGreat
namespace Go.Rep
open Go.RowKit
theorem results_cells2 {P : Program} {w : World} {fn : Func} {tmps : Array Value} {c1 c2 : Tmp} {t1 t2 : TypeId} {A1 A2 : Addr} {v1 v2 : Value} (h : fn.results = #[.cell c1 t1, .cell c2 t2]) (hp1 : tmps.getD c1 undef = .pointer (some A1)) (hp2 : tmps.getD c2 undef = .pointer (some A2))
    (g1 : ∀ w, (isAgg t1).run P w = .ok false w) (g2 : ∀ w, (isAgg t2).run P w = .ok false w) (h1 : w.cell? A1 = some v1) (h2 : w.cell? A2 = some v2) : (results fn tmps).run P w = .ok (.tuple #[v1, v2]) w := by
  rw [Array.getD_eq_getD_getElem?] at hp1 hp2
  simp [results, h, hp1, hp2, asAddr, loadVar, g1, g2, h1, h2]
theorem Sl.oldZ {α : Type} {R : Mem -> Value -> α -> Prop} (hR : Mono R) {sz : Nat} {X Y : Nat -> Bool} {w w' : World} {oo ao : Option Addr} {l : List α} (s : Sl R sz (mk X w) ao l) (hE : ExtX Y w w') (hY : ∀ k, Y k = true -> X k = true) (hb : ∀ j, j < w.heap.size -> ob oo j = false) : Sl R sz (mk (un X oo) w') ao l :=
  s.mono hR (mk_over hE (fun k _ hk => hY k hk) fun j hk hz => by simpa [un, hb j hk] using hz)
end Go.Rep
namespace Go.Lin
open Go.Lim Go.Rep
theorem sgn_pos {sg : Int} (h : sg = 1 \/ sg = -1) (v : List Rat) : 0 < dot 1 (vec (sgL sg [1])) (vec v) ↔ (v.getD 0 0).num.sign = sg := by
  rw [dot_one, sgL_vec]
  have e : vec [1] 0 = 1 := rfl
  have e2 : vec v 0 = v.getD 0 0 := rfl
  rw [e, e2]
  generalize v.getD 0 0 = x
  rcases h with rfl | rfl
  · have h1 : ((1 : Int) : Rat) = 1 := rfl
    rw [h1]
    rcases sign_cases x with ⟨a, b⟩ | ⟨a, b⟩ | ⟨a, b⟩
    · rw [b]; exact ⟨fun _ => rfl, fun _ => by grind⟩
    · rw [b]; exact ⟨fun h => by grind, fun h => by omega⟩
    · rw [b]; exact ⟨fun h => by grind, fun h => by omega⟩
  · have h1 : ((-1 : Int) : Rat) = -1 := rfl
    rw [h1]
    rcases sign_cases x with ⟨a, b⟩ | ⟨a, b⟩ | ⟨a, b⟩
    · rw [b]; exact ⟨fun h => by grind, fun h => by omega⟩
    · rw [b]; exact ⟨fun h => by grind, fun h => by omega⟩
    · rw [b]; exact ⟨fun _ => rfl, fun _ => by grind⟩
end Go.Lin
namespace Go.Proofs.YthipmbmjodhiiaaGreat
open Go.RowKit Go.Rep Go.Lim Go.Lin
theorem aggInt : ∀ w, (isAgg 3).run Tryz.prog w = .ok false w := fun w => by simp [isAgg, Sem.run_bind, run_underlying Tryz.underlying3, Result.andThen]
theorem aggRatss : ∀ w, (isAgg 25).run Tryz.prog w = .ok false w := fun w => by simp [isAgg, Sem.run_bind, run_underlying Tryz.underlying25, Result.andThen]
theorem Bx.store {w : World} {b : Nat} {v0 : Value} {T : TypeId} (h : Bx w b #[v0] T) (v : Value) : Bx (w.setCell ⟨b, 0, none⟩ v) b #[v] T /\ ExtX (ob (some ⟨b, 0, none⟩)) w (w.setCell ⟨b, 0, none⟩ v) := by
  obtain ⟨h1, h2⟩ := setCell_block h v (i := 0) (by simp)
  exact ⟨by simpa using h1, h2⟩
set_option maxRecDepth 100000 in
set_option maxHeartbeats 6400000 in
theorem best_any (n : Nat) : BestC n := by
  induction n using Nat.strongRecOn with
  | _ n ih =>
  intro X w u z c B hX hu hs hn hc1 hc3 hzB hB1 hB
  have hzl : z.length = n := hs.1
  obtain ⟨W, hW, hEW, d0, d1, d2, d3, hz4⟩ := boxes4 w #[.int .i64 (c : Int)] #[.int .i64 0] #[.slice none 0 0] #[.slice none 0 0] 3 3 25 25
  obtain ⟨bd, hbd⟩ : ∃ b, w.heap.size = b := ⟨_, rfl⟩
  obtain ⟨bc, hbc⟩ : ∃ b, bd + 1 = b := ⟨_, rfl⟩
  obtain ⟨bs, hbs⟩ : ∃ b, bc + 1 = b := ⟨_, rfl⟩
  obtain ⟨bo, hbo⟩ : ∃ b, bs + 1 = b := ⟨_, rfl⟩
  rw [hbd] at d0 d1 d2 d3 hz4
  rw [hbc] at d1 d2 d3
  rw [hbs] at d2 d3
  rw [hbo] at d3
  obtain ⟨ua, uca, rfl, huca, hua⟩ := hu
  have hhu := hua.hd
  rw [hzl] at huca hhu |-
  have hzl' := hid hzl
  have hs' := hid hs
  have hzB' := hid hzB
  have ih' := hid ih
  have hoc := hid (fun i (hi : i < z.length) => others_succ (z := z) hi)
  obtain ⟨Xo, hXo⟩ : ∃ Xo, hidB X bd 4 = Xo := ⟨_, rfl⟩
  have hXW : HX Xo W := by
    have := hX.boxes (w' := W) (nb := 4) (by omega)
    rw [hbd, hXo] at this; exact this
  have hin4 : ∀ k, bd <= k -> k < bd + 4 -> Xo k = true := fun k h1 h2 => by rw [<- hXo]; exact hidB_in h1 h2
  have hXbo : Xo bo = true := hin4 bo (by omega) (by omega)
  have huW : Sl RV 1 (mk Xo W) ua z := by
    have := hua.mono RV.mono (le_boxes (nb := 4) hEW)
    rw [hbd, hXo] at this; exact this
  have hsubo : ∀ k, ob (some ⟨bo, 0, none⟩) k = true -> Xo k = true := fun k hk => by
    have : bo = k := by simpa [ob] using hk
    rw [<- this]; exact hXbo
  have hzc : z.length <= 1000 := by omega
  have hzr : Hid (∀ r ∈ z, r.length <= 1000) := hid fun r hr => by rw [hs.2 r hr]; omega
  clear hs hzB ih hua hzl
  go_enter Tryz.func58, Tryz.ntmps58
  go_wp2_with fail
  go_loopw [22] (fun cx wr => ∃ (i : Nat) (oo : Option Addr) (oc : Nat) (O : List (List Rat)), cx = .int .i64 i /\ i <= n /\ O.length <= i /\ Hid (O = others (z.take i)) /\ Bx wr bo #[.slice oo O.length oc] 25 /\ OL RV 1 Xo W.heap.size 27 wr oo oc O /\ ExtX (ob (some ⟨bo, 0, none⟩)) W wr) (fun cx _ => n - (intOf cx).toNat)
  case atStart => exact ⟨0, none, 0, [], rfl, Nat.zero_le _, Nat.zero_le _, hid rfl, d3, OL.nil _ _ _ _ _ _, ExtX.refl _⟩
  case round =>
    obtain ⟨i, oo, oc, O, rfl, hi, hOl, hOe, hb, hO, hE⟩ := hrel
    have hXr : HX Xo wr := hXW.ext hE
    by_cases hlt : i < n
    · have hiz : i < z.length := by rw [hzl'.out]; exact hlt
      have hsr : Sl RV 1 (mk (un Xo oo) wr) ua z := huW.oldZ RV.mono hE hsubo (fun j hj => hO.ob_lt hj)
      obtain ⟨a1, c1, hX1, hc1', hcl1, hq1⟩ := hsr.row i hiz
      have k00 := hc1'.out noY wr (ExtX.refl _) rfl
      have hos := hid (hoc.out i hiz)
      have hrl := hzr.out z[i] (List.getElem_mem _)
      obtain ⟨v, hv⟩ : ∃ v, z[i] = v := ⟨_, rfl⟩
      rw [hv] at k00 hos hrl hcl1 hq1
      obtain ⟨vl, hvl⟩ : ∃ vl, v.length = vl := ⟨_, rfl⟩
      have hvl' := hid hvl
      have hvU : RV (mk (un Xo oo) wr) (.slice a1 vl c1) v := ⟨a1, c1, by rw [hvl], hcl1, hq1⟩
      have hzv := hzero_any (un Xo oo) wr (.slice a1 vl c1) v (hO.unX hXr) hvU hrl
      rw [hvl] at k00
      obtain ⟨zb, hzb⟩ : ∃ zb, zeroB v = zb := ⟨_, rfl⟩
      rw [hzb] at hzv hos
      have kb := hb.cell 0 rfl
      obtain ⟨ol, hol⟩ : ∃ ol, O.length = ol := ⟨_, rfl⟩
      have hol' := hid hol
      rw [hol] at hb kb hOl
      clear hc1' hv hzb hq1 hcl1 hvl hol hrl
      cases zb
      · have hF2 : Hid (O ++ [v] = others (z.take (i + 1))) := hid (by rw [hos.out, <- hOe.out]; rfl)
        clear hos
        go_wp2_with (with_reducible refine up_ix1 slRats (by omega) (by assumption) ?_)
        refine hzv.mono ?_
        rintro e w5 ⟨hE5, rfl⟩
        have hO5 := hO.ext0 RV.elem hE5
        have hb5 := hb.ext0 hE5
        have kb5 := hb5.cell 0 rfl
        have hv5 := mkx RV.mono hvU hE5
        have hX5 : HX Xo w5 := hXr.ext hE5
        have hbs5 : W.heap.size <= w5.heap.size := Nat.le_trans hE.size hE5.size
        clear hzv k00 kb
        go_wp2_with (first | (at_builtin; refine st_append1n (l := O) slRats rfl RV.elem hbs5 hX5 ol hol'.out rfl rfl hO5 (.slice a1 vl c1) v rfl hv5 (by omega) (by omega) ?_; intro oo2 oc2 w7 hO7 hE7 hor; have hb7 := hb5.ext hE7 (hO5.not_ob hXbo); have kb7 := hb7.cell 0 rfl; have fb7 := hb7.frozen 0; obtain ⟨hb8, hE8⟩ := Bx.store hb7 (.slice oo2 (ol + 1) oc2); have hO8 := hO7.ext RV.elem hE8 (fun k _ hk => hsubo k hk) (fun _ _ h => h)) | ((with_reducible show wpList _ _ _ (⟨_, .store 25 _ _, _, _, _, _⟩ :: _) _ _); refine st_cell tyRatss rfl rfl rfl rfl kb7 fb7 ?_))
        have hE9 := ((hE.then_ hE5 (fun _ _ _ => rfl)).own hO5 (Nat.le_refl _) hE7).trans hE8
        have hl9 : (O ++ [v]).length = ol + 1 := by rw [List.length_append, hol'.out]; rfl
        go_roundw
        case rel => exact ⟨i + 1, oo2, oc2, O ++ [v], by go_num, by omega, by omega, hF2, by rw [hl9]; exact hb8, hO8, hE9⟩
        case measure => simp [intOf]; omega
      · have hF2 : Hid (O = others (z.take (i + 1))) := hid (by rw [hos.out, <- hOe.out]; simp)
        clear hos
        go_wp2_with (with_reducible refine up_ix1 slRats (by omega) (by assumption) ?_)
        refine hzv.mono ?_
        rintro e w5 ⟨hE5, rfl⟩
        have hO5 := hO.ext0 RV.elem hE5
        have hb5 := hb.ext0 hE5
        have hE9 := hE.then_ hE5 (fun _ _ _ => rfl)
        rw [<- hol'.out] at hb5
        clear hzv k00 kb
        go_wp2_with fail
        go_roundw
        case rel => exact ⟨i + 1, oo, oc, O, by go_num, by omega, by rw [hol'.out]; omega, hF2, hb5, hO5, hE9⟩
        case measure => simp [intOf]; omega
    · have hin : n = i := by omega
      subst hin
      have hOf : O = others z := by rw [hOe.out, List.take_of_length_le (by rw [hzl'.out]; exact Nat.le_refl _)]
      have hOs : Shp O.length c O := by rw [hOf]; exact others_shp hs'.out
      have hOz : ∀ v ∈ vecs O, nz c v := by rw [hOf]; exact others_nz hs'.out
      have hOB : BM B O := by rw [hOf]; exact BM.sub hzB'.out (others_sub z)
      have hnone := hid (fun (h : O = []) => (by
        rw [hOf] at h
        have := back_none hs'.out h (unitL_nz (d := c) (by omega))
        rwa [hzl'.out] at this : IsDep c (vecs z) n /\ Wit c (vecs z) n (vecs [unitL c])))
      have hback := hid (fun cnt us (h1 : IsDep c (vecs O) cnt) (h2 : Wit c (vecs O) cnt (vecs us)) => (by
        rw [hOf] at h1 h2
        have := back hs'.out h1 h2
        rwa [hzl'.out, <- hOf] at this : IsDep c (vecs z) (cnt + (n - O.length)) /\ Wit c (vecs z) (cnt + (n - O.length)) (vecs us)))
      have hXr := hXW.ext hE
      have e0 := d0.ext hE (ob_other (by omega))
      have e1 := d1.ext hE (ob_other (by omega))
      have e2 := d2.ext hE (ob_other (by omega))
      have hEr : Ext w wr := ExtX.box hEW hE (by omega)
      have hOc := hO.lenCap
      have hOS := hO.sl RV.elem
      obtain ⟨ol, hol⟩ : ∃ ol, O.length = ol := ⟨_, rfl⟩
      have hol' := hid hol
      rw [hol] at hOl hb hOs hback hOc
      have kb := hb.cell 0 rfl
      have kd := e0.cell 0 rfl
      have hmf : ∀ (fn : Fn) (first cap : Array Value) (w : World), (Instr.makeFunc fn first cap).run Tryz.prog w = .ok (.func fn first cap) w := fun _ _ _ _ => rfl
      clear hoc hzr huW hE hO d0 d1 d2 d3 hOe hOf hi hlt hol hW
      obtain ⟨wq, hwq⟩ : ∃ wq, wq = wr := ⟨_, rfl⟩
      subst hwq
      by_cases h0 : ol = 0
      · subst h0
        obtain ⟨g1, g2⟩ := hnone.out (List.eq_nil_of_length_eq_zero hol'.out)
        have hg1 := hid g1
        have hg2 := hid g2
        clear g1 g2
        go_wp2_with fail
        refine (hunit_any Xo wq c hXr (by omega) (by omega)).mono ?_
        rintro e w5 ⟨hE5, u5, rfl, ao5, ca5, rfl, hca5, hs5⟩
        have hur : RV (mk Xo w5) (.slice ao5 c ca5) (unitL c) := ⟨ao5, ca5, by rw [unitL_len], by rw [unitL_len] at hca5 |-; exact hca5, hs5.qv fun q hq => Nat.le_trans (unitL_br c q hq) (by decide)⟩
        have hX5 : HX Xo w5 := hXr.ext hE5
        have hL := lit_row1 Xo w5 ao5 c ca5 (unitL c) 27 hX5 hur
        have hEl : Ext w5 (w5.alloc (.cells #[.slice ao5 c ca5] 27)) := (ExtX.refl _).alloc _
        obtain ⟨g, hg⟩ : ∃ g : Option Addr, some ⟨w5.heap.size, 0, none⟩ = g := ⟨_, rfl⟩
        obtain ⟨w6, hw6⟩ : ∃ w6, w5.alloc (.cells #[.slice ao5 c ca5] 27) = w6 := ⟨_, rfl⟩
        rw [hg, hw6] at hL
        rw [hw6] at hEl
        have f1 := (e1.ext0 hE5).ext0 hEl
        have f2 := (e2.ext0 hE5).ext0 hEl
        have q1 := f1.cell 0 rfl
        have q2 := f1.frozen 0
        obtain ⟨f3, hE7⟩ := Bx.store f1 (.int .i64 (n : Int))
        have f4 := f2.ext hE7 (ob_other (by omega))
        have q3 := f4.cell 0 rfl
        have q4 := f4.frozen 0
        obtain ⟨f5, hE8⟩ := Bx.store f4 (.slice g 1 1)
        have f6 := f3.ext hE8 (ob_other (by omega))
        have hEf : Ext w _ := ExtX.box (ExtX.box ((hEr.trans hE5).trans hEl) hE7 (by omega)) hE8 (by omega)
        have hlen1 : (unitL c).length = c := unitL_len c
        have hm6 : MV (mk Xo w6) (.slice g 1 1) [unitL c] := ⟨g, 1, rfl, Nat.le_refl _, hL.sl RV.elem⟩
        have hm8 := MV.mono _ _ _ _ (mk_mono (X := Xo) hE8 (fun k hk => by
          have : bs = k := by simpa [ob] using hk
          exact hin4 k (by omega) (by omega))) (MV.mono _ _ _ _ (mk_mono (X := Xo) hE7 (fun k hk => by
          have : bc = k := by simpa [ob] using hk
          exact hin4 k (by omega) (by omega))) hm6)
        rw [<- hXo] at hm8
        have hm9 := MV.mono _ _ _ _ le_unbox hm8
        go_wp2_with (first | ((with_reducible show wpList _ _ _ (⟨_, .store 3 _ _, _, _, _, _⟩ :: _) _ _); refine st_cell tyInt rfl rfl rfl rfl q1 q2 ?_) | ((with_reducible show wpList _ _ _ (⟨_, .store 25 _ _, _, _, _, _⟩ :: _) _ _); refine st_cell tyRatss rfl rfl rfl rfl q3 q4 ?_))
        exact bodyPost_ret (results_cells2 rfl rfl rfl aggInt aggRatss (f6.cell 0 rfl) (f5.cell 0 rfl)) rfl ⟨hEf, n, .slice g 1 1, [unitL c], rfl, hm9, fun r hr => by
          rw [List.mem_singleton.1 hr]; exact fun q hq => Nat.le_trans (unitL_br c q hq) (by decide), fun r hr => by rw [List.mem_singleton.1 hr]; exact hlen1, hg1.out, hg2.out⟩
      have h0' : ((ol : Int) == 0) = false := beqF (by omega)
      have hOne : O ≠ [] := fun h => h0 (by rw [<- hol'.out, h]; rfl)
      have hpos := rank_pos hOs hOz hOne
      obtain ⟨r, hr⟩ : ∃ r, (redP O c).2.length = r + 1 := ⟨_, (Nat.succ_pred_eq_of_pos hpos).symm⟩
      have hrc := piv_le_cols hOs
      have hrn := piv_le_rows hOs
      have hT : Tame O c := by
        rcases search_hb hOs (bm_hb hOB hB1) hc3 with h | h
        · exact h
        · omega
      obtain ⟨hOf, hOcol⟩ := formedB_of hOs (by omega) hc1 (by omega) (by omega)
      have hMO : MV (mk Xo wq) (.slice oo ol oc) O := ⟨oo, oc, by rw [hol'.out], by rw [hol'.out]; exact hOc, hOS⟩
      have hrk := rank_ok Xo wq (.slice oo ol oc) O hXr hMO hOf (by rw [hOcol]; exact hT.e)
      rw [hOcol, rankV_red, hr] at hrk
      have hnu := hid (fun w' (h : Ext wq w') => null_ok Xo w' (.slice oo ol oc) O ol c (hXr.ext h) (mkx MV.mono hMO h) hOf hol'.out hOcol hT)
      have hwrp : IntKind.i64.wrap ((ol : Int) + 1) = ((ol + 1 : Nat) : Int) := by rw [IntWalk.i64_in _ (by omega)]; omega
      clear hnone
      go_wp2_with fail
      refine hrk.mono ?_
      rintro e w5 ⟨hE5, rfl⟩
      have hnu5 := hnu.out w5 hE5
      have kb5 := (hb.ext0 hE5).cell 0 rfl
      clear hrk
      go_wp2_with fail
      refine hnu5.mono ?_
      rintro e w6 ⟨hE6, u6, rfl, hu6⟩
      have hN := hu6.mv (m := nullM O c) (fun r hr q hq => Nat.le_trans (hb_bm (nullM_hb (bm_hb hOB hB1) hOs (k := 3) (by omega)) r hr q hq) (by
        have e : 35 ^ 3 = 42875 := by decide
        rw [e]; omega))
      obtain ⟨no, nc, rfl, hnc, hns⟩ := hN
      have bx := Bx.new w6 #[.slice none 0 0] 25
      have bx0 := bx.cell 0 rfl
      have bx1 := bx.frozen 0
      obtain ⟨bx2, hE7⟩ := Bx.store bx (.slice no (nullM O c).length nc)
      have hE67 : Ext w6 _ := ExtX.box ((ExtX.refl w6).alloc _) hE7 (Nat.le_refl _)
      obtain ⟨nl, hnl⟩ : ∃ nl, (nullM O c).length = nl := ⟨_, rfl⟩
      have hnl' := hid hnl
      have hnlL : (nullL (ent (redP O c).1) (redP O c).2 c).length = nl := hnl
      rw [hnl] at hnc bx2 hE7 hE67
      obtain ⟨bu, hbu⟩ : ∃ bu, w6.heap.size = bu := ⟨_, rfl⟩
      rw [hbu] at bx0 bx1 bx2 hE7 hE67
      obtain ⟨w7, hw7⟩ : ∃ w7, (w6.alloc (.cells #[.slice none 0 0] 25)).setCell ⟨bu, 0, none⟩ (.slice no nl nc) = w7 := ⟨_, rfl⟩
      rw [hw7] at bx2 hE67
      have hEq7 : Ext wq w7 := hE5.trans (hE6.trans hE67)
      have kb7 := (hb.ext0 hEq7).cell 0 rfl
      have f1 := e1.ext0 hEq7
      have q1 := f1.cell 0 rfl
      have q2 := f1.frozen 0
      obtain ⟨f3, hE8⟩ := Bx.store f1 (.int .i64 ((ol : Int) + 1))
      obtain ⟨w8, hw8⟩ : ∃ w8, w7.setCell ⟨bc, 0, none⟩ (.int .i64 ((ol : Int) + 1)) = w8 := ⟨_, rfl⟩
      rw [hw8] at f3 hE8
      have f3 : Bx w8 bc #[.int .i64 ((ol + 1 : Nat) : Int)] 3 := f3
      have hsz := hEr.size
      have hsz7 := hEq7.size
      have hbu7 := bx2.lt
      have hbq : wq.heap.size <= bu := by rw [<- hbu]; exact (hE5.trans hE6).size
      have hqb := hb.lt
      have f4 := (e0.ext0 hEq7).ext hE8 (ob_other (by omega))
      have f5 := (e2.ext0 hEq7).ext hE8 (ob_other (by omega))
      have f6 := (hb.ext0 hEq7).ext hE8 (ob_other (by omega))
      have f7 := bx2.ext hE8 (ob_other (by omega))
      have kd8 := f4.cell 0 rfl
      have kb8 := f6.cell 0 rfl
      have hsz8 := hE8.size
      have hEw8 : Ext w w8 := ExtX.box (hEr.trans hEq7) hE8 (by omega)
      by_cases hcc : c = 1
      · subst hcc
        have hr0 : r = 0 := by have := rank_one hOs hOz hOne; omega
        subst hr0
        have hX8 : HX Xo w8 := (hXr.ext hEq7).ext hE8
        have htwo : ∀ k, twoB bc bs k = true -> Xo k = true := fun k hk => by
          simp only [twoB, Bool.or_eq_true, beq_iff_eq] at hk
          rcases hk with h | h
          · exact hin4 k (by omega) (by omega)
          · exact hin4 k (by omega) (by omega)
        have htb : twoB bc bs bo = false := by
          have h1 : ¬ bo = bc := by omega
          have h2 : ¬ bo = bs := by omega
          simp [twoB, h1, h2]
        have hO8 : Sl RV 1 (mk Xo w8) oo O := (hOS.mono RV.mono (mk_ext hEq7)).mono RV.mono (mk_mono hE8 fun k hk => by
          have : bc = k := by simpa [ob] using hk
          exact hin4 k (by omega) (by omega))
        have hho : Hd oo ol := by have := hO8.hd; rw [hol'.out] at this; exact this
        have hlit := (lit_sl Xo w8 [1, -1] 3 #[.int .i64 1, .int .i64 (-1)] rfl hX8 (by simp)).sl (IntIn.elem _)
        have hEa : Ext w8 (w8.alloc (.cells #[.int .i64 1, .int .i64 (-1)] 3)) := (ExtX.refl _).alloc _
        obtain ⟨wl, hwl⟩ : ∃ wl, w8.alloc (.cells #[.int .i64 1, .int .i64 (-1)] 3) = wl := ⟨_, rfl⟩
        obtain ⟨g4, hg4⟩ : ∃ g4 : Option Addr, some ⟨w8.heap.size, 0, none⟩ = g4 := ⟨_, rfl⟩
        obtain ⟨LL, hLL⟩ : ∃ LL : List Int, [1, -1] = LL := ⟨_, rfl⟩
        have hLLl : Hid (LL.length = 2) := hid (by rw [<- hLL]; rfl)
        have hLLv : Hid (∀ q (hq : q < LL.length), (q = 0 /\ LL[q] = 1) \/ (q = 1 /\ LL[q] = -1)) := hid fun q hq => by
          subst hLL
          match q, hq with
          | 0, _ => exact .inl ⟨rfl, rfl⟩
          | 1, _ => exact .inr ⟨rfl, rfl⟩
        rw [hwl] at hEa hlit
        rw [hg4, hLL] at hlit
        have hhL := hlit.hd
        rw [hLLl.out] at hhL
        have hXl := hX8.ext hEa
        have l1 := f3.ext0 hEa
        have l2 := f5.ext0 hEa
        have l3 := f6.ext0 hEa
        have hOl8 := hO8.mono RV.mono (mk_ext hEa)
        have hEwl := hEw8.trans hEa
        have hstart := hid (⟨.inl ⟨by rw [hol'.out], rfl⟩, fun r hr => by simp at hr, fun r hr => by simp at hr, fun h => absurd h (Nat.lt_irrefl _), fun h => by omega⟩ : Sofar 1 O (ol + 1) [] /\ BM uB [] /\ (∀ r ∈ ([] : List (List Rat)), r.length = 1) /\ (0 < 0 -> Bd 1 O (ol + 1) (vec (sgL 1 [1]))) /\ (1 < 0 -> Bd 1 O (ol + 1) (vec (sgL (-1) [1]))))
        have hfinal := hid (fun (cnt : Nat) (us : List (List Rat)) (h1 : Sofar 1 O cnt us) (h2 : Bd 1 O cnt (vec (sgL 1 [1]))) (h3 : Bd 1 O cnt (vec (sgL (-1) [1]))) => (by
          obtain ⟨g1, g2⟩ := one_done hOs hOz hOne h1 h2 h3
          exact hback.out cnt us g1 g2 : IsDep 1 (vecs z) (cnt + (n - ol)) /\ Wit 1 (vecs z) (cnt + (n - ol)) (vecs us)))
        have hOz' := hid hOz
        have hOs' := hid hOs
        have hOB' := hid hOB
        have hlow : w.heap.size <= bc /\ w.heap.size <= bs := by omega
        have hn64 : n <= 64 := hn
        rw [hnl]
        clear f1 f3 f4 f5 f6 f7 hMO hns bx bx2 hE7 hE67 hEq7 hnu hnu5 hb e0 e1 e2 hOS hOB hOz hOs hT hOf hOcol hu6 hnlL hnl hE5 hE6 hpos hrn hrc hLL hE8 hX8 hO8 hEa hback ih'
        go_wp2_with (first | ((with_reducible show wpList _ _ _ (⟨_, .store 25 _ _, _, _, _, _⟩ :: _) _ _); refine st_cell tyRatss rfl rfl rfl rfl bx0 bx1 ?_) | ((with_reducible show wpList _ _ _ (⟨_, .store 3 _ _, _, _, _, _⟩ :: _) _ _); refine st_cell tyInt rfl rfl rfl rfl q1 q2 ?_))
        go_loopw [68] (fun cx wr => ∃ (q cnt : Nat) (dv : Value) (us : List (List Rat)), cx = .int .i64 q /\ q <= 2 /\ cnt <= ol + 1 /\ Bx wr bc #[.int .i64 (cnt : Int)] 3 /\ Bx wr bs #[dv] 25 /\ MV (mk Xo wr) dv us /\ Hid (Sofar 1 O cnt us /\ BM uB us /\ (∀ r ∈ us, r.length = 1) /\ (0 < q -> Bd 1 O cnt (vec (sgL 1 [1]))) /\ (1 < q -> Bd 1 O cnt (vec (sgL (-1) [1])))) /\ ExtX (twoB bc bs) wl wr) (fun cx _ => 2 - (intOf cx).toNat)
        case atStart => exact ⟨0, ol + 1, _, [], rfl, Nat.zero_le _, Nat.le_refl _, l1, l2, SlV.zero _ _ _, hstart, ExtX.refl _⟩
        case round =>
          obtain ⟨q, cnt, dv, us, rfl, hq, hcl, t1, t2, hdv, hf, hE⟩ := hrel
          clear l1 l2 hstart kb kd kb5 kb7 kb8 kd8 q1 q2 bx0 bx1
          have l4 := l3.ext hE htb
          have hXr2 : HX Xo wr := hXl.ext hE
          have hEwr : Ext w wr := hEwl.then_ hE fun i hi _ => by simp [twoB]; omega
          by_cases hlt : q < 2
          · have hqL : q < LL.length := by rw [hLLl.out]; exact hlt
            have k00 := (hlit.mono (IntIn.mono _) (mk_mono hE htwo)).int q hqL
            have hsv := hLLv.out q hqL
            obtain ⟨sg, hsg⟩ : ∃ sg, LL[q] = sg := ⟨_, rfl⟩
            rw [hsg] at k00 hsv
            have hsg1 : sg = 1 \/ sg = -1 := by omega
            have hsgi : -9223372036854775808 <= sg /\ sg <= 9223372036854775807 := by omega
            have hOr := hOl8.mono RV.mono (mk_mono hE htwo)
            obtain ⟨U, hU⟩ : ∃ U, sgL sg [1] = U := ⟨_, rfl⟩
            have hUe : Hid ([(sg : Rat)] = U) := hid (by rw [<- hU]; simp [sgL])
            have hUz : Hid (nz 1 (vec U)) := hid (by rw [<- hU]; exact sgL_nz hsg1 one_nz)
            have hUs : Hid (∀ v : List Rat, (0 < dot 1 (vec U) (vec v) ↔ (v.getD 0 0).num.sign = sg)) := hid fun v => by rw [<- hU]; exact sgn_pos hsg1 v
            have hnext : Hid (∀ (cnt' : Nat) (us' : List (List Rat)), cnt' <= cnt -> Sofar 1 O cnt' us' -> BM uB us' -> (∀ r ∈ us', r.length = 1) -> Bd 1 O cnt' (vec U) -> (Sofar 1 O cnt' us' /\ BM uB us' /\ (∀ r ∈ us', r.length = 1) /\ (0 < q + 1 -> Bd 1 O cnt' (vec (sgL 1 [1]))) /\ (1 < q + 1 -> Bd 1 O cnt' (vec (sgL (-1) [1]))))) := hid fun cnt' us' h1 h2 h3 h4 h5 => by
              obtain ⟨_, _, _, f4, f5⟩ := hf.out
              subst hU
              refine ⟨h2, h3, h4, fun _ => ?_, fun hq1 => ?_⟩
              · rcases hsv with ⟨rfl, rfl⟩ | ⟨rfl, rfl⟩
                · exact h5
                · exact (f4 (by decide)).le h1
              · rcases hsv with ⟨rfl, rfl⟩ | ⟨rfl, rfl⟩
                · omega
                · exact h5
            have kb := l4.cell 0 rfl
            obtain ⟨wo, hwo⟩ : ∃ wo, wo = wr := ⟨_, rfl⟩
            subst hwo
            clear hsv hU hsg
            go_wp2_with (with_reducible refine up_ix1 slInt (by omega) (by assumption) ?_)
            go_loopw [17, 74] (fun nn cx wx => ∃ (i P : Nat), cx = .int .i64 i /\ i <= ol /\ nn = .int .i64 (P : Int) /\ P <= i /\ Hid (P = posM 1 U (O.take i)) /\ Ext wo wx) (fun _ cx _ => ol - (intOf cx).toNat)
            case atStart => exact ⟨0, 0, rfl, Nat.zero_le _, rfl, Nat.zero_le _, hid rfl, ExtX.refl _⟩
            case round =>
              obtain ⟨i, P, rfl, hi, rfl, hPi, hPe, hEi⟩ := hrel
              clear k00 kb
              have hXi : HX Xo wr := hXr2.ext hEi
              by_cases hli : i < ol
              · have hiO : i < O.length := by rw [hol'.out]; exact hli
                obtain ⟨a1, c1, hX1, hcc1, hcl1, hq1⟩ := (hOr.mono RV.mono (mk_ext hEi)).row i hiO
                have k00 := hcc1.out noY wr (ExtX.refl _) rfl
                have hvl := hOs'.out.2 O[i] (List.getElem_mem _)
                have hps := hid (posM_succ 1 U hiO)
                have hus := hid (hUs.out O[i])
                have h0v : 0 < O[i].length := by rw [hvl]; decide
                have hge : Hid (O[i].getD 0 0 = O[i][0]) := hid (by simp [List.getD_eq_getElem?_getD, h0v])
                rw [hvl] at k00 hcl1
                have hh1 : Hd a1 1 := by have := hq1.hd; rw [hvl] at this; exact this
                rw [hge.out] at hus
                clear hcc1 hvl
                by_cases hsgn : O[i][0].num.sign = sg
                · have hP2 : Hid (P + 1 = posM 1 U (O.take (i + 1))) := hid (by rw [hps.out, if_pos (hus.out.2 hsgn), <- hPe.out])
                  go_wp2_with (first | (with_reducible refine up_ix1 slRats (by omega) (by assumption) ?_) | (with_reducible refine up_ixn slRat (by omega) (by assumption) ?_) | ((with_reducible show wpList _ _ _ (⟨_, .load 34 _, _, _, _, _⟩ :: _) _ _); refine st_loadElem stRat 0 hq1 h0v rfl (by simp) QV.agg ?_; intro u5 hu5; obtain ⟨s5, a5, n5, c5, d5, m5, e5, rfl⟩ := hu5.shape))
                  refine (qsign Xo _ _ _ hXi hu5).mono ?_
                  rintro e w7 ⟨hE7, rfl⟩
                  rw [hsgn]
                  have hE9 := hEi.trans hE7
                  clear k00
                  go_wp2_with fail
                  go_roundw
                  case rel => exact ⟨i + 1, P + 1, by go_num, by omega, by go_num, by omega, hP2, hE9⟩
                  case measure => simp [intOf]; omega
                · have hP2 : Hid (P = posM 1 U (O.take (i + 1))) := hid (by rw [hps.out, if_neg (fun h => hsgn (hus.out.1 h)), <- hPe.out]; rfl)
                  go_wp2_with (first | (with_reducible refine up_ix1 slRats (by omega) (by assumption) ?_) | (with_reducible refine up_ixn slRat (by omega) (by assumption) ?_) | ((with_reducible show wpList _ _ _ (⟨_, .load 34 _, _, _, _, _⟩ :: _) _ _); refine st_loadElem stRat 0 hq1 h0v rfl (by simp) QV.agg ?_; intro u5 hu5; obtain ⟨s5, a5, n5, c5, d5, m5, e5, rfl⟩ := hu5.shape))
                  refine (qsign Xo _ _ _ hXi hu5).mono ?_
                  rintro e w7 ⟨hE7, rfl⟩
                  have hbq : ((O[i][0]).num.sign == sg) = false := beqF hsgn
                  have hE9 := hEi.trans hE7
                  clear k00
                  go_wp2_with fail
                  go_roundw
                  case rel => exact ⟨i + 1, P, by go_num, by omega, rfl, by omega, hP2, hE9⟩
                  case measure => simp [intOf]; omega
              · have hio : i = ol := by omega
                have hPf : P = posM 1 U O := by rw [hPe.out, List.take_of_length_le (by rw [hol'.out, hio]; exact Nat.le_refl _)]
                have hPf' := hid hPf
                have t3 := t1.ext0 hEi
                have t4 := t2.ext0 hEi
                have k3 := t3.cell 0 rfl
                have hd3 := mkx MV.mono hdv hEi
                obtain ⟨f1, f2, f3, _⟩ := hf.out
                have hEz : ExtX (twoB bc bs) wl wr := hE.then_ hEi (fun _ _ _ => rfl)
                by_cases hPc : P < cnt
                rotate_left 1
                · have hN2 := hid (hnext.out cnt us (Nat.le_refl _) f1 f2 f3 (bd_triv (by rw [<- hPf]; omega)))
                  clear hPf f1 f2 f3
                  go_wp2_with fail
                  go_roundw
                  case rel => exact ⟨q + 1, cnt, dv, us, by go_num, by omega, hcl, t3, t4, hd3, hN2, hEz⟩
                  case measure => simp [intOf]; omega
                · have hwit := (st_one hUz.out (one_on hOz'.out hUz.out)).1
                  rw [<- hPf] at hwit
                  have hUBr : BR 1 U := fun q hq => by
                    rw [<- hUe.out] at hq; rw [List.mem_singleton.1 hq]
                    rcases hsg1 with rfl | rfl <;> decide +kernel
                  have hN2 := hid (hnext.out P [U] (by omega) (.inr hwit) (fun r hr => by rw [List.mem_singleton.1 hr]; exact fun q hq => Nat.le_trans (hUBr q hq) (by decide)) (fun r hr => by rw [List.mem_singleton.1 hr, <- hUe.out]; rfl) (bd_triv (by rw [<- hPf]; exact Nat.le_refl _)))
                  clear hPf f1 f2 f3 hwit
                  go_wp2_with fail
                  refine (qfrom Xo wr sg hXi hsgi.1 hsgi.2).mono ?_
                  rintro e w5 ⟨hE5, u5, rfl, hu5⟩
                  obtain ⟨s5, a5, n5, c5, d5, m5, e5, rfl⟩ := hu5.shape
                  have hX5 : HX Xo w5 := hXi.ext hE5
                  have hL1 := (lit_rat1 Xo w5 s5 a5 n5 c5 d5 m5 e5 (sg : Rat) 34 hX5 hu5).sl QC.elem
                  have hEA : Ext w5 (w5.alloc (.cells #[.bool s5, .slice a5 n5 c5, .slice d5 m5 e5] 34)) := (ExtX.refl _).alloc _
                  obtain ⟨wA, hwA⟩ : ∃ wA, w5.alloc (.cells #[.bool s5, .slice a5 n5 c5, .slice d5 m5 e5] 34) = wA := ⟨_, rfl⟩
                  obtain ⟨gA, hgA⟩ : ∃ gA : Option Addr, some ⟨w5.heap.size, 0, none⟩ = gA := ⟨_, rfl⟩
                  rw [hwA, hgA, hUe.out] at hL1
                  rw [hwA] at hEA
                  have hXA : HX Xo wA := hX5.ext hEA
                  have hUl1 : U.length = 1 := by rw [<- hUe.out]; rfl
                  have hL2 := lit_row1 Xo wA gA 1 1 U 27 hXA ⟨gA, 1, by rw [hUl1], by rw [hUl1]; exact Nat.le_refl _, hL1.qv fun q hq => Nat.le_trans (hUBr q hq) (by decide)⟩
                  have hEB : Ext wA (wA.alloc (.cells #[.slice gA 1 1] 27)) := (ExtX.refl _).alloc _
                  obtain ⟨wB, hwB⟩ : ∃ wB, wA.alloc (.cells #[.slice gA 1 1] 27) = wB := ⟨_, rfl⟩
                  obtain ⟨gB, hgB⟩ : ∃ gB : Option Addr, some ⟨wA.heap.size, 0, none⟩ = gB := ⟨_, rfl⟩
                  rw [hwB, hgB] at hL2
                  rw [hwB] at hEB
                  have hErB : Ext wr wB := hE5.trans (hEA.trans hEB)
                  have y1 := t3.ext0 hErB
                  have y2 := t4.ext0 hErB
                  have z1 := y1.cell 0 rfl
                  have z2 := y1.frozen 0
                  obtain ⟨y3, hE6⟩ := Bx.store y1 (.int .i64 (P : Int))
                  have y4 := y2.ext hE6 (ob_other (by omega))
                  have z3 := y4.cell 0 rfl
                  have z4 := y4.frozen 0
                  obtain ⟨y5, hE7⟩ := Bx.store y4 (.slice gB 1 1)
                  have y6 := y3.ext hE7 (ob_other (by omega))
                  have hEst : ExtX (twoB bc bs) wB _ := (hE6.weaken (Z := twoB bc bs) fun k _ hk => ob_other fun e => by subst e; simp [twoB] at hk).trans (hE7.weaken fun k _ hk => ob_other fun e => by subst e; simp [twoB] at hk)
                  have hm8 : MV (mk Xo _) (.slice gB 1 1) [U] := MV.mono _ _ _ _ (mk_mono hEst htwo) ⟨gB, 1, rfl, Nat.le_refl _, hL2.sl RV.elem⟩
                  have hEf := (hEz.then_ hErB (fun _ _ _ => rfl)).trans hEst
                  clear hL1 hL2 hu5 y1 y2 y3 y4 hE6 hE7 t3 t4 k3
                  go_wp2_with (first | ((with_reducible show wpList _ _ _ (⟨_, .store 3 _ _, _, _, _, _⟩ :: _) _ _); refine st_cell tyInt rfl rfl rfl rfl z1 z2 ?_) | ((with_reducible show wpList _ _ _ (⟨_, .store 25 _ _, _, _, _, _⟩ :: _) _ _); refine st_cell tyRatss rfl rfl rfl rfl z3 z4 ?_))
                  go_roundw
                  case rel => exact ⟨q + 1, P, .slice gB 1 1, [U], by go_num, by omega, by omega, y6, y5, hm8, hN2, hEf⟩
                  case measure => simp [intOf]; omega
          · have hq2 : q = 2 := by omega
            subst hq2
            obtain ⟨f1, f2, f3, f4, f5⟩ := hf.out
            obtain ⟨hfd, hfw⟩ := hfinal.out cnt us f1 (f4 (by decide)) (f5 (by decide))
            have hfd' := hid hfd
            have hfw' := hid hfw
            have hf2 := hid f2
            have hf3 := hid f3
            obtain ⟨da, dca, hdve, _, _⟩ := id hdv
            subst hdve
            have hEd : Ext wr wr.drew := (ExtX.refl wr).drew
            have m1 := (t1.ext0 hEd).cell 0 rfl
            have m2 := (t1.ext0 hEd).frozen 0
            have m3 := (t2.ext0 hEd).cell 0 rfl
            have m4 := (t2.ext0 hEd).frozen 0
            have n1 := t1.cell 0 rfl
            have n2 := t1.frozen 0
            have n3 := t2.cell 0 rfl
            have n4 := t2.frozen 0
            have hwr2 : IntKind.i64.wrap ((cnt : Int) + ((n : Int) - (ol : Int))) = ((cnt + (n - ol) : Nat) : Int) := by rw [IntWalk.i64_in _ (by omega)]; omega
            obtain ⟨y3, hE6⟩ := Bx.store t1 (.int .i64 ((cnt + (n - ol) : Nat) : Int))
            have y4 := t2.ext hE6 (ob_other (by omega))
            have p1 := y4.cell 0 rfl
            have p2 := y4.frozen 0
            obtain ⟨y5, hE7⟩ := Bx.store y4 (.slice da us.length dca)
            have y6 := y3.ext hE7 (ob_other (by omega))
            have hEst : ExtX (twoB bc bs) wr _ := (hE6.weaken (Z := twoB bc bs) fun k _ hk => ob_other fun e => by subst e; simp [twoB] at hk).trans (hE7.weaken fun k _ hk => ob_other fun e => by subst e; simp [twoB] at hk)
            have hm8 := MV.mono _ _ _ _ (mk_mono hEst htwo) hdv
            rw [<- hXo] at hm8
            have hm9 := MV.mono _ _ _ _ le_unbox hm8
            have hEf : Ext w _ := (hEwr.then_ hEst fun i hi _ => by simp [twoB]; omega).drew
            clear hfd hfw f1 f2 f3 f4 f5 hf
            go_wp2_with fail
            go_region
            all_goals
              have y7 := y6.ext0 ((ExtX.refl (Y := noY) _).drew)
              have y8 := y5.ext0 ((ExtX.refl (Y := noY) _).drew)
              clear m1 m2 m3 m4 n1 n2 n3 n4 p1 p2
              go_wp2_with fail
              exact bodyPost_ret (results_cells2 rfl rfl rfl aggInt aggRatss (y7.cell 0 rfl) (y8.cell 0 rfl)) rfl ⟨hEf, cnt + (n - ol), _, us, rfl, hm9, hf2.out, hf3.out, hfd'.out, hfw'.out⟩
      have hc1' : ((c : Int) == 1) = false := beqF (by omega)
      have hlay : Lay w.heap.size bo bu bc bd bs w8.heap.size := by
        rw [hbd]
        constructor <;> omega
      have hle8 : Le (mk Xo w7) (mk (hidS X bc bs w8.heap.size) w8) := mk_over hE8 (fun k _ hk => by
        have : bc = k := by simpa [ob] using hk
        exact hin4 k (by omega) (by omega)) fun k hk hz => by
        simp only [hidS, twoB, ownB, Bool.or_eq_true, Bool.and_eq_true, beq_iff_eq, decide_eq_true_eq] at hz
        rcases hz with (h | h | h) | h
        · rw [<- hXo]; exact hidB_X h
        · exact hin4 k (by omega) (by omega)
        · exact hin4 k (by omega) (by omega)
        · omega
      have hst8 : BSt X w bo bu bc bd bs w8.heap.size c oo ol oc (.slice no nl nc) O (nullM O c) (ol + 1) (.slice none 0 0) [] w8 :=
        ⟨hEw8, f6, f7, f3, f4, f5, MV.mono _ _ _ _ hle8 (mkx MV.mono hMO hEq7), MV.mono _ _ _ _ hle8 ⟨no, nc, by rw [hnl], by rw [hnl]; exact hnc, hns.mono RV.mono (mk_ext hE67)⟩, SlV.zero _ _ _⟩
      have hinv0 : BInv X w bo bu bc bd bs w8.heap.size c oo ol oc (.slice no nl nc) O (nullM O c) [] w8 := ⟨ol + 1, _, [], hst8, .inl ⟨by rw [hol'.out], rfl⟩, fun r hr => by simp at hr, fun r hr => by simp at hr, fun s hs => by simp at hs⟩
      have hcb := subsets_any 92 ol r #[.pointer (some ⟨bo, 0, none⟩), .pointer (some ⟨bu, 0, none⟩), .pointer (some ⟨bc, 0, none⟩), .pointer (some ⟨bd, 0, none⟩), .pointer (some ⟨bs, 0, none⟩)] (BInv X w bo bu bc bd bs w8.heap.size c oo ol oc (.slice no nl nc) O (nullM O c)) w8 (fun _ _ => rfl) (by omega) (by omega)
        (fun done W W' hi hE => hi.own hlay hE)
        (fun done s W hi hss hsl hB9 => by
          obtain ⟨rest, hrest⟩ := hss
          have hmem : s ∈ combs ol r 0 := by rw [<- hrest]; simp
          obtain ⟨m1, m2, _⟩ := combs_mem ol r 0 s hmem
          subst m1
          exact try_any X w bo bu bc bd bs w8.heap.size ol c B oo oc _ O (nullM O c) done s W (fun m hm => ih'.out m (by omega)) hOs (by omega) (by omega) hc3 hOB hB1 hB hOz hOne rfl hr hlay hX hi (fun x hx => by have := m2 x hx; rw [hol'.out]; omega) hsl hB9) hinv0
      have hcb' := hid hcb
      have hfinal := hid (fun (cnt : Nat) (us : List (List Rat)) (h1 : Sofar c O cnt us) (h2 : ∀ s ∈ combs ol r 0, Tried c (vecs O) (vecs (nullM O c)) cnt (s.map Int.toNat)) => (by
        obtain ⟨g1, g2⟩ := st_done hOs hOz hOne hr h1 (fun I a b d => all_tried ol h2 I a b (by rw [<- hol'.out]; exact d))
        exact hback.out cnt us g1 g2 : IsDep c (vecs z) (cnt + (n - ol)) /\ Wit c (vecs z) (cnt + (n - ol)) (vecs us)))
      have hlay' := hid hlay
      have hr64 : r <= 64 := by omega
      have hcn := hid (fun cnt us (h : Sofar c O cnt us) => (by
        have := h.le
        rw [hol'.out] at this; exact this : cnt <= ol + 1))
      have hbu' := hid hbu
      rw [hnl]
      clear hst8 hinv0 hcb f1 f3 f4 f5 f6 f7 hle8 hMO hns bx bx2 hE7 hE8 hE67 hEq7 hnu hnu5 hb e0 e1 e2 hOS hOB hOz hOs hT hOf hOcol hu6 hnlL hnl hE5 hE6 hpos hrn hrc
      rcases Nat.eq_zero_or_pos r with rfl | hrp
      rotate_left 1
      have hr1 : ((r : Int) + 1 == 1) = false := beqF (by omega)
      all_goals
        go_wp2_with (first | ((with_reducible show wpList _ _ _ (⟨_, .store 25 _ _, _, _, _, _⟩ :: _) _ _); refine st_cell tyRatss rfl rfl rfl rfl bx0 bx1 ?_) | ((with_reducible show wpList _ _ _ (⟨_, .store 3 _ _, _, _, _, _⟩ :: _) _ _); refine st_cell tyInt rfl rfl rfl rfl q1 q2 ?_))
        refine hcb'.out.mono ?_
        rintro e w9 ⟨rfl, cnt, dv, us, hst, hSo, hUB, hUl, hTr⟩
        obtain ⟨hfd, hfw⟩ := hfinal.out cnt us hSo hTr
        have hfd' := hid hfd
        have hfw' := hid hfw
        have hcl := hcn.out cnt us hSo
        obtain ⟨da, dca, hdv, _, _⟩ := id hst.r3
        subst hdv
        have hstd := hst.step ((ExtX.refl (Y := noY) w9).drew)
        have m1 := hstd.b3.cell 0 rfl
        have m2 := hstd.b3.frozen 0
        have m3 := hstd.b5.cell 0 rfl
        have m4 := hstd.b5.frozen 0
        obtain ⟨p1, p2, hst11, hE11⟩ := hst.put hlay'.out (cnt + (n - ol)) _ us hst.r3
        have n1 := hst.b3.cell 0 rfl
        have n2 := hst.b3.frozen 0
        have n3 := hst.b5.cell 0 rfl
        have n4 := hst.b5.frozen 0
        have hwr2 : IntKind.i64.wrap ((cnt : Int) + ((n : Int) - (ol : Int))) = ((cnt + (n - ol) : Nat) : Int) := by rw [IntWalk.i64_in _ (by omega)]; omega
        clear hfd hfw hst hstd hTr hSo q1 q2 bx0 bx1 kb8 kd8 kb7 kb5 kb kd hw8 hw7
        go_wp2_with fail
        go_region
        all_goals
          have hstF := hst11.step ((ExtX.refl (Y := noY) _).drew)
          have hmF := MV.mono _ _ _ _ (mk_sub (X := X) fun k _ hk => by simp [hidS, hk]) hstF.r3
          clear m1 m2 m3 m4 n1 n2 n3 n4 p1 p2
          go_wp2_with fail
          exact bodyPost_ret (results_cells2 rfl rfl rfl aggInt aggRatss (hstF.b3.cell 0 rfl) (hstF.b5.cell 0 rfl)) rfl ⟨hstF.ext, cnt + (n - ol), _, us, rfl, hmF, hUB, hUl, hfd'.out, hfw'.out⟩
end Go.Proofs.YthipmbmjodhiiaaGreat
namespace Go.Lin
open Go.Lim Go.Rep
open Classical in
noncomputable def depN (c : Nat) (z : List Vec) : Nat := if h : ∃ k, IsDep c z k then h.choose else 0
theorem depN_eq {c k : Nat} {z : List Vec} (h : IsDep c z k) : depN c z = k := by
  unfold depN
  rw [dif_pos ⟨k, h⟩]
  exact (Exists.choose_spec (⟨k, h⟩ : ∃ k, IsDep c z k)).uniq h
def depOk (p : Mat) (y : List Rat) : Bool := ptsB p && decide (y.length = colsL p)
noncomputable def depV (p : Mat) (y : List Rat) : Nat := if depOk p y then depN (colsL p) (vecs (fromM (colsL p) p y)) else 0
theorem depV_no {p : Mat} {y : List Rat} (h : depOk p y = false) : depV p y = 0 := by unfold depV; rw [h]; rfl
theorem depV_yes {p : Mat} {y : List Rat} {k : Nat} (h : depOk p y = true) (hk : IsDep (colsL p) (vecs (fromM (colsL p) p y)) k) : depV p y = k := by unfold depV; rw [h, if_pos rfl]; exact depN_eq hk
theorem depV_le (p : Mat) (y : List Rat) : depV p y <= p.length := by
  cases h : depOk p y
  · rw [depV_no h]; exact Nat.zero_le _
  · have hp : ptsB p = true := by cases hp : ptsB p; · unfold depOk at h; rw [hp] at h; simp at h
                                  · rfl
    obtain ⟨_, _, h1, _⟩ := ptsB_true.1 hp
    obtain ⟨k, hk⟩ := dep_ex (c := colsL p) (by omega) (vecs (fromM (colsL p) p y))
    rw [depV_yes h hk]
    have := hk.le
    have e : (vecs (fromM (colsL p) p y)).length = p.length := by simp [vecs, fromM]
    omega
end Go.Lin
namespace Go.Proofs.YthipmbmjodhiiaaGreat
open Go.RowKit Go.Rep Go.Lim Go.Lin
theorem depOk_parts {p : Mat} {y : List Rat} (h : depOk p y = true) : ptsB p = true /\ y.length = colsL p := by
  unfold depOk at h
  rw [Bool.and_eq_true, decide_eq_true_eq] at h
  exact h
theorem from_facts {p : Mat} {y : List Rat} {B : Nat} (h : depOk p y = true) (hpB : BM B p) (hyB : BR B y) (hB : 1 <= B) : (∀ r ∈ p, r.length = colsL p) /\ p.length <= 64 /\ 1 <= p.length /\ 1 <= colsL p /\ colsL p <= 3 /\ Shp p.length (colsL p) (fromM (colsL p) p y) /\ BM (2 * B + 1) (fromM (colsL p) p y) := by
  obtain ⟨h1, h2⟩ := depOk_parts h
  obtain ⟨g1, g2, g3, g4, _⟩ := ptsB_true.1 h1
  exact ⟨ptsB_row h1, g2, g1, g3, g4, fromM_shp _ _ _, fromM_bm hpB hyB hB⟩
set_option maxRecDepth 100000 in
theorem hdepth_any (X : Nat -> Bool) (w : World) (u v : Value) (p : Mat) (y : List Rat) (B : Nat) (hX : HX X w) (hu : MV (mk X w) u p) (hv : RV (mk X w) v y) (hp : p.length <= 1000) (hpB : BM B p) (hyB : BR B y) (hB : 1 <= B) (hBB : B <= 3000) :
    Calls Tryz.prog 23 #[u, v] w (NEOut w (depV p y) (okE (depOk p y))) := by
  have hfit := fun xo xl xc => hfits_any X w u p xo xl xc hu (by omega)
  have hv0 := hv
  obtain ⟨va, vca, rfl, hvca, hva⟩ := hv
  have hfi : Calls Tryz.prog 57 #[u, .slice va y.length vca] w (fun e w' => w' = w /\ e = .returned (.bool (depOk p y))) := hfit va y.length vca
  clear hfit
  cases hok : depOk p y
  · rw [hok] at hfi
    have hv1 := hid (depV_no hok)
    clear hok
    go_enter Tryz.func23, Tryz.ntmps23
    go_wp2_with fail
    refine hfi.mono ?_
    rintro e w1 ⟨rfl, rfl⟩
    go_wp2_with fail
    go_ret2
    exact ⟨ExtX.refl _, by rw [hv1.out]; rfl⟩
  rw [hok] at hfi
  obtain ⟨f1, f2, f3, f4, f5, f6, f7⟩ := from_facts hok hpB hyB hB
  obtain ⟨_, hyc⟩ := depOk_parts hok
  have hval := hid (fun k h => depV_yes (k := k) hok h)
  have hcen := hcentred X w u (.slice va y.length vca) p y (colsL p) hX hu hv0 f1 hyc (by omega) hp
  obtain ⟨c, hc⟩ : ∃ c, colsL p = c := ⟨_, rfl⟩
  rw [hc] at f1 f4 f5 f6 f7 hval hcen hyc
  obtain ⟨M, hM⟩ : ∃ M, fromM c p y = M := ⟨_, rfl⟩
  rw [hM] at f6 f7 hval hcen
  rw [hyc] at hfi hcen |-
  have hbst := hid (fun w' um (hX' : HX X w') (hm : MV (mk X w') um M) => best_any p.length X w' um M c (2 * B + 1) hX' hm f6 f2 f4 f5 f7 (by omega) (by omega))
  have f7' := hid f7
  clear hok f1 f6 f7 hM hc hv0 hva hpB hyB hu hyc
  go_enter Tryz.func23, Tryz.ntmps23
  go_wp2_with fail
  refine hfi.mono ?_
  rintro e w1 ⟨rfl, rfl⟩
  go_wp2_with fail
  refine hcen.mono ?_
  rintro e w2 ⟨hE2, um, rfl, hm⟩
  have hb := hbst.out w2 um (hX.ext hE2) (hm.mv fun r hr q hq => Nat.le_trans (f7'.out r hr q hq) (by omega))
  go_wp2_with fail
  refine hb.mono ?_
  rintro e w3 ⟨hE3, k, dv, us, rfl, _, _, _, hk, _⟩
  have hkv := hid (hval.out k hk)
  clear hb hk
  go_wp2_with fail
  go_ret2
  exact ⟨hE2.trans hE3, by rw [hkv.out]; rfl⟩
end Go.Proofs.YthipmbmjodhiiaaGreat
namespace Go.Proofs.YthipmbmjodhiiaaGreat
open Go.RowKit Go.Rep Go.Lim
def TQOut (X : Nat -> Bool) (tb : Nat) (R : Mem -> Value -> Rat -> Prop) (k : Nat) (w : World) (e : Ending) (w' : World) : Prop := ExtX (tbm tb) w w' /\ TapeR X tb w' /\ ∃ u q, e = .returned u /\ R (mk X w') u q /\ hq q <= k
theorem TapeR.box {X : Nat -> Bool} {tb nb : Nat} {w W : World} (h : TapeR X tb w) (hE : Ext w W) : TapeR (hidB X w.heap.size nb) tb W := by
  have hlt := h.lt
  obtain ⟨hX, lo, l, cap, at_, h1, h2, h3, h4⟩ := h
  exact ⟨hidB_X hX, lo, l, cap, at_, by rw [hE.block tb hlt rfl]; exact h1, h2, h3, h4.mono (IntIn.mono _) (le_boxes hE)⟩
theorem TapeR.unbox {X : Nat -> Bool} {tb b nb : Nat} {w : World} (h : TapeR (hidB X b nb) tb w) (hX : X tb = true) : TapeR X tb w := by
  obtain ⟨_, lo, l, cap, at_, h1, h2, h3, h4⟩ := h
  exact ⟨hX, lo, l, cap, at_, h1, h2, h3, h4.mono (IntIn.mono _) le_unbox⟩
theorem TapeR.store {X : Nat -> Bool} {tb b nb : Nat} {w w' : World} (h : TapeR (hidB X b nb) tb w) (hE : ExtX (ob (some ⟨b, 0, Option.none⟩)) w w') (hb : 0 < nb) (ht : tb ≠ b) : TapeR (hidB X b nb) tb w' :=
  h.extY hE (fun k hk => by
    have : k = b := by
      have := hk
      simp [ob] at this
      omega
    subst this; simp [hidB]; omega) (ob_other ht)
theorem _root_.Go.Rep.ExtX.tbox {tb b : Nat} {w w4 w7 : World} (h : ExtX (tbm tb) w w4) (hE : ExtX (ob (some ⟨b, 0, none⟩)) w4 w7) (hb : w.heap.size <= b) : ExtX (tbm tb) w w7 := h.then_ hE (fun i hi _ => ob_other (by omega))
theorem lg_le1 {n : Nat} (h : n < 4294967296) : lg n <= 1 := by
  by_cases h0 : n = 0
  · subst h0; simp [lg_zero]
  · rw [lg_one_iff (by omega) h]; exact Nat.le_refl _
theorem lgI {a : Int} (h1 : -100000 <= a) (h2 : a <= 100000) : lg a.natAbs <= 1 := lg_le1 (by omega)
theorem hq_frac {a k : Int} (h1 : -100000 <= a) (h2 : a <= 100000) (h3 : -100000 <= k) (h4 : k <= 100000) : hq ((a : Rat) / (k : Rat)) <= 2 := by
  have := hq_div (a : Rat) (k : Rat)
  have := hq_int a 1 (lgI h1 h2) (by omega)
  have := hq_int k 1 (lgI h3 h4) (by omega)
  omega
set_option maxRecDepth 100000 in
theorem trat_any (X : Nat -> Bool) (tb : Nat) (w : World) (ht : TapeR X tb w) (hX : HX X w) : Calls Tryz.prog 49 #[.pointer (some ⟨tb, 0, none⟩)] w (TQOut X tb QC 2 w) := by
  have htb := ht.lt
  have htX := ht.1
  obtain ⟨W, hW, hE, b0, hz⟩ := boxes1 w #[.bool false, .slice none 0 0, .slice none 0 0] 34
  have hXW : HX (hidB X w.heap.size 1) W := hX.boxes hz
  have htW : TapeR (hidB X w.heap.size 1) tb W := ht.box hE
  obtain ⟨b, hb⟩ : ∃ b, w.heap.size = b := ⟨_, rfl⟩
  have hbw : w.heap.size <= b := by omega
  have htb' : tb ≠ b := by omega
  have hbt : b ≠ tb := by omega
  rw [hb] at b0 hz hXW htW
  have hEb : ExtX (tbm tb) w W := ExtX.of hE
  clear hE
  go_enter Tryz.func49, Tryz.ntmps49
  go_wp2_with fail
  refine (next_any (hidB X b 1) tb 8 _ htW (by omega)).mono ?_
  rintro e w1 ⟨hE1, ht1, m, rfl, hm⟩
  have b1 := b0.ext hE1 (tbm_ne hbt)
  have hX1 := hXW.ext hE1
  have hF1 := hEb.trans hE1
  clear b0 hXW htW hEb hE1
  by_cases h6 : m = 6
  · subst h6
    go_wp2_with fail
    refine (next_any (hidB X b 1) tb 13 _ ht1 (by omega)).mono ?_
    rintro e w2 ⟨hE2, ht2, m2, rfl, hm2⟩
    have hm2' : m2 < 13 := by omega
    have b2 := b1.ext hE2 (tbm_ne hbt)
    have hX2 := hX1.ext hE2
    have hF2 := hF1.trans hE2
    go_wp2_with fail
    refine (next_any (hidB X b 1) tb 6 _ ht2 (by omega)).mono ?_
    rintro e w3 ⟨hE3, ht3, m3, rfl, hm3⟩
    have hm3' : m3 < 6 := by omega
    have b3 := b2.ext hE3 (tbm_ne hbt)
    have hX3 := hX2.ext hE3
    have hF3 := hF2.trans hE3
    go_wp2_with fail
    refine (rqfraction (hidB X b 1) w3 _ _ hX3 (by omega) (by omega) (by omega) (by omega) (by omega) (Nat.le_trans (lgI (by omega) (by omega)) (by omega)) (Nat.le_trans (lgI (by omega) (by omega)) (by omega))).mono ?_
    rintro e w4 ⟨hE4, u4, rfl, hu4⟩
    obtain ⟨s6, a6, n6, c6, d6, k6, e6, rfl⟩ := hu4.shape
    have b4 := b3.ext0 hE4
    have ht4 := ht3.ext hE4
    have hF4 := hF3.trans (ExtX.of hE4)
    go_wp2_with ((with_reducible show wpList _ _ _ (⟨_, .store _ _ _, _, _, _, _⟩ :: _) _ _); refine st_storeBox stRat rfl rfl b4 rfl rfl (one3 _ _ _ _ _ _ _) ?_; intro w7 r1 r2)
    have h7 := QC.mono _ _ _ _ le_unbox (QC.mono _ _ _ _ (le_store r2 (by omega) (by omega)) hu4)
    exact bodyPost_ret (results_box rfl rfl stRat r1 rfl) rfl ⟨hF4.tbox r2 hbw, (ht4.store r2 (by omega) htb').unbox htX, _, _, rfl, h7, hq_frac (by omega) (by omega) (by omega) (by omega)⟩
  · by_cases h7 : m = 7
    · subst h7
      go_wp2_with fail
      refine (next_any (hidB X b 1) tb 2001 _ ht1 (by omega)).mono ?_
      rintro e w2 ⟨hE2, ht2, m2, rfl, hm2⟩
      have hm2' : m2 < 2001 := by omega
      have b2 := b1.ext hE2 (tbm_ne hbt)
      have hX2 := hX1.ext hE2
      have hF2 := hF1.trans hE2
      go_wp2_with fail
      refine (lit_pick (hidB X b 1) tb [1, 1, 7] _ _ _ w2 1 7 ht2 hX2 rfl rfl (by simp) (by simp) (hid (by simp))).mono ?_
      rintro e w3 ⟨hE3, ht3, m3, rfl, hm3, hm3'⟩
      have b3 := b2.ext hE3 (tbm_ne hbt)
      have hX3 := hX2.ext hE3
      have hF3 := hF2.trans hE3
      go_wp2_with fail
      refine (rqfraction (hidB X b 1) w3 _ _ hX3 (by omega) (by omega) (by omega) (by omega) (by omega) (Nat.le_trans (lgI (by omega) (by omega)) (by omega)) (Nat.le_trans (lgI (by omega) (by omega)) (by omega))).mono ?_
      rintro e w4 ⟨hE4, u4, rfl, hu4⟩
      obtain ⟨s6, a6, n6, c6, d6, k6, e6, rfl⟩ := hu4.shape
      have b4 := b3.ext0 hE4
      have ht4 := ht3.ext hE4
      have hF4 := hF3.trans (ExtX.of hE4)
      go_wp2_with ((with_reducible show wpList _ _ _ (⟨_, .store _ _ _, _, _, _, _⟩ :: _) _ _); refine st_storeBox stRat rfl rfl b4 rfl rfl (one3 _ _ _ _ _ _ _) ?_; intro w7 r1 r2)
      have h7 := QC.mono _ _ _ _ le_unbox (QC.mono _ _ _ _ (le_store r2 (by omega) (by omega)) hu4)
      exact bodyPost_ret (results_box rfl rfl stRat r1 rfl) rfl ⟨hF4.tbox r2 hbw, (ht4.store r2 (by omega) htb').unbox htX, _, _, rfl, h7, hq_frac (by omega) (by omega) (by omega) (by omega)⟩
    · have t6 : ((m : Int) == 6) = false := beqF (by omega)
      have t7 : ((m : Int) == 7) = false := beqF (by omega)
      go_wp2_with fail
      refine (next_any (hidB X b 1) tb 9 _ ht1 (by omega)).mono ?_
      rintro e w2 ⟨hE2, ht2, m2, rfl, hm2⟩
      have hm2' : m2 < 9 := by omega
      have b2 := b1.ext hE2 (tbm_ne hbt)
      have hX2 := hX1.ext hE2
      have hF2 := hF1.trans hE2
      go_wp2_with fail
      refine (rqfrom (hidB X b 1) w2 _ hX2 (by omega) (by omega)).mono ?_
      rintro e w4 ⟨hE4, u4, rfl, hu4⟩
      obtain ⟨s6, a6, n6, c6, d6, k6, e6, rfl⟩ := hu4.shape
      have b4 := b2.ext0 hE4
      have ht4 := ht2.ext hE4
      have hF4 := hF2.trans (ExtX.of hE4)
      go_wp2_with ((with_reducible show wpList _ _ _ (⟨_, .store _ _ _, _, _, _, _⟩ :: _) _ _); refine st_storeBox stRat rfl rfl b4 rfl rfl (one3 _ _ _ _ _ _ _) ?_; intro w7 r1 r2)
      have h7 := QC.mono _ _ _ _ le_unbox (QC.mono _ _ _ _ (le_store r2 (by omega) (by omega)) hu4)
      exact bodyPost_ret (results_box rfl rfl stRat r1 rfl) rfl ⟨hF4.tbox r2 hbw, (ht4.store r2 (by omega) htb').unbox htX, _, _, rfl, h7, Nat.le_trans (hq_int _ 1 (lgI (by omega) (by omega)) (by omega)) (by omega)⟩
end Go.Proofs.YthipmbmjodhiiaaGreat
namespace Go.Proofs.YthipmbmjodhiiaaGreat
open Go.RowKit Go.Rep Go.Lim
def TRowOut (X : Nat -> Bool) (tb : Nat) (R : Mem -> Value -> Rat -> Prop) (k n : Nat) (w : World) (e : Ending) (w' : World) : Prop := ExtX (tbm tb) w w' /\ ∃ (ao : Option Addr) (l : List Rat) (cap : Nat), e = .returned (.slice ao n cap) /\ l.length = n /\ n <= cap /\ BR k l /\ TapeR (un X ao) tb w' /\ OL R 3 X w.heap.size 34 w' ao cap l
theorem trow_any (X : Nat -> Bool) (tb n : Nat) (w : World) (ht : TapeR X tb w) (hX : HX X w) (hn : n <= 1000) :
    Calls Tryz.prog 17 #[.pointer (some ⟨tb, 0, none⟩), .int .i64 (n : Int)] w (TRowOut X tb QC 2 n w) := by
  have hsub := tbm_sub ht.1
  go_enter Tryz.func17, Tryz.ntmps17
  go_wp2_with fail
  go_loopw [5, 6] (fun s c wr => ∃ (i : Nat) (oo : Option Addr) (co : Nat) (l : List Rat), c = .int .i64 i /\ s = .slice oo i co /\ l.length = i /\ i <= n /\ BR 2 l /\ OL QC 3 X w.heap.size 34 wr oo co l /\ TapeR (un X oo) tb wr /\ ExtX (tbm tb) w wr) (fun _ c _ => n - (intOf c).toNat)
  case atStart => exact ⟨0, none, 0, [], rfl, rfl, rfl, Nat.zero_le _, fun x hx => by simp at hx, OL.nil _ _ _ _ _ _, ht.none, ExtX.refl _⟩
  case round =>
    obtain ⟨i, oo, co, l, rfl, rfl, hli, hin, hB, hO, htr, hE⟩ := hrel
    have hXr : HX X wr := hX.ext hE
    by_cases hlt : i < n
    · have hXu : HX (un X oo) wr := hO.unX hXr
      have hln := hid hli
      clear hli
      go_wp2_with fail
      refine (trat_any (un X oo) tb _ htr hXu).mono ?_
      rintro e w2 ⟨hE2, ht2, u6, q, rfl, hu6, hq6⟩
      obtain ⟨s6, a6, n6, c6, d6, k6, e6, rfl⟩ := hu6.shape
      have hO2 := hO.ext QC.elem hE2 (fun k _ hk => hsub k hk) (fun _ _ h => h)
      have hX2 : HX X w2 := hXr.ext hE2
      have hE3 := hE.trans hE2
      have hbase := hE3.size
      clear hO htr hE hE2 hXr hXu
      go_wp2_with (at_builtin; refine st_append1n (l := l) slRat rfl QC.elem (by omega) hX2 i hln.out rfl rfl hO2 (.agg #[.bool s6, .slice a6 n6 c6, .slice d6 k6 e6]) q rfl hu6 (by omega) (by omega) ?_; intro oo2 co2 w7 hO7 hE7 hor)
      have hE8 := hE3.own hO2 (Nat.le_refl _) hE7
      have ht3 := ht2.unstep (hO2.not_ob ht.1) hE7 hor
      have hB2 : BR 2 (l ++ [q]) := fun x hx => by
        rcases List.mem_append.1 hx with h | h
        · exact hB x h
        · rw [List.mem_singleton.1 h]; exact hq6
      have hl2 : (l ++ [q]).length = i + 1 := by rw [List.length_append, hln.out]; rfl
      go_roundw
      case rel => exact ⟨i + 1, oo2, co2, _, by go_num, by go_num, hl2, by omega, hB2, hO7, ht3, hE8⟩
      case measure => simp [intOf]; omega
    · have hil : i = n := by omega
      subst hil
      have hc := hO.lenCap
      rw [hli] at hc
      go_wp2_with fail
      go_ret
      exact ⟨hE, oo, l, co, rfl, hli, hc, hB, htr, hO⟩
end Go.Proofs.YthipmbmjodhiiaaGreat
namespace Go.Proofs.YthipmbmjodhiiaaGreat
open Go.RowKit Go.Rep Go.Lim
theorem dig_one (n : Nat) (h : n < 100) : Dig [n] := fun x hx => by
  have : x = n := by simpa using hx
  subst this; have := B_eq; omega
theorem NatIn.lit1 (X : Nat -> Bool) (w : World) (n : Nat) (e : TypeId) (hX : HX X w) : Sl (NatIn .u32) 1 (mk X (w.alloc (.cells #[.int .u32 (n : Int)] e))) (some ⟨w.heap.size, 0, none⟩) [n] :=
  (OL.lit (NatIn.elem .u32) hX (Nat.le_refl _) [.int .u32 (n : Int)] [n] _ (by simp [cellsL, Value.cells]) rfl (fun i hi _ => by
    have : i = 0 := by simpa using hi
    subst this; rfl) (by simp)).sl (NatIn.elem _)
theorem qv_parts {h : Mem} {s : Bool} {ma da : Option Addr} {mc dc : Nat} {m d : List Nat} (hm : Sl (NatIn .u32) 1 h ma m) (hd : Sl (NatIn .u32) 1 h da d) (hmc : m.length <= mc) (hdc : d.length <= dc) (hmd : Dig m) (hdd : Dig d) (hml : m.length <= 3) (hdl : d.length <= 3) :
    ∃ q, QV h (.agg #[.bool s, .slice ma m.length mc, .slice da d.length dc]) q /\ hq q <= 3 :=
  ⟨_, ⟨s, ma, mc, m, da, dc, d, rfl, hmc, hdc, hmd, hdd, by omega, by omega, hm, hd, rfl⟩, qval_hq s m d 3 hmd hdd hml hdl (by omega)⟩
set_option maxRecDepth 100000 in
set_option maxHeartbeats 1600000 in
theorem todd_any (X : Nat -> Bool) (tb : Nat) (w : World) (ht : TapeR X tb w) (hX : HX X w) : Calls Tryz.prog 69 #[.pointer (some ⟨tb, 0, none⟩)] w (TQOut X tb QV 3 w) := by
  have htb := ht.lt
  have htX := ht.1
  obtain ⟨W, hW, hE, b0, hz⟩ := boxes1 w #[.bool false, .slice none 0 0, .slice none 0 0] 34
  have hXW : HX (hidB X w.heap.size 1) W := hX.boxes hz
  have htW : TapeR (hidB X w.heap.size 1) tb W := ht.box hE
  obtain ⟨b, hb⟩ : ∃ b, w.heap.size = b := ⟨_, rfl⟩
  have hbw : w.heap.size <= b := by omega
  have htb' : tb ≠ b := by omega
  have hbt : b ≠ tb := by omega
  rw [hb] at b0 hz hXW htW
  have hEb : ExtX (tbm tb) w W := ExtX.of hE
  clear hE
  go_enter Tryz.func69, Tryz.ntmps69
  go_wp2_with fail
  refine (trat_any (hidB X b 1) tb _ htW hXW).mono ?_
  rintro e w1 ⟨hE1, ht1, u1, q, rfl, hu1, hq1⟩
  obtain ⟨s, ma, mc, m, da, dc, d, rfl, hmc, hdc, hcq, hms, hds⟩ := hu1
  have hmd : Dig m := hcq.1.2.1
  have hdd : Dig d := hcq.2.1
  have hml : m.length <= 2 := by have := hq_num q; rw [hcq.1.len]; omega
  have hdl : d.length <= 2 := by have := hq_dn q; rw [hcq.2.len]; omega
  have b1 := b0.ext hE1 (tbm_ne hbt)
  have hX1 := hXW.ext hE1
  have hF1 := hEb.trans hE1
  have hz1 := hE1.size
  have bx := Bx.new w1 #[.bool false, .slice none 0 0, .slice none 0 0] 34
  obtain ⟨bo, hbo⟩ : ∃ bo, w1.heap.size = bo := ⟨_, rfl⟩
  rw [hbo] at bx
  have hbnew : ∀ j, j < w1.heap.size -> ob (some ⟨bo, 0, none⟩) j = false := fun j hj => ob_other (by omega)
  have hbob : b < bo := by have := b1.lt; omega
  have htbo : tb < bo := by have := ht1.lt; omega
  clear b0 hXW htW hEb hcq hz
  go_wp2_with ((with_reducible show wpList _ _ _ (⟨_, .store 34 _ _, _, _, _, _⟩ :: _) _ _); refine st_storeBox stRat rfl rfl bx rfl rfl (one3 _ _ _ _ _ _ _) ?_; intro w2 r1 r2)
  have hE2 : Ext w1 w2 := ExtX.box ((ExtX.refl w1).alloc _) r2 (by omega)
  have ht2 : TapeR (un (hidB X b 1) (some ⟨bo, 0, none⟩)) tb w2 := ht1.old hE2 hbnew
  have hms2 := hms.old (oo := some ⟨bo, 0, none⟩) (NatIn.mono _) hE2 hbnew
  have hds2 := hds.old (oo := some ⟨bo, 0, none⟩) (NatIn.mono _) hE2 hbnew
  have hX2 : HX (un (hidB X b 1) (some ⟨bo, 0, none⟩)) w2 := fun k hk => by
    by_cases hx : hidB X b 1 k = true
    · exact hX1.ext hE2 k hx
    · have : bo = k := by simpa [un, hx, ob] using hk
      have := r1.lt
      omega
  have b2 := b1.ext0 hE2
  have hF2 := hF1.trans (ExtX.of hE2)
  clear bx hms hds ht1 hE1 hE2 hX1 hF1
  refine (next_any (un (hidB X b 1) (some ⟨bo, 0, none⟩)) tb 24 _ ht2 (by omega)).mono ?_
  rintro e w3 ⟨hE3, ht3, k, rfl, hk⟩
  have hsub := tbm_sub ht3.1
  have hms3 := hms2.mono (NatIn.mono _) (mk_mono hE3 hsub)
  have hds3 := hds2.mono (NatIn.mono _) (mk_mono hE3 hsub)
  have hX3 := hX2.ext hE3
  have b3 := b2.ext hE3 (tbm_ne hbt)
  have r3 := r1.ext hE3 (tbm_ne (by omega))
  have hF3 := hF2.trans hE3
  have hz3 := r3.lt
  clear hms2 hds2 hX2 b2 r1 r2 hF2 ht2 hE3 hbnew hz1
  have hdone : Hid (∀ (wz w7 : World) (s : Bool) (ma da : Option Addr) (mc dc : Nat) (m d : List Nat), ExtX (tbm tb) w wz -> TapeR (un (hidB X b 1) (some ⟨bo, 0, none⟩)) tb wz -> Sl (NatIn .u32) 1 (mk (un (hidB X b 1) (some ⟨bo, 0, none⟩)) wz) ma m -> Sl (NatIn .u32) 1 (mk (un (hidB X b 1) (some ⟨bo, 0, none⟩)) wz) da d -> m.length <= mc -> d.length <= dc -> Dig m -> Dig d -> m.length <= 3 -> d.length <= 3 -> ExtX (ob (some ⟨b, 0, none⟩)) wz w7 -> TQOut X tb QV 3 w (.returned (.agg #[.bool s, .slice ma m.length mc, .slice da d.length dc])) w7) := hid fun wz w7 s ma da mc dc m d g1 g2 g3 g4 g5 g6 g7 g8 g9 g10 g11 => by
    have hle : Le (mk (un (hidB X b 1) (some ⟨bo, 0, none⟩)) wz) (mk X w7) := by
      refine mk_over g11 (fun j hj hk => ?_) (fun j _ hk => un_left (hidB_X hk))
      have : b = j := by simpa [ob] using hk
      subst this
      exact un_left (hidB_in (Nat.le_refl _) (by omega))
    obtain ⟨q, p1, p2⟩ := qv_parts (s := s) (g3.mono (NatIn.mono _) hle) (g4.mono (NatIn.mono _) hle) g5 g6 g7 g8 g9 g10
    have t1 : TapeR X tb w7 := by
      have hlt := g2.lt
      obtain ⟨_, lo, l, cap, at_, h1, h2, h3, h4⟩ := g2
      exact ⟨htX, lo, l, cap, at_, by rw [g11.block tb hlt (ob_other htb')]; exact h1, h2, h3, h4.mono (IntIn.mono _) hle⟩
    exact ⟨g1.tbox g11 hbw, t1, _, q, rfl, p1, p2⟩
  have hcase : k < 20 \/ k = 20 \/ k = 21 \/ k = 22 \/ k = 23 := by omega
  rcases hcase with h | rfl | rfl | rfl | rfl
  · have k0 := r3.cell 0 rfl
    have k1 := r3.cell 1 rfl
    have k2 := r3.cell 2 rfl
    have t20 : ((k : Int) == 20) = false := beqF (by omega)
    have t21 : ((k : Int) == 21) = false := beqF (by omega)
    have t22 : ((k : Int) == 22) = false := beqF (by omega)
    have t23 : ((k : Int) == 23) = false := beqF (by omega)
    go_wp2_with ((with_reducible show wpList _ _ _ (⟨_, .store 34 _ _, _, _, _, _⟩ :: _) _ _); refine st_storeBox stRat rfl rfl b3 rfl rfl (one3 _ _ _ _ _ _ _) ?_; intro w7 r1 r2)
    exact bodyPost_ret (results_box rfl rfl stRat r1 rfl) rfl (hdone.out w3 w7 _ _ _ _ _ _ _ hF3 ht3 hms3 hds3 hmc hdc hmd hdd (by omega) (by omega) r2)
  · have hEa : Ext w3 (w3.alloc (.cells #[.int .u32 1] 103)) := (ExtX.refl _).alloc _
    have r4 := r3.ext0 hEa
    have hdn := NatIn.lit1 (un (hidB X b 1) (some ⟨bo, 0, none⟩)) w3 1 103 hX3
    have k2 := r4.cell 2 rfl
    have f2 := r4.frozen 2
    obtain ⟨g1, g2⟩ := setCell_block r4 (.slice (some ⟨w3.heap.size, 0, none⟩) 1 1) (i := 2) (by simp)
    obtain ⟨w5, hw5⟩ : ∃ w5, (w3.alloc (.cells #[.int .u32 1] 103)).setCell ⟨bo, 2, none⟩ (.slice (some ⟨w3.heap.size, 0, none⟩) 1 1) = w5 := ⟨_, rfl⟩
    rw [hw5] at g1 g2
    have k0 : w5.cell? ⟨bo, 0, none⟩ = some (.bool s) := g1.cell 0 rfl
    have k1 : w5.cell? ⟨bo, 1, none⟩ = some (.slice ma m.length mc) := g1.cell 1 rfl
    have k5 : w5.cell? ⟨bo, 2, none⟩ = some (.slice (some ⟨w3.heap.size, 0, none⟩) 1 1) := g1.cell 2 rfl
    have hE5 : ExtX (ob (some ⟨bo, 0, none⟩)) w3 w5 := (ExtX.of hEa).trans g2
    have hle : Le (mk (un (hidB X b 1) (some ⟨bo, 0, none⟩)) w3) (mk (un (hidB X b 1) (some ⟨bo, 0, none⟩)) w5) := mk_mono hE5 fun _ hk => un_right hk
    have hle2 : Le (mk (un (hidB X b 1) (some ⟨bo, 0, none⟩)) (w3.alloc (.cells #[.int .u32 1] 103))) (mk (un (hidB X b 1) (some ⟨bo, 0, none⟩)) w5) := mk_mono g2 fun _ hk => un_right hk
    have b5 := (b3.ext0 hEa).ext g2 (ob_other (by omega))
    have hfin := hid (hdone.out w5 · s ma (some ⟨w3.heap.size, 0, none⟩) mc 1 m [1] (hF3.tbox hE5 (by omega)) (ht3.extY hE5 (fun _ hk => un_right hk) (ob_other (by omega))) (hms3.mono (NatIn.mono _) hle) (hdn.mono (NatIn.mono _) hle2) hmc (by simp) hmd (dig_one 1 (by omega)) (by omega) (by simp))
    go_wp2_with (first | ((with_reducible show wpList _ _ _ (⟨_, .store 30 _ _, _, _, _, _⟩ :: _) _ _); refine st_cell tyU32s rfl rfl rfl rfl k2 f2 ?_; rw [hw5]; clear k2 f2) | ((with_reducible show wpList _ _ _ (⟨_, .store 34 _ _, _, _, _, _⟩ :: _) _ _); refine st_storeBox stRat rfl rfl b5 rfl rfl (one3 _ _ _ _ _ _ _) ?_; intro w7 r1 r2))
    exact bodyPost_ret (results_box rfl rfl stRat r1 rfl) rfl (hfin.out w7 r2)
  · have k1 := r3.cell 1 rfl
    have h0 := hid (show Sl (NatIn .u32) 1 (mk (un (un (hidB X b 1) (some ⟨bo, 0, none⟩)) none) w3) ma m from by rw [un_none]; exact hms3)
    go_wp2_with (first
      | (at_builtin; refine st_appendl (l := ([] : List Nat)) slU32 rfl (NatIn.elem .u32) (Nat.le_refl w3.heap.size) hX3 m rfl rfl (OL.nil _ _ _ _ _ _) h0.out (by simp; omega) (by simp; omega) ?_; intro oo4 co4 w4 hO4 hE4 hor4; have hE34 : Ext w3 w4 := hE4.weaken (fun _ _ _ => rfl); have hX4 := hX3.ext hE34; have hb4 := hE34.size)
      | (at_builtin; refine st_append1 (l := [] ++ m) slU32 rfl (NatIn.elem .u32) hb4 hX4 rfl rfl hO4 (.int .u32 0) 0 rfl rfl (by simp; omega) (by simp; omega) ?_; intro oo5 co5 w5 hO5 hE5 hor5; have hE35 : Ext w3 w5 := hE34.own hO4 (Nat.le_refl _) hE5; have r5 := r3.ext0 hE35; have k2 := r5.cell 1 rfl; have f2 := r5.frozen 1; obtain ⟨g1, g2⟩ := setCell_block r5 (.slice oo5 (m.length + 1) co5) (i := 1) (by simp); obtain ⟨w6, hw6⟩ : ∃ w6, w5.setCell ⟨bo, 1, none⟩ (.slice oo5 (m.length + 1) co5) = w6 := ⟨_, rfl⟩; rw [hw6] at g1 g2; have q0 : w6.cell? ⟨bo, 0, none⟩ = some (.bool s) := g1.cell 0 rfl; have q1 : w6.cell? ⟨bo, 1, none⟩ = some (.slice oo5 (m.length + 1) co5) := g1.cell 1 rfl; have q2 : w6.cell? ⟨bo, 2, none⟩ = some (.slice da d.length dc) := g1.cell 2 rfl; have b6 := (b3.ext0 hE35).ext g2 (ob_other (by omega)))
      | ((with_reducible show wpList _ _ _ (⟨_, .store 34 _ _, _, _, _, _⟩ :: _) _ _); refine st_storeBox stRat rfl rfl b6 rfl rfl (one3 _ _ _ _ _ _ _) ?_; intro w7 r1 r2))
    have hE6 : ExtX (ob (some ⟨bo, 0, none⟩)) w3 w6 := (ExtX.of hE35).trans g2
    have hle : Le (mk (un (hidB X b 1) (some ⟨bo, 0, none⟩)) w3) (mk (un (hidB X b 1) (some ⟨bo, 0, none⟩)) w6) := mk_mono hE6 fun _ hk => un_right hk
    have hle2 : Le (mk (un (hidB X b 1) (some ⟨bo, 0, none⟩)) w5) (mk (un (hidB X b 1) (some ⟨bo, 0, none⟩)) w6) := mk_mono g2 fun _ hk => un_right hk
    have hc5 := hO5.lenCap
    have hlen : ([] ++ m ++ [0]).length = m.length + 1 := by simp
    rw [hlen] at hc5
    have hfin := hdone.out w6 w7 s oo5 da co5 dc ([] ++ m ++ [0]) d (hF3.tbox hE6 (by omega)) (ht3.extY hE6 (fun _ hk => un_right hk) (ob_other (by omega))) ((hO5.sl (NatIn.elem _)).mono (NatIn.mono _) hle2) (hds3.mono (NatIn.mono _) hle) (by rw [hlen]; exact hc5) hdc (fun x hx => by
      rcases List.mem_append.1 hx with h | h
      · exact hmd x (by simpa using h)
      · rw [List.mem_singleton.1 h]; exact B_pos) hdd (by simp; omega) (by omega) r2
    rw [hlen] at hfin
    exact bodyPost_ret (results_box rfl rfl stRat r1 rfl) rfl hfin
  · go_wp2_with ((with_reducible show wpList _ _ _ (⟨_, .store 34 _ _, _, _, _, _⟩ :: _) _ _); refine st_storeBox stRat rfl rfl b3 rfl rfl (one3 _ _ _ _ _ _ _) ?_; intro w7 r1 r2)
    exact bodyPost_ret (results_box rfl rfl stRat r1 rfl) rfl (hdone.out w3 w7 true none none 0 0 [] [] hF3 ht3 (Sl.nil _ _ _ _) (Sl.nil _ _ _ _) (by simp) (by simp) (fun x hx => by simp at hx) (fun x hx => by simp at hx) (by simp) (by simp) r2)
  · obtain ⟨w4, hw4⟩ : ∃ w4, w3.alloc (.cells #[.int .u32 2] 103) = w4 := ⟨_, rfl⟩
    have hE4 : Ext w3 w4 := by rw [<- hw4]; exact (ExtX.refl _).alloc _
    have hz4 : w4.heap.size = w3.heap.size + 1 := by rw [<- hw4]; simp
    have hX4 := hX3.ext hE4
    have hm2 := NatIn.lit1 (un (hidB X b 1) (some ⟨bo, 0, none⟩)) w3 2 103 hX3
    have hd4 := NatIn.lit1 (un (hidB X b 1) (some ⟨bo, 0, none⟩)) w4 4 103 hX4
    rw [show ((2 : Nat) : Int) = 2 from rfl, hw4] at hm2
    rw [show ((4 : Nat) : Int) = 4 from rfl] at hd4
    obtain ⟨w5, hw5⟩ : ∃ w5, w4.alloc (.cells #[.int .u32 4] 103) = w5 := ⟨_, rfl⟩
    have hE5 : Ext w4 w5 := by rw [<- hw5]; exact (ExtX.refl _).alloc _
    rw [hw5, hz4] at hd4
    have hm5 := hm2.mono (NatIn.mono _) (mk_ext hE5)
    have hE35 : Ext w3 w5 := hE4.trans hE5
    have b5 := b3.ext0 hE35
    have hfin := hid (hdone.out w5 · false (some ⟨w3.heap.size, 0, none⟩) (some ⟨w3.heap.size + 1, 0, none⟩) 1 1 [2] [4] (hF3.trans (ExtX.of hE35)) (ht3.ext hE35) hm5 hd4 (by simp) (by simp) (dig_one 2 (by omega)) (dig_one 4 (by omega)) (by simp) (by simp))
    clear hE4 hX4 hm2 hd4 hE5 hm5 hE35
    go_wp2_with ((with_reducible show wpList _ _ _ (⟨_, .store 34 _ _, _, _, _, _⟩ :: _) _ _); refine st_storeBox stRat rfl rfl b5 rfl rfl (one3 _ _ _ _ _ _ _) ?_; intro w7 r1 r2)
    exact bodyPost_ret (results_box rfl rfl stRat r1 rfl) rfl (hfin.out w7 r2)
theorem toddrow_any (X : Nat -> Bool) (tb n : Nat) (w : World) (ht : TapeR X tb w) (hX : HX X w) (hn : n <= 1000) :
    Calls Tryz.prog 35 #[.pointer (some ⟨tb, 0, none⟩), .int .i64 (n : Int)] w (TRowOut X tb QV 3 n w) := by
  have hsub := tbm_sub ht.1
  go_enter Tryz.func35, Tryz.ntmps35
  go_wp2_with fail
  go_loopw [5, 6] (fun s c wr => ∃ (i : Nat) (oo : Option Addr) (co : Nat) (l : List Rat), c = .int .i64 i /\ s = .slice oo i co /\ l.length = i /\ i <= n /\ BR 3 l /\ OL QV 3 X w.heap.size 34 wr oo co l /\ TapeR (un X oo) tb wr /\ ExtX (tbm tb) w wr) (fun _ c _ => n - (intOf c).toNat)
  case atStart => exact ⟨0, none, 0, [], rfl, rfl, rfl, Nat.zero_le _, fun x hx => by simp at hx, OL.nil _ _ _ _ _ _, ht.none, ExtX.refl _⟩
  case round =>
    obtain ⟨i, oo, co, l, rfl, rfl, hli, hin, hB, hO, htr, hE⟩ := hrel
    have hXr : HX X wr := hX.ext hE
    by_cases hlt : i < n
    · have hXu : HX (un X oo) wr := hO.unX hXr
      have hln := hid hli
      clear hli
      go_wp2_with fail
      refine (todd_any (un X oo) tb _ htr hXu).mono ?_
      rintro e w2 ⟨hE2, ht2, u6, q, rfl, hu6, hq6⟩
      obtain ⟨s6, a6, n6, c6, d6, k6, e6, rfl⟩ := hu6.shape
      have hO2 := hO.ext QV.elem hE2 (fun k _ hk => hsub k hk) (fun _ _ h => h)
      have hX2 : HX X w2 := hXr.ext hE2
      have hE3 := hE.trans hE2
      have hbase := hE3.size
      clear hO htr hE hE2 hXr hXu
      go_wp2_with (at_builtin; refine st_append1n (l := l) slRat rfl QV.elem (by omega) hX2 i hln.out rfl rfl hO2 (.agg #[.bool s6, .slice a6 n6 c6, .slice d6 k6 e6]) q rfl hu6 (by omega) (by omega) ?_; intro oo2 co2 w7 hO7 hE7 hor)
      have hE8 := hE3.own hO2 (Nat.le_refl _) hE7
      have ht3 := ht2.unstep (hO2.not_ob ht.1) hE7 hor
      have hB2 : BR 3 (l ++ [q]) := fun x hx => by
        rcases List.mem_append.1 hx with h | h
        · exact hB x h
        · rw [List.mem_singleton.1 h]; exact hq6
      have hl2 : (l ++ [q]).length = i + 1 := by rw [List.length_append, hln.out]; rfl
      go_roundw
      case rel => exact ⟨i + 1, oo2, co2, _, by go_num, by go_num, hl2, by omega, hB2, hO7, ht3, hE8⟩
      case measure => simp [intOf]; omega
    · have hil : i = n := by omega
      subst hil
      have hc := hO.lenCap
      rw [hli] at hc
      go_wp2_with fail
      go_ret
      exact ⟨hE, oo, l, co, rfl, hli, hc, hB, htr, hO⟩
end Go.Proofs.YthipmbmjodhiiaaGreat
