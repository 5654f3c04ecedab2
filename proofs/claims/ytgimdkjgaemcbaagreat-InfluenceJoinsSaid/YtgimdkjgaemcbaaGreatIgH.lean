/- Parts of a proof: each theorem states what it proves, and its conditions. -/
import Derived.Test.YtgimdkjgaemcbaaGreatIgG
import Derived.BigRegion
import Derived.Sort.LotA
namespace Go.Proofs.YtgimdkjgaemcbaaGreat
open Go.RowKit Go.Rep Go.Lim
def tbm (tb : Nat) : Nat -> Bool := fun k => k == tb
theorem tbm_self (tb : Nat) : tbm tb tb = true := by simp [tbm]
theorem tbm_ne {tb k : Nat} (h : k ≠ tb) : tbm tb k = false := by simpa [tbm] using h
def TapeR (X : Nat -> Bool) (tb : Nat) (w : World) : Prop :=
  X tb = true /\ ∃ (lo : Option Addr) (l : List Int) (cap at_ : Nat), w.heap[tb]? = some (.cells #[.slice lo l.length cap, .int .i64 (at_ : Int)] 93 (0, 0)) /\ l.length <= 400 /\ at_ <= l.length /\ Sl (IntIn .i64) 1 (mk X w) lo l
theorem tbm_sub {X : Nat -> Bool} {tb : Nat} (h : X tb = true) : ∀ k, tbm tb k = true -> X k = true := fun k hk => by
  have : k = tb := by simpa [tbm] using hk
  rw [this]; exact h
theorem TapeR.lt {X : Nat -> Bool} {tb : Nat} {w : World} (h : TapeR X tb w) : tb < w.heap.size := by
  obtain ⟨_, lo, l, cap, at_, h1, _⟩ := h
  by_cases hl : tb < w.heap.size
  · exact hl
  · rw [Array.getElem?_eq_none (by omega)] at h1; simp at h1
theorem TapeR.ext {X : Nat -> Bool} {tb : Nat} {w w' : World} (h : TapeR X tb w) (hE : Ext w w') : TapeR X tb w' := by
  have hlt := h.lt
  obtain ⟨hX, lo, l, cap, at_, h1, h2, h3, h4⟩ := h
  exact ⟨hX, lo, l, cap, at_, by rw [hE.block tb hlt rfl]; exact h1, h2, h3, h4.mono (IntIn.mono _) (mk_ext hE)⟩
theorem TapeR.extY {X Y : Nat -> Bool} {tb : Nat} {w w' : World} (h : TapeR X tb w) (hE : ExtX Y w w') (hY : ∀ k, Y k = true -> X k = true) (ht : Y tb = false) : TapeR X tb w' := by
  have hlt := h.lt
  obtain ⟨hX, lo, l, cap, at_, h1, h2, h3, h4⟩ := h
  exact ⟨hX, lo, l, cap, at_, by rw [hE.block tb hlt ht]; exact h1, h2, h3, h4.mono (IntIn.mono _) (mk_mono hE hY)⟩
def NextOut (X : Nat -> Bool) (tb : Nat) (w : World) (n : Int) (e : Ending) (w' : World) : Prop :=
  ExtX (tbm tb) w w' /\ TapeR X tb w' /\ ∃ m : Nat, e = .returned (.int .i64 (m : Int)) /\ ((m : Int) < n \/ m = 0)
theorem tmod_any (v n : Int) (w : World) (h1 : 1 <= n) (h2 : n <= 1099511627776) :
    Calls Tryz.prog 96 #[.int .i64 v, .int .i64 n] w (fun e w' => e = .returned (.int .i64 (v % n)) /\ w' = w) := by
  have hn0 : (n == 0) = false := beqF (by omega)
  have hlo : -n < v.tmod n := Int.lt_tmod_of_pos v (by omega)
  have hhi : v.tmod n < n := Int.tmod_lt_of_pos v (by omega)
  have hem : (v.tmod n < 0 -> v.tmod n + n = v % n) /\ (0 <= v.tmod n -> v.tmod n = v % n) := by
    have h := Int.tmod_eq_emod (a := v) (b := n)
    have e0 := Int.emod_nonneg v (show n ≠ 0 by omega)
    have e1 := Int.emod_lt_of_pos v (show 0 < n by omega)
    split at h <;> omega
  have hem' := hid hem
  clear hem
  go_enter Tryz.func96, Tryz.ntmps96
  go_wp2_with fail
  · go_ret
    exact ⟨ret_int (hem'.out.1 (by assumption)), rfl⟩
  · go_ret
    exact ⟨ret_int (hem'.out.2 (by assumption)), rfl⟩
theorem TapeR.cells {X : Nat -> Bool} {tb : Nat} {w : World} (h : TapeR X tb w) : ∃ (lo : Option Addr) (l : List Int) (cap at_ : Nat), w.cell? ⟨tb, 0, none⟩ = some (.slice lo l.length cap) /\ w.cell? ⟨tb, 1, none⟩ = some (.int .i64 (at_ : Int)) /\ w.frozen? ⟨tb, 1, none⟩ = false /\ l.length <= 400 /\ at_ <= l.length /\ Sl (IntIn .i64) 1 (mk X w) lo l /\
    ∀ at' : Nat, at' <= l.length -> TapeR X tb (w.setCell ⟨tb, 1, none⟩ (.int .i64 (at' : Int))) /\ ExtX (tbm tb) w (w.setCell ⟨tb, 1, none⟩ (.int .i64 (at' : Int))) /\
      (w.setCell ⟨tb, 1, none⟩ (.int .i64 (at' : Int))).cell? ⟨tb, 0, none⟩ = some (.slice lo l.length cap) /\ (w.setCell ⟨tb, 1, none⟩ (.int .i64 (at' : Int))).cell? ⟨tb, 1, none⟩ = some (.int .i64 (at' : Int)) := by
  have hlt := h.lt
  obtain ⟨hX, lo, l, cap, at_, h1, h2, h3, h4⟩ := h
  refine ⟨lo, l, cap, at_, by simp [World.cell?, h1], by simp [World.cell?, h1], by simp [World.frozen?, h1], h2, h3, h4, fun at' ha => ?_⟩
  have hE : ExtX (tbm tb) w (w.setCell ⟨tb, 1, none⟩ (.int .i64 (at' : Int))) :=
    ⟨rfl, rfl, rfl, by simp [World.setCell], fun k hk hy => Below.heap_setCell _ _ _ _ (fun e => by subst e; simp [tbm] at hy)⟩
  have hn : (w.setCell ⟨tb, 1, none⟩ (.int .i64 (at' : Int))).heap[tb]? = some (.cells #[.slice lo l.length cap, .int .i64 (at' : Int)] 93 (0, 0)) := by
    simp only [World.setCell, Array.getElem?_modify, h1]
    simp
  exact ⟨⟨hX, lo, l, cap, at', hn, h2, ha, h4.mono (IntIn.mono _) (mk_mono hE (tbm_sub hX))⟩, hE, by unfold World.cell?; rw [hn]; rfl, by unfold World.cell?; rw [hn]; rfl⟩
theorem TapeR.drewN {X : Nat -> Bool} {tb : Nat} {w : World} (h : TapeR X tb w) (n : Nat) : TapeR X tb (w.drewN n) := h
set_option maxHeartbeats 800000 in
theorem next_any (X : Nat -> Bool) (tb : Nat) (n : Int) (w : World) (ht : TapeR X tb w) (hn : n <= 1099511627776) :
    Calls Tryz.prog 33 #[.pointer (some ⟨tb, 0, none⟩), .int .i64 n] w (NextOut X tb w n) := by
  obtain ⟨lo, l, cap, at_, c0, c1, f1, hl, hat, hs, hset⟩ := ht.cells
  have hh := hs.hd
  by_cases h1 : n < 1
  · have hd : decide (n < 1) = true := decide_eq_true h1
    go_enter Tryz.func33, Tryz.ntmps33
    go_wp2_with fail
    go_quiet (fail)
    go_wp2_with fail
    go_ret
    exact ⟨(ExtX.refl _).drewN _, ht.drewN _, 0, rfl, .inr rfl⟩
  have hd : decide (n < 1) = false := decide_eq_false h1
  by_cases h2 : at_ < l.length
  · obtain ⟨ht2, hE2, k0, k1⟩ := hset (at_ + 1) (by omega)
    have hs2 := (hs.mono (IntIn.mono _) (mk_mono hE2 (tbm_sub ht.1))).int at_ h2
    obtain ⟨x, hx⟩ : ∃ x, l[at_] = x := ⟨_, rfl⟩
    rw [hx] at hs2
    clear hx hset
    have e1 : ((at_ + 1 : Nat) : Int) = (at_ : Int) + 1 := by omega
    rw [e1] at k0 k1 hs2 ht2 hE2
    have kk0 : ∀ N, ((w.drewN N).setCell ⟨tb, 1, none⟩ (.int .i64 ((at_ : Int) + 1))).cell? ⟨tb, 0, none⟩ = some (.slice lo l.length cap) := fun _ => k0
    have kk1 : ∀ N, ((w.drewN N).setCell ⟨tb, 1, none⟩ (.int .i64 ((at_ : Int) + 1))).cell? ⟨tb, 1, none⟩ = some (.int .i64 ((at_ : Int) + 1)) := fun _ => k1
    have kk2 : ∀ N, ((w.drewN N).setCell ⟨tb, 1, none⟩ (.int .i64 ((at_ : Int) + 1))).cell? (adr lo at_) = some (.int .i64 x) := fun _ => hs2
    have ew : IntKind.i64.wrap ((at_ : Int) + 1 - 1) = (at_ : Int) := by rw [IntWalk.i64_in _ (by omega)]; omega
    have ht3 : ∀ N, TapeR X tb ((w.drewN N).setCell ⟨tb, 1, none⟩ (.int .i64 ((at_ : Int) + 1))) := fun _ => ht2
    have hE3 : ∀ N, ExtX (tbm tb) w ((w.drewN N).setCell ⟨tb, 1, none⟩ (.int .i64 ((at_ : Int) + 1))) := fun _ => ⟨hE2.os, hE2.tape, hE2.output, hE2.size, hE2.block⟩
    have ht4 := hid ht3
    have hE4 := hid hE3
    clear e1 ht2 hE2 k0 k1 ht3 hE3
    have hd2 : decide ((l.length : Int) <= (at_ : Int)) = false := decide_eq_false (by omega)
    have i1 : ∀ W, (Instr.indexAt 22 (.slice lo l.length cap) (.int .i64 (at_ : Int))).run Tryz.prog W = .ok (.pointer (some (adr lo at_))) W := run_ix1 slInt lo l.length cap .i64 at_ hh h2 rfl
    go_enter Tryz.func33, Tryz.ntmps33
    go_wp2_with fail
    go_quiet (fail)
    go_wp2_with fail
    have hm0 := Int.emod_nonneg x (show n ≠ 0 by omega)
    have hm1 := Int.emod_lt_of_pos x (show 0 < n by omega)
    obtain ⟨m, hm⟩ := Int.eq_ofNat_of_zero_le hm0
    have hm' := hid hm
    have hm2 : Hid ((m : Int) < n) := hid (by rw [<- hm]; exact hm1)
    clear hm hm0 hm1
    go_quiet ((go_at_call 96; exact Calls.quiet_of_same (tmod_any x n _ (by omega) (by omega))))
    go_wp2_with fail
    go_ret
    exact ⟨(hE4.out _).drewN _, (ht4.out _).drewN _, m, ret_int hm'.out, .inl hm2.out⟩
  · have hd2 : decide ((l.length : Int) <= (at_ : Int)) = true := decide_eq_true (by omega)
    go_enter Tryz.func33, Tryz.ntmps33
    go_wp2_with fail
    go_quiet (fail)
    go_wp2_with fail
    go_ret
    exact ⟨(ExtX.refl _).drewN _, ht.drewN _, 0, rfl, .inr rfl⟩
end Go.Proofs.YtgimdkjgaemcbaaGreat
namespace Go.Proofs.YtgimdkjgaemcbaaGreat
open Go.RowKit Go.Rep Go.Lim
def TBoolOut (X : Nat -> Bool) (tb : Nat) (w : World) (e : Ending) (w' : World) : Prop := ExtX (tbm tb) w w' /\ TapeR X tb w' /\ ∃ b : Bool, e = .returned (.bool b)
def TIntOut (X : Nat -> Bool) (tb : Nat) (w : World) (lo hi : Int) (e : Ending) (w' : World) : Prop := ExtX (tbm tb) w w' /\ TapeR X tb w' /\ ∃ m : Int, e = .returned (.int .i64 m) /\ lo <= m /\ m <= hi
theorem tbool_any (X : Nat -> Bool) (tb : Nat) (n : Int) (w : World) (ht : TapeR X tb w) (h1 : -1000 <= n) (hn : n <= 1099511627776) :
    Calls Tryz.prog 60 #[.pointer (some ⟨tb, 0, none⟩), .int .i64 n] w (TBoolOut X tb w) := by
  go_enter Tryz.func60, Tryz.ntmps60
  go_wp2_with fail
  refine (next_any X tb n _ ht hn).mono ?_
  rintro e w1 ⟨hE, ht1, m, rfl, hm⟩
  go_wp2_with fail
  go_ret
  exact ⟨hE, ht1, _, rfl⟩
theorem pick_any (X : Nat -> Bool) (tb : Nat) (lo : Option Addr) (l : List Int) (cap : Nat) (w : World) (a b : Int) (ht : TapeR X tb w) (hs : Sl (IntIn .i64) 1 (mk X w) lo l) (h0 : 0 < l.length) (hl : l.length <= 1000) (hab : Hid (∀ x ∈ l, a <= x /\ x <= b)) :
    Calls Tryz.prog 86 #[.pointer (some ⟨tb, 0, none⟩), .slice lo l.length cap] w (TIntOut X tb w a b) := by
  have hh := hs.hd
  go_enter Tryz.func86, Tryz.ntmps86
  go_wp2_with fail
  refine (next_any X tb _ _ ht (by omega)).mono ?_
  rintro e w1 ⟨hE, ht1, m, rfl, hm⟩
  have hml : m < l.length := by omega
  have hc := (hs.mono (IntIn.mono _) (mk_mono hE (tbm_sub ht.1))).int m hml
  have hr := hab.out l[m] (List.getElem_mem hml)
  obtain ⟨x, hx⟩ : ∃ x, l[m] = x := ⟨_, rfl⟩
  rw [hx] at hc hr
  clear hx
  go_wp2_with (with_reducible refine up_ix1 slInt (by omega) (by assumption) ?_)
  go_ret
  exact ⟨hE, ht1, x, rfl, hr.1, hr.2⟩
theorem tnew_any (lo : Option Addr) (l : List Int) (cap : Nat) (w : World) (hs : Sl (IntIn .i64) 1 w.cell? lo l) (hl : l.length <= cap) (hb : l.length <= 9223372036854775807) :
    Calls Tryz.prog 14 #[.slice lo l.length cap] w (fun e w' => e = .returned (.pointer (some ⟨w.heap.size, 0, none⟩)) /\ Ext w w' /\ TapeR (tbm w.heap.size) w.heap.size w' /\ w'.heap.size = w.heap.size + 1) := by
  have key : ∀ (l : List Int), l.length <= 400 -> Sl (IntIn .i64) 1 w.cell? lo l -> TapeR (tbm w.heap.size) w.heap.size (w.alloc (.cells #[.slice lo l.length cap, .int .i64 0] 93)) := by
    intro l hl hs
    refine ⟨tbm_self _, lo, l, cap, 0, heap_alloc_new w _, hl, Nat.zero_le _, ?_⟩
    rw [<- mk_noY] at hs
    refine hs.mono (IntIn.mono _) (mk_over ((ExtX.refl (Y := noY) w).alloc _) (fun k _ hk => by simp [noY] at hk) fun k hk hz => ?_)
    have : k = w.heap.size := by simpa [tbm] using hz
    omega
  have hE : ∀ u v, Ext w (w.alloc (.cells #[u, v] 93)) := fun u v => (ExtX.refl w).alloc _
  by_cases h4 : 400 < l.length
  · have ht := hid (key (l.take 400) (by simp; omega) (hs.take 400))
    have hlen : (l.take 400).length = 400 := by simp; omega
    rw [hlen] at ht
    clear key hlen
    go_enter Tryz.func14, Tryz.ntmps14
    go_wp2_with fail
    go_ret
    exact ⟨rfl, hE _ _, ht.out, by simp⟩
  · have ht := hid (key l (by omega) hs)
    clear key
    go_enter Tryz.func14, Tryz.ntmps14
    go_wp2_with fail
    go_ret
    exact ⟨rfl, hE _ _, ht.out, by simp⟩
theorem lit_cells (l : List Int) : (l.map (Value.int .i64)).flatMap cellsL = l.map (Value.int .i64) := by
  induction l with
  | nil => rfl
  | cons x l ih => simp only [List.map_cons, List.flatMap_cons, ih]; rfl
theorem lit_sl (X : Nat -> Bool) (w : World) (l : List Int) (e : TypeId) (arr : Array Value) (harr : arr = (l.map (Value.int .i64)).toArray) (hX : ∀ k, X k = true -> k < w.heap.size) (hl : l.length <= 1000) :
    OL (IntIn .i64) 1 X w.heap.size e (w.alloc (.cells arr e)) (some ⟨w.heap.size, 0, none⟩) l.length l := by
  refine OL.lit (IntIn.elem .i64) hX (Nat.le_refl _) (l.map (Value.int .i64)) l arr ?_ (by simp) (fun i hi hi' => by simp [IntIn]) (by omega)
  rw [harr, lit_cells]
theorem lit_pick (X : Nat -> Bool) (tb : Nat) (l : List Int) (arr : Array Value) (e : TypeId) (len : Nat) (w : World) (a b : Int) (ht : TapeR X tb w) (hX : ∀ k, X k = true -> k < w.heap.size) (harr : arr = (l.map (Value.int .i64)).toArray) (hlen : len = l.length) (h0 : 0 < l.length) (hl : l.length <= 1000) (hab : Hid (∀ x ∈ l, a <= x /\ x <= b)) :
    Calls Tryz.prog 86 #[.pointer (some ⟨tb, 0, none⟩), .slice (some ⟨w.heap.size, 0, none⟩) len len] (w.alloc (.cells arr e)) (TIntOut X tb w a b) := by
  subst hlen
  have hE : Ext w (w.alloc (.cells arr e)) := (ExtX.refl w).alloc _
  refine (pick_any X tb _ l _ _ a b (ht.ext hE) (OL.sl (IntIn.elem .i64) (lit_sl X w l e arr harr hX hl)) h0 hl hab).mono ?_
  rintro e' w' ⟨hE', ht', r⟩
  exact ⟨(ExtX.of hE).trans hE', ht', r⟩
end Go.Proofs.YtgimdkjgaemcbaaGreat
namespace Go.Proofs.YtgimdkjgaemcbaaGreat
open Go.RowKit Go.Rep Go.Lim
theorem TapeR.unstep {X : Nat -> Bool} {tb : Nat} {w w' : World} {oo oo' : Option Addr} (h : TapeR (un X oo) tb w) (hb : ob oo tb = false) (hE : ExtX (ob oo) w w') (ho : oo' = oo \/ ∃ g, oo' = some ⟨g, 0, none⟩ /\ w.heap.size <= g) : TapeR (un X oo') tb w' := by
  have hlt := h.lt
  obtain ⟨hX, lo, l, cap, at_, h1, h2, h3, h4⟩ := h
  refine ⟨?_, lo, l, cap, at_, by rw [hE.block tb hlt hb]; exact h1, h2, h3, h4.unstep (IntIn.mono _) hE ho⟩
  have : X tb = true := by simpa [un, hb] using hX
  exact un_left this
theorem TapeR.unX {X : Nat -> Bool} {tb : Nat} {w : World} {oo : Option Addr} (h : TapeR (un X oo) tb w) (hX : X tb = true) : TapeR X tb w := by
  obtain ⟨_, lo, l, cap, at_, h1, h2, h3, h4⟩ := h
  exact ⟨hX, lo, l, cap, at_, h1, h2, h3, h4.unX (IntIn.mono _)⟩
theorem un_none (X : Nat -> Bool) : un X none = X := by funext k; simp [un, ob]
theorem TapeR.none {X : Nat -> Bool} {tb : Nat} {w : World} (h : TapeR X tb w) : TapeR (un X none) tb w := by rw [un_none]; exact h
theorem TapeR.old {X : Nat -> Bool} {tb : Nat} {w w' : World} {oo : Option Addr} (h : TapeR X tb w) (hE : Ext w w') (hb : ∀ j, j < w.heap.size -> ob oo j = false) : TapeR (un X oo) tb w' := by
  have hlt := h.lt
  obtain ⟨hX, lo, l, cap, at_, h1, h2, h3, h4⟩ := h
  exact ⟨un_left hX, lo, l, cap, at_, by rw [hE.block tb hlt rfl]; exact h1, h2, h3, h4.old (IntIn.mono _) hE hb⟩
theorem _root_.Go.Rep.OL.not_ob {α : Type} {R : Mem -> Value -> α -> Prop} {sz base cap : Nat} {e : TypeId} {ao : Option Addr} {l : List α} {X : Nat -> Bool} {w : World} (ho : OL R sz X base e w ao cap l) {k : Nat} (hk : X k = true) : ob ao k = false := by
  have h : ∀ k, ob ao k = true -> X k = false := ho.1
  cases hh : ob ao k
  · rfl
  · rw [h k hh] at hk; simp at hk
theorem ob_new (w : World) : ∀ j, j < w.heap.size -> ob (some ⟨w.heap.size, 0, none⟩) j = false := fun j hj => by
  cases hh : ob (some ⟨w.heap.size, 0, none⟩) j
  · rfl
  · have : w.heap.size = j := by simpa [ob] using hh
    omega
end Go.Proofs.YtgimdkjgaemcbaaGreat
namespace Go.Lin
open Go.Lim Go.Rep
end Go.Lin
namespace Go.Proofs.YtgimdkjgaemcbaaGreat
open Go.RowKit Go.Rep Go.Lim Go.Lin
end Go.Proofs.YtgimdkjgaemcbaaGreat
namespace Go.Proofs.YtgimdkjgaemcbaaGreat
open Go.RowKit Go.Rep Go.Lim Go.Lin
end Go.Proofs.YtgimdkjgaemcbaaGreat
namespace Go.Rep
open Go.RowKit
end Go.Rep
namespace Go.Lin
open Go.Lim Go.Rep
end Go.Lin
namespace Go.Proofs.YtgimdkjgaemcbaaGreat
open Go.RowKit Go.Rep Go.Lim Go.Lin
theorem Bx.store {w : World} {b : Nat} {v0 : Value} {T : TypeId} (h : Bx w b #[v0] T) (v : Value) : Bx (w.setCell ⟨b, 0, none⟩ v) b #[v] T /\ ExtX (ob (some ⟨b, 0, none⟩)) w (w.setCell ⟨b, 0, none⟩ v) := by
  obtain ⟨h1, h2⟩ := setCell_block h v (i := 0) (by simp)
  exact ⟨by simpa using h1, h2⟩
end Go.Proofs.YtgimdkjgaemcbaaGreat
namespace Go.Lin
open Go.Lim Go.Rep
end Go.Lin
namespace Go.Proofs.YtgimdkjgaemcbaaGreat
open Go.RowKit Go.Rep Go.Lim Go.Lin
end Go.Proofs.YtgimdkjgaemcbaaGreat
namespace Go.Proofs.YtgimdkjgaemcbaaGreat
open Go.RowKit Go.Rep Go.Lim Go.Lin
set_option maxRecDepth 100000 in
theorem eclean (X : Nat -> Bool) (w : World) (u : Value) (x : Rat) (hX : HX X w) (hu : QV (mk X w) u x) : Calls Tryz.prog 77 #[u] w (ROut X w QC x) := by
  obtain ⟨s1, a1, n1, c1, d1, k1, e1, rfl⟩ := hu.shape
  obtain ⟨W, hW, hE, b0, b1, hz⟩ := boxes2 w #[.bool s1, .slice a1 n1 c1, .slice d1 k1 e1] #[.bool false, .slice none 0 0, .slice none 0 0] 38 38
  have hXW : HX (hidB X w.heap.size 2) W := hX.boxes hz
  have hu1 := QV.mono _ _ _ _ (le_boxes (nb := 2) hE) hu
  obtain ⟨b, hb⟩ : ∃ b, w.heap.size = b := ⟨_, rfl⟩
  have hbw : w.heap.size <= b := by omega
  rw [hb] at b0 b1 hz hXW hu1
  have k00 := b0.cell 0 rfl
  have k01 := b0.cell 1 rfl
  have k02 := b0.cell 2 rfl
  have h0 : QV (mk (hidB X b 2) W) (.agg #[.bool false, .slice none 0 0, .slice none 0 0]) 0 := (QC.zero _).qv (by decide +kernel)
  have hx0 : x + 0 = x := by grind
  clear hu
  go_enter Tryz.func77, Tryz.ntmps77
  go_wp2_with fail
  refine (qadd (hidB X b 2) W _ _ x 0 hXW hu1 h0).mono ?_
  rintro ee w5 ⟨hE5, u5, rfl, hq5⟩
  rw [hx0] at hq5
  obtain ⟨s5, a5, n5, c5, d5, k5, e5, rfl⟩ := hq5.shape
  have b1' := b1.ext0 hE5
  clear k00 k01 k02
  go_wp2_with ((with_reducible show wpList _ _ _ (⟨_, .store 38 _ _, _, _, _, _⟩ :: _) _ _); refine st_storeBox stRat rfl rfl b1' rfl rfl (one3 _ _ _ _ _ _ _) ?_; intro w7 r1 r2)
  have h7 := QC.mono _ _ _ _ le_unbox (QC.mono _ _ _ _ (le_store r2 (by omega) (by omega)) hq5)
  exact bodyPost_ret (results_box rfl rfl stRat r1 rfl) rfl ⟨ExtX.box (hE.trans hE5) r2 (by omega), _, rfl, h7⟩
set_option maxRecDepth 100000 in
set_option maxHeartbeats 800000 in
theorem elistO (X : Nat -> Bool) (w : World) (u : Value) (l : List Rat) (hX : HX X w) (hu : RV (mk X w) u l) (hl : l.length <= 1000) : Calls Tryz.prog 134 #[u] w (fun e w' => Ext w w' /\ ∃ oo co, e = .returned (.slice oo l.length co) /\ OL QC 3 X w.heap.size 38 w' oo co l) := by
  obtain ⟨ao, ca, rfl, hca, hsa⟩ := hu
  have hha := hsa.hd
  obtain ⟨n, hn⟩ : ∃ n, l.length = n := ⟨_, rfl⟩
  have hn' := hid hn
  rw [hn] at hl hca hha |-
  clear hn
  go_enter Tryz.func134, Tryz.ntmps134
  go_wp2_with fail
  go_loopw [3, 8] (fun o cc wr => ∃ (i : Nat) (oo : Option Addr) (co : Nat), cc = .int .i64 i /\ o = .slice oo i co /\ i <= n /\ OL QC 3 X w.heap.size 38 wr oo co (l.take i) /\ Ext w wr) (fun _ cc _ => n - (intOf cc).toNat)
  case atStart => exact ⟨0, none, 0, rfl, rfl, Nat.zero_le _, OL.nil _ _ _ _ _ _, ExtX.refl _⟩
  case round =>
    obtain ⟨i, oo, co, rfl, rfl, hi, hO, hE⟩ := hrel
    have hXr : HX X wr := hX.ext hE
    have hXu : HX (un X oo) wr := hO.unX hXr
    have hbase := hE.size
    by_cases hlt : i < n
    · have hil : i < l.length := by rw [hn'.out]; exact hlt
      have htk := hid (take_snoc l i hil)
      have hln := hid (len_take (l := l) (i := i) (Nat.le_of_lt hil))
      have hq2 : Sl QV 3 (mk (un X oo) wr) ao l := hsa.old QV.mono hE (fun j hj => hO.ob_lt hj)
      have bx := Bx.new wr #[.bool false, .slice none 0 0, .slice none 0 0] 38
      obtain ⟨v, hv⟩ : ∃ v, l[i] = v := ⟨_, rfl⟩
      rw [hv] at htk
      have hv' := hid hv
      clear hv
      go_wp2_with (first | (with_reducible refine up_ixn slRat (by omega) (by assumption) ?_) | ((with_reducible show wpList _ _ _ (⟨_, .load 38 _, _, _, _, _⟩ :: _) _ _); refine st_loadElem stRat i hq2 hil rfl (by simp) QV.agg ?_; intro u5 hu5; rw [hv'.out] at hu5; obtain ⟨s5, a5, n5, c5, d5, m5, e5, rfl⟩ := hu5.shape) | ((with_reducible show wpList _ _ _ (⟨_, .store 38 _ _, _, _, _, _⟩ :: _) _ _); refine st_storeBox stRat rfl rfl bx rfl rfl (one3 _ _ _ _ _ _ _) ?_; intro w5 r1 r2; have hE5 : Ext wr w5 := ExtX.box ((ExtX.refl wr).alloc _) r2 (Nat.le_refl _); have k10 := r1.cell 0 rfl; have k11 := r1.cell 1 rfl; have k12 := r1.cell 2 rfl; have hX5 := hXu.ext hE5; have hu6 := mkx QV.mono hu5 hE5))
      refine (eclean (un X oo) _ _ _ hX5 hu6).mono ?_
      rintro e w7 ⟨hE7, u7, rfl, hu7⟩
      obtain ⟨s7, a7, n7, c7, d7, m7, e7, rfl⟩ := hu7.shape
      have hE57 := hE5.trans hE7
      have hO7 := hO.ext0 QC.elem hE57
      have hb7 := (hE.trans hE57).size
      have hX7 : HX X w7 := hXr.ext hE57
      clear k10 k11 k12
      go_wp2_with (at_builtin; refine st_append1n (l := l.take i) slRat rfl QC.elem hb7 hX7 i hln.out rfl rfl hO7 (.agg #[.bool s7, .slice a7 n7 c7, .slice d7 m7 e7]) v rfl hu7 (by omega) (by omega) ?_; intro oo2 co2 w9 hO9 hE9 hor)
      have hE10 := (hE.trans hE57).own hO7 (Nat.le_refl _) hE9
      rw [htk.out] at hO9
      go_roundw
      case rel => exact ⟨i + 1, oo2, co2, by go_num, by go_num, by omega, hO9, hE10⟩
      case measure => simp [intOf]; omega
    · have hin : i = n := by omega
      rw [List.take_of_length_le (by rw [hn'.out]; omega)] at hO
      subst hin
      go_wp2_with fail
      go_ret
      exact ⟨hE, oo, co, rfl, hO⟩
end Go.Proofs.YtgimdkjgaemcbaaGreat
namespace Go.Proofs.YtgimdkjgaemcbaaGreat
open Go.RowKit Go.Rep Go.Lim
end Go.Proofs.YtgimdkjgaemcbaaGreat
namespace Go.Lin
open Go.Lim
structure Mom where
  n : Int
  xx : Mat
  xy : List Rat
  yy : Rat
end Go.Lin
namespace Go.Rep
open Go.RowKit Go.Lim
def BlR : Mem -> Value -> Bool -> Prop := fun _ u b => u = .bool b
theorem BlR.mono : Mono BlR := fun _ _ _ _ _ h => h
theorem BlR.elem : Elem BlR 1 := ⟨fun _ _ _ _ _ h => h, by rintro h u x rfl; rfl, by
  rintro h u x rfl c hc; simp [cellsL, Value.cells] at hc; subst hc; rfl, Nat.one_pos⟩
theorem BlR.one : OneCell BlR := by rintro h u x rfl; rfl
theorem Sl.bl {h : Mem} {ao : Option Addr} {l : List Bool} (s : Sl BlR 1 h ao l) (i : Nat) (hi : i < l.length) : h (adr ao i) = some (.bool l[i]) := by
  obtain ⟨u, h1, rfl⟩ := s.cell BlR.one i hi
  exact h1
def MomR (A : Mem -> Value -> List (List Rat) -> Prop) (B : Mem -> Value -> List Rat -> Prop) (C : Mem -> Value -> Rat -> Prop) (h : Mem) (u : Value) (m : Go.Lin.Mom) : Prop :=
  ∃ xo xl xc yo yl yc s a n c d k e, u = .agg #[.int .i64 m.n, .slice xo xl xc, .slice yo yl yc, .bool s, .slice a n c, .slice d k e] /\ A h (.slice xo xl xc) m.xx /\ B h (.slice yo yl yc) m.xy /\ C h (.agg #[.bool s, .slice a n c, .slice d k e]) m.yy
def MomV := MomR MV RV QV
def MomC := MomR MC RC QC
theorem MomR.mono {A : Mem -> Value -> List (List Rat) -> Prop} {B : Mem -> Value -> List Rat -> Prop} {C : Mem -> Value -> Rat -> Prop} (hA : Mono A) (hB : Mono B) (hC : Mono C) : Mono (MomR A B C) := by
  rintro h h' u m hl ⟨xo, xl, xc, yo, yl, yc, s, a, n, c, d, k, e, rfl, h1, h2, h3⟩
  exact ⟨xo, xl, xc, yo, yl, yc, s, a, n, c, d, k, e, rfl, hA _ _ _ _ hl h1, hB _ _ _ _ hl h2, hC _ _ _ _ hl h3⟩
theorem MomV.mono : Mono MomV := MomR.mono MV.mono RV.mono QV.mono
theorem MomC.mono : Mono MomC := MomR.mono MC.mono RC.mono QC.mono
end Go.Rep
namespace Go.Lin
structure Fit where
  rank : Nat
  used : List Bool
  coef : List Rat
  res : List Rat
  rss : Rat
  lev : List Rat
end Go.Lin
namespace Go.Rep
def FitC (h : Mem) (v : Value) (f : Go.Lin.Fit) : Prop :=
  ∃ uo uc co cl cc ro rl rc s a n c d k e lo ll lc, v = .agg #[.int .i64 (f.rank : Int), .slice uo f.used.length uc, .slice co cl cc, .slice ro rl rc, .bool s, .slice a n c, .slice d k e, .slice lo ll lc] /\ f.used.length <= uc /\ Sl BlR 1 h uo f.used /\ RC h (.slice co cl cc) f.coef /\ RC h (.slice ro rl rc) f.res /\ QC h (.agg #[.bool s, .slice a n c, .slice d k e]) f.rss /\ RC h (.slice lo ll lc) f.lev
theorem FitC.mono : Mono FitC := by
  rintro h h' u f hl ⟨uo, uc, co, cl, cc, ro, rl, rc, s, a, n, c, d, k, e, lo, ll, lc, rfl, h0, h1, h2, h3, h4, h5⟩
  exact ⟨uo, uc, co, cl, cc, ro, rl, rc, s, a, n, c, d, k, e, lo, ll, lc, rfl, h0, h1.mono BlR.mono hl, RC.mono _ _ _ _ hl h2, RC.mono _ _ _ _ hl h3, QC.mono _ _ _ _ hl h4, RC.mono _ _ _ _ hl h5⟩
end Go.Rep
namespace Go.Rep
open Go.RowKit Go.Lim
theorem le_fresh {X : Nat -> Bool} {w w' : World} {g : Nat} (hE : Ext w w') (hg : w.heap.size <= g) : Le (mk X w) (mk (un X (some ⟨g, 0, none⟩)) w') :=
  mk_over hE (fun k _ hk => by simp [noY] at hk) fun k hk hz => by
    by_cases hx : X k = true
    · exact hx
    · have : g = k := by simpa [un, hx, ob] using hz
      omega
section
variable {P : Program} {ops : Array Oper} {Q : Exit -> Act -> World -> Prop} {rest : List Oper} {a : Act} {w : World}
variable {d : Option Tmp} {ty : TypeId} {ps : String} {af : Array Edge}
theorem step_storeBox {o : Oper} {K : Act -> World -> Prop} {E : Prop} {t : TypeId} {x y : Operand} {n b : Nat} {cs vs : Array Value} {T : TypeId} (hg : o.guard = none) (hop : o.op = .store t x y) (hT : StructT P t n) (hx : a.eval x = .pointer (some ⟨b, 0, none⟩)) (hy : a.eval y = .agg vs) (hb : Bx w b cs T) (hcs : cs.size = n) (hvs : vs.size = n) (hone : ∀ v ∈ vs.toList, v.oneCell' = true)
    (hK : ∀ w', Bx w' b vs T -> ExtX (ob (some ⟨b, 0, none⟩)) w w' -> K (a.put o.dst undef) w') :
    if Region.wanted o (yielded ops a.tmps) = true then Oper.wp P o a w K Q else E := by
  have hw : Region.wanted o (yielded ops a.tmps) = true := by simp [Region.wanted, hg]
  rw [if_pos hw]
  obtain ⟨w', hr, h1, h2⟩ := run_storeBox (P := P) hT hb hcs hvs hone
  unfold Oper.wp execOp
  rw [hop]
  simp [hx, hy, Instr.storeAt, Instr.sureAddr, hr, Result.andThen]
  exact hK w' h1 h2
theorem st_storeCell {t : TypeId} {x y : Operand} {b i : Nat} {cs : Array Value} {v : Value} {T : TypeId} (hT : TyI P t 1) (hx : a.eval x = .pointer (some ⟨b, i, none⟩)) (hy : a.eval y = v) (hv : v.cells = #[v]) (hone : v.oneCell' = true) (hb : Bx w b cs T) (hi : i < cs.size)
    (K : ∀ w', Bx w' b (cs.set i v) T -> ExtX (ob (some ⟨b, 0, none⟩)) w w' -> wpList P ops Q rest (a.put d undef) w') :
    wpList P ops Q (⟨d, .store t x y, ty, ps, af, none⟩ :: rest) a w := by
  refine wpList_plain rfl fun K' hK' => ?_
  obtain ⟨ti, ht, hts⟩ := hT
  obtain ⟨h1, h2⟩ := setCell_block hb v hi
  have hc := hb.cell i (u := cs[i]) (by simp [hi])
  have hf := hb.frozen i
  unfold Oper.wp
  subst hy
  have hr := run_store P w ⟨b, i, none⟩ (a.eval y) .plain hone
  rw [hc, hf] at hr
  simp only [Bool.false_eq_true, if_false] at hr
  simp [execOp, hx, Instr.storeAt, Instr.sureAddr, storeVar, sizeOf, typeInfo, ht, hts, hv, Result.andThen, storeCells, Addr.add_zero', hr]
  exact hK' _ _ (K _ h1 h2)
theorem step_storeCell {o : Oper} {K : Act -> World -> Prop} {E : Prop} {t : TypeId} {x y : Operand} {b i : Nat} {cs : Array Value} {v : Value} {T : TypeId} (hg : o.guard = none) (hop : o.op = .store t x y) (hT : TyI P t 1) (hx : a.eval x = .pointer (some ⟨b, i, none⟩)) (hy : a.eval y = v) (hv : v.cells = #[v]) (hone : v.oneCell' = true) (hb : Bx w b cs T) (hi : i < cs.size)
    (hK : ∀ w', Bx w' b (cs.set i v) T -> ExtX (ob (some ⟨b, 0, none⟩)) w w' -> K (a.put o.dst undef) w') :
    if Region.wanted o (yielded ops a.tmps) = true then Oper.wp P o a w K Q else E := by
  have hw : Region.wanted o (yielded ops a.tmps) = true := by simp [Region.wanted, hg]
  rw [if_pos hw]
  obtain ⟨ti, ht, hts⟩ := hT
  obtain ⟨h1, h2⟩ := setCell_block hb v hi
  have hc := hb.cell i (u := cs[i]) (by simp [hi])
  have hf := hb.frozen i
  unfold Oper.wp execOp
  rw [hop]
  subst hy
  have hr := run_store P w ⟨b, i, none⟩ (a.eval y) .plain hone
  rw [hc, hf] at hr
  simp only [Bool.false_eq_true, if_false] at hr
  simp [hx, Instr.storeAt, Instr.sureAddr, storeVar, sizeOf, typeInfo, ht, hts, hv, Result.andThen, storeCells, Addr.add_zero', hr]
  exact hK _ h1 h2
theorem un_comm (X : Nat -> Bool) (a b : Option Addr) : un (un X a) b = un (un X b) a := by
  funext k; simp only [un]; cases X k <;> cases ob a k <;> cases ob b k <;> rfl
theorem un_none (X : Nat -> Bool) : un X none = X := by funext k; simp [un, ob]
end
end Go.Rep
namespace Go.Proofs.YtgimdkjgaemcbaaGreat
open Go.RowKit Go.Rep
end Go.Proofs.YtgimdkjgaemcbaaGreat
namespace Go.Proofs.YtgimdkjgaemcbaaGreat
open Go.RowKit Go.Rep Go.Lim
theorem eless (X : Nat -> Bool) (w : World) (u v : Value) (x y : Rat) (hX : HX X w) (hu : QV (mk X w) u x) (hv : QV (mk X w) v y) : Calls Tryz.prog 102 #[u, v] w (BOut w (decide (cmpQ x y < 0))) := by
  have hlx := hid hu.hq
  have hly := hid hv.hq
  obtain ⟨s1, a1, n1, c1, d1, k1, e1, rfl⟩ := hu.shape
  obtain ⟨s2, a2, n2, c2, d2, k2, e2, rfl⟩ := hv.shape
  obtain ⟨W, hW, hE, b0, b1, hz⟩ := boxes2 w #[.bool s1, .slice a1 n1 c1, .slice d1 k1 e1] #[.bool s2, .slice a2 n2 c2, .slice d2 k2 e2] 38 38
  have hXW : HX (hidB X w.heap.size 2) W := hX.boxes hz
  have hu1 := QV.mono _ _ _ _ (le_boxes (nb := 2) hE) hu
  have hv1 := QV.mono _ _ _ _ (le_boxes (nb := 2) hE) hv
  obtain ⟨b, hb⟩ : ∃ b, w.heap.size = b := ⟨_, rfl⟩
  have hbw : w.heap.size <= b := by omega
  rw [hb] at b0 b1 hz hXW hu1 hv1
  have hEd : Ext W W.drew := (ExtX.refl W).drew
  have hXd : HX (hidB X b 2) W.drew := hXW
  have hud : QV (mk (hidB X b 2) W.drew) (.agg #[.bool s1, .slice a1 n1 c1, .slice d1 k1 e1]) x := hu1
  have hvd : QV (mk (hidB X b 2) W.drew) (.agg #[.bool s2, .slice a2 n2 c2, .slice d2 k2 e2]) y := hv1
  have k00 := b0.cell 0 rfl
  have k01 := b0.cell 1 rfl
  have k02 := b0.cell 2 rfl
  have k10 := b1.cell 0 rfl
  have k11 := b1.cell 1 rfl
  have k12 := b1.cell 2 rfl
  clear hu hv
  obtain ⟨c, hc⟩ : ∃ c : Int, cmpQ x y = c := ⟨_, rfl⟩
  have hq := qcompare (hidB X b 2) W _ _ x y hXW hu1 hv1
  rw [hc] at hq |-
  clear hEd hXd hud hvd hc
  go_enter Tryz.func102, Tryz.ntmps102
  go_wp2_with fail
  refine hq.mono ?_
  rintro e w5 ⟨hE5, rfl⟩
  clear k00 k01 k02 k10 k11 k12 hq
  go_wp2_with fail
  go_ret
  exact ⟨hE.trans hE5, rfl⟩
set_option maxRecDepth 100000 in
theorem equot (X : Nat -> Bool) (w : World) (u v : Value) (x y : Rat) (hX : HX X w) (hu : QV (mk X w) u x) (hv : QV (mk X w) v y) : Calls Tryz.prog 123 #[u, v] w (ROut X w QC (x / y)) := by
  have hlx := hid hu.hq
  have hly := hid hv.hq
  obtain ⟨s1, a1, n1, c1, d1, k1, e1, rfl⟩ := hu.shape
  obtain ⟨s2, a2, n2, c2, d2, k2, e2, rfl⟩ := hv.shape
  obtain ⟨W, hW, hE, b0, b1, b2, hz⟩ := boxes3 w #[.bool s1, .slice a1 n1 c1, .slice d1 k1 e1] #[.bool s2, .slice a2 n2 c2, .slice d2 k2 e2] #[.bool false, .slice none 0 0, .slice none 0 0] 38 38 38
  have hXW : HX (hidB X w.heap.size 3) W := hX.boxes hz
  have hu1 := QV.mono _ _ _ _ (le_boxes (nb := 3) hE) hu
  have hv1 := QV.mono _ _ _ _ (le_boxes (nb := 3) hE) hv
  obtain ⟨b, hb⟩ : ∃ b, w.heap.size = b := ⟨_, rfl⟩
  have hbw : w.heap.size <= b := by omega
  rw [hb] at b0 b1 b2 hz hXW hu1 hv1
  have hEd : Ext W W.drew := (ExtX.refl W).drew
  have hXd : HX (hidB X b 3) W.drew := hXW
  have hud : QV (mk (hidB X b 3) W.drew) (.agg #[.bool s1, .slice a1 n1 c1, .slice d1 k1 e1]) x := hu1
  have hvd : QV (mk (hidB X b 3) W.drew) (.agg #[.bool s2, .slice a2 n2 c2, .slice d2 k2 e2]) y := hv1
  have k00 := b0.cell 0 rfl
  have k01 := b0.cell 1 rfl
  have k02 := b0.cell 2 rfl
  have k10 := b1.cell 0 rfl
  have k11 := b1.cell 1 rfl
  have k12 := b1.cell 2 rfl
  clear hu hv
  obtain ⟨ec, hec⟩ : ∃ ec : Int, e5 (decide (y = 0)) = ec := ⟨_, rfl⟩
  obtain ⟨q, hq⟩ : ∃ q : Rat, x / y = q := ⟨_, rfl⟩
  have hd := qdiv (hidB X b 3) W _ _ x y hXW hu1 hv1
  rw [hec, hq] at hd
  rw [hq]
  clear hEd hXd hud hvd hec hq
  go_enter Tryz.func123, Tryz.ntmps123
  go_wp2_with fail
  refine hd.mono ?_
  rintro e w5 ⟨hE5, u5, rfl, hu5⟩
  have hu5' := hid hu5
  obtain ⟨s5, a5, n5, c5, d5, k5, f5, rfl⟩ := hu5.shape
  have b5 := b2.ext0 hE5
  have FR : Ext w5 (w5.alloc (.cells #[.bool s5, .slice a5 n5 c5, .slice d5 k5 f5] 38)) := (ExtX.refl _).alloc _
  have xR := Bx.new w5 #[.bool s5, .slice a5 n5 c5, .slice d5 k5 f5] 38
  have p0 := xR.cell 0 rfl
  have p1 := xR.cell 1 rfl
  have p2 := xR.cell 2 rfl
  have b6 := b5.ext0 FR
  clear k00 k01 k02 k10 k11 k12 hd
  go_wp2_with ((with_reducible show wpList _ _ _ (⟨_, .store 38 _ _, _, _, _, _⟩ :: _) _ _); refine st_storeBox stRat rfl rfl b6 rfl rfl (one3 _ _ _ _ _ _ _) ?_; intro w7 r1 r2)
  have h7 := QC.mono _ _ _ _ le_unbox (QC.mono _ _ _ _ (le_store r2 (by omega) (by omega)) (mkx QC.mono hu5'.out FR))
  exact bodyPost_ret (results_box rfl rfl stRat r1 rfl) rfl ⟨ExtX.box (hE.trans (hE5.trans FR)) r2 (by omega), _, rfl, h7⟩
end Go.Proofs.YtgimdkjgaemcbaaGreat
namespace Go.Proofs.YtgimdkjgaemcbaaGreat
open Go.RowKit Go.Rep Go.Lim Go.Lin Go.Sort Go.Lib Go.Extern
def ltQ (x y : Rat) : Bool := decide (cmpQ x y < 0)
theorem ltQ_iff {x y : Rat} : ltQ x y = true ↔ x < y := by
  unfold ltQ cmpQ
  simp only [decide_eq_true_eq]
  split
  · rename_i h; simp [h]
  · rename_i h
    constructor
    · intro h2; split at h2 <;> omega
    · intro h2; exact absurd h2 h
theorem ltQ_not {x y : Rat} : ltQ x y = false ↔ y <= x := by
  rw [<- Rat.not_lt, <- ltQ_iff]; simp
theorem ltQ_swo : SWO ltQ :=
  ⟨fun x => ltQ_not.2 Rat.le_refl, fun x y z h1 h2 => ltQ_iff.2 (by have := ltQ_iff.1 h1; have := ltQ_iff.1 h2; grind), fun x y z h1 h2 => ltQ_not.2 (Rat.le_trans (ltQ_not.1 h2) (ltQ_not.1 h1))⟩
theorem srt_ins (d : Array Rat) : (Go.Sort.insertionSort ltQ d 0 d.size).toList = srt d.toList := by
  obtain ⟨⟨h1, _, h2⟩, h3⟩ := Go.Sort.insertionSort_holds ltQ_swo d 0 d.size (Nat.zero_le _) (Nat.le_refl _)
  obtain ⟨D, hD⟩ : ∃ D, Go.Sort.insertionSort ltQ d 0 d.size = D := ⟨_, rfl⟩
  rw [hD] at h1 h2 h3 |-
  refine srt_uniq ?_ (List.pairwise_iff_getElem.2 fun i j hi hj hij => ?_)
  · rw [<- h1] at h2
    have e : D.size = d.size := h1
    rw [show D.extract 0 D.size = D by simp, show d.extract 0 D.size = d by rw [e]; simp] at h2
    exact h2
  · have hi' : i < D.size := by simpa using hi
    have hj' : j < D.size := by simpa using hj
    have := ltQ_not.1 (h3 i j (Nat.zero_le _) hij (by omega))
    simpa [getElem!_pos, hi', hj'] using this
structure Sorting (X : Nat -> Bool) (base : Nat) (ao : Option Addr) (cap n b : Nat) (d : Array Rat) (w : World) : Prop where
  own : OL QC 3 X base 38 w ao cap d.toList
  size : d.size = n
  var : w.cell? ⟨b, 0, none⟩ = some (.slice ao n cap)
  off : ob ao b = false
  hid : HX X w
  br : BR 68719476736 d.toList
theorem Sorting.ext {X : Nat -> Bool} {base : Nat} {ao : Option Addr} {cap n b : Nat} {d : Array Rat} {w w' : World} (h : Sorting X base ao cap n b d w) (hE : Ext w w') : Sorting X base ao cap n b d w' :=
  ⟨h.own.ext0 QC.elem hE, h.size, hE.cell h.var, h.off, h.hid.ext hE, h.br⟩
set_option maxRecDepth 100000 in
set_option maxHeartbeats 800000 in
theorem sorted_less {X : Nat -> Bool} {base : Nat} {ao : Option Addr} {cap n b : Nat} {d : Array Rat} {w : World} (h : Sorting X base ao cap n b d w) (i j : Nat) (hi : i < n) (hj : j < n) :
    Calls Tryz.prog 136 #[.int .i64 i, .int .i64 j, .pointer (some ⟨b, 0, none⟩)] w (BOut w (ltQ d[i]! d[j]!)) := by
  have hl : d.toList.length = n := by simpa using h.size
  have hi' : i < d.toList.length := by omega
  have hj' : j < d.toList.length := by omega
  obtain ⟨g1, o1, s1, a1, n1, c1, d1, k1, e1, hg1, hy1, hc1, hq1⟩ := h.own.rat QC.shaped i hi'
  obtain ⟨g2, o2, s2, a2, n2, c2, d2, k2, e2, hg2, hy2, hc2, hq2⟩ := h.own.rat QC.shaped j hj'
  have e1' : d.toList[i] = d[i]! := by simp [getElem!_pos, show i < d.size by rw [h.size]; exact hi]
  have e2' : d.toList[j] = d[j]! := by simp [getElem!_pos, show j < d.size by rw [h.size]; exact hj]
  have b1 := h.br _ (List.getElem_mem hi')
  have b2 := h.br _ (List.getElem_mem hj')
  rw [e1'] at hq1 b1
  rw [e2'] at hq2 b2
  have hhd := h.own.hd
  rw [hl] at hhd
  have hXu := h.own.unX h.hid
  have hv := h.var
  obtain ⟨x, hx⟩ : ∃ x, d[i]! = x := ⟨_, rfl⟩
  obtain ⟨y, hy⟩ : ∃ y, d[j]! = y := ⟨_, rfl⟩
  rw [hx] at hq1 b1 |-
  rw [hy] at hq2 b2 |-
  have hEd : Ext w w.drew := (ExtX.refl w).drew
  have hS : Hid (∀ w', Ext w w' -> w'.cell? ⟨b, 0, none⟩ = some (.slice ao n cap) /\ w'.cell? ⟨g1, o1, none⟩ = some (.bool s1) /\ w'.cell? ⟨g1, o1 + 1, none⟩ = some (.slice a1 n1 c1) /\ w'.cell? ⟨g1, o1 + 2, none⟩ = some (.slice d1 k1 e1) /\ w'.cell? ⟨g2, o2, none⟩ = some (.bool s2) /\ w'.cell? ⟨g2, o2 + 1, none⟩ = some (.slice a2 n2 c2) /\ w'.cell? ⟨g2, o2 + 2, none⟩ = some (.slice d2 k2 e2)) :=
    Go.Rep.hid fun w' h => ⟨h.cell hv, (hc1.out _ _ h rfl).1, (hc1.out _ _ h rfl).2.1, (hc1.out _ _ h rfl).2.2, (hc2.out _ _ h rfl).1, (hc2.out _ _ h rfl).2.1, (hc2.out _ _ h rfl).2.2⟩
  have hcmp := Go.Rep.hid (eless (un X ao) w.drew _ _ x y (HX.ext (w := w) hXu hEd) ((mkx QC.mono hq1 hEd).qv b1) ((mkx QC.mono hq2 hEd).qv b2))
  have i1 : ∀ W, (Instr.indexAt 25 (.slice ao n cap) (.int .i64 (i : Int))).run Tryz.prog W = .ok (.pointer (some ⟨g1, o1, none⟩)) W := by rw [<- hg1]; exact run_indexAt_adr slRat ao n cap .i64 i hhd hi
  have i2 : ∀ W, (Instr.indexAt 25 (.slice ao n cap) (.int .i64 (j : Int))).run Tryz.prog W = .ok (.pointer (some ⟨g2, o2, none⟩)) W := by rw [<- hg2]; exact run_indexAt_adr slRat ao n cap .i64 j hhd hj
  unfold ltQ
  obtain ⟨r, hr⟩ : ∃ r, decide (cmpQ x y < 0) = r := ⟨_, rfl⟩
  rw [hr] at hcmp |-
  clear hq1 hq2 hc1 hc2 hg1 hg2 hy1 hy2 h hx hy hr e1' e2' b1 b2 hi' hj' hl hv
  go_enter Tryz.func136, Tryz.ntmps136
  go_upto_region 1 with fail
  refine wp_region_K 9 (fun w' => w'.cell? ⟨b, 0, none⟩ = some (.slice ao n cap) /\ w'.cell? ⟨g1, o1, none⟩ = some (.bool s1) /\ w'.cell? ⟨g1, o1 + 1, none⟩ = some (.slice a1 n1 c1) /\ w'.cell? ⟨g1, o1 + 2, none⟩ = some (.slice d1 k1 e1) /\ w'.cell? ⟨g2, o2, none⟩ = some (.bool s2) /\ w'.cell? ⟨g2, o2 + 1, none⟩ = some (.slice a2 n2 c2) /\ w'.cell? ⟨g2, o2 + 2, none⟩ = some (.slice d2 k2 e2)) (by kernel_rfl) (by kernel_rfl) (hS.out _ hEd) (fun hHeld hOnce => ?_)
  refine kt 0 hOnce ?_
  refine kt 1 hOnce ?_
  refine kt 2 hOnce ?_
  refine kt 3 hOnce ?_
  refine kt 4 hOnce ?_
  refine kt 5 hOnce ?_
  refine kt 6 hOnce ?_
  refine kt 7 hOnce ?_
  refine ks 8 (fun K hK => ?_)
  go_simp
  ((with_reducible refine hcmp.out.mono ?_); rintro ee wa ⟨ga, rfl⟩)
  refine kcn hK (hS.out _ (hEd.trans ga)) (fun hHeld => ?_)
  clear hK K
  refine kl 9 (fun K hK => ?_)
  go_simp
  refine hK.out _ _ ?_
  clear hK K
  have hE9 := hEd.trans ga
  clear hHeld hS hcmp
  go_wp2_with fail
  go_ret
  exact ⟨hE9, rfl⟩
noncomputable def tiRats : TypeInfo := (Tryz.prog.info? 25).get (by kernel_rfl)
noncomputable def tiRat : TypeInfo := (Tryz.prog.info? 38).get (by kernel_rfl)
theorem swK (n : Nat) : swapperK n tiRat 25 = if n = 0 then 1 else if n = 1 then 2 else 9 := by
  have a : tiRat.hasPointers = true := by kernel_rfl
  have b : (tiRat.bytes == 8) = false := by kernel_rfl
  unfold swapperK
  by_cases h0 : n = 0
  · simp [h0]
  · by_cases h1 : n = 1
    · simp [h1]
    · simp [h0, h1, a, b]
theorem sorting_by (X : Nat -> Bool) (base : Nat) (ao : Option Addr) (cap n b : Nat) :
    SortBy ltQ 136 #[.pointer (some ⟨b, 0, none⟩)] 241 #[.slice ao n cap, typeHandle Tryz.prog 38] (ob ao) n (Sorting X base ao cap n b) where
  enter := Go.Proofs.enters_of Tryz.func136 (by kernel_rfl) rfl
  ext _ _ _ h hE := h.ext hE
  low d w h k hk := (h.own.block hk).2
  less d w h _ i j hi hj := (sorted_less h i j hi hj).mono fun _ _ ⟨hE, he⟩ => ⟨he, hE⟩
  swap d w h hn i j hi hj _ := by
    have hl : d.toList.length = n := by simpa using h.size
    obtain ⟨w', h1, h3, h4⟩ := h.own.run_swap (P := Tryz.prog) (t := 38) (ti := tiRat) false (by kernel_rfl) (by kernel_rfl) (fun _ => by kernel_rfl) QC.elem (fun _ _ _ h => by obtain ⟨_, _, _, _, _, _, _, rfl⟩ := h.shape; exact ⟨_, rfl⟩) i j (by omega) (by omega) cap
    rw [hl] at h1
    refine ⟨w', ?_, ⟨?_, by rw [size_swp]; exact h.size, h4.cellY h.var h.off, h.off, fun k hk => Nat.lt_of_lt_of_le (h.hid k hk) h4.size, ?_⟩, h4⟩
    · rw [run_callFunc_extern Tryz.func241 (by kernel_rfl) (by kernel_rfl) (by kernel_rfl) (e := Extern.ReflectliteSwapper.swap false) (by kernel_rfl)]
      rw [show (#[Value.int .i64 (i : Int), Value.int .i64 (j : Int)] ++ #[Value.slice ao n cap, typeHandle Tryz.prog 38]) = #[.int .i64 i, .int .i64 j, .slice ao n cap, typeHandle Tryz.prog 38] from rfl, h1]
      rfl
    · rw [swp_toList d i j (by omega) (by omega)]; exact h3
    · rw [swp_toList d i j (by omega) (by omega)]
      intro x hx
      rcases List.mem_or_eq_of_mem_set hx with hx | rfl
      · rcases List.mem_or_eq_of_mem_set hx with hx | rfl
        · exact h.br x hx
        · exact h.br _ (List.getElem_mem _)
      · exact h.br _ (List.getElem_mem _)
theorem sortcall (X : Nat -> Bool) (base : Nat) (ao : Option Addr) (cap b : Nat) (l : List Rat) (w : World) (h : Sorting X base ao cap l.length b l.toArray w) (hn : l.length <= 20) :
    Calls Tryz.prog 135 #[.iface 25 (.slice ao l.length cap), .func (.func 136) #[] #[.pointer (some ⟨b, 0, none⟩)]] w fun e w' =>
      e = .returned (.tuple #[]) /\ (Sorting X base ao cap l.length b (srt l).toArray w' /\ ExtX (ob ao) w w') := by
  obtain ⟨n, hln⟩ : ∃ n, l.length = n := ⟨_, rfl⟩
  rw [hln] at h hn |-
  have hsz : l.toArray.size = n := by simpa using hln
  have hfin : ∀ w', Sorting X base ao cap n b (Go.Sort.insertionSort ltQ l.toArray 0 n) w' -> Sorting X base ao cap n b (srt l).toArray w' := fun w' h' => by
    have := srt_ins l.toArray
    rw [hsz] at this
    rw [show (srt l).toArray = Go.Sort.insertionSort ltQ l.toArray 0 n by rw [<- this]]
    exact h'
  have key : ∀ (f : Nat) (sb : Array Value), SortBy ltQ 136 #[.pointer (some ⟨b, 0, none⟩)] f sb (ob ao) n (Sorting X base ao cap n b) -> ∀ w1, Ext w w1 ->
      Calls Tryz.prog 189 #[.agg #[.func (.func 136) #[] #[.pointer (some ⟨b, 0, none⟩)], .func (.func f) #[] sb], .int .i64 n] w1 fun e w' => e = .returned (.tuple #[]) /\ (Sorting X base ao cap n b (srt l).toArray w' /\ ExtX (ob ao) w w') := fun f sb S w1 hE =>
    (stable_any S l.toArray w1 (h.ext hE) hsz hn).mono fun _ _ ⟨he, hI, _, hE2⟩ => ⟨he, hfin _ hI, (ExtX.of hE).trans hE2⟩
  have small : n < 2 -> ∀ f sb, SortBy ltQ 136 #[.pointer (some ⟨b, 0, none⟩)] f sb (ob ao) n (Sorting X base ao cap n b) := fun h2 f sb =>
    ⟨Go.Proofs.enters_of Tryz.func136 (by kernel_rfl) rfl, fun _ _ _ h hE => h.ext hE, fun d w h k hk => (h.own.block hk).2, fun d w h _ i j hi hj => (sorted_less h i j hi hj).mono fun _ _ ⟨hE, he⟩ => ⟨he, hE⟩, fun d w h _ i j hi hj hij => by omega⟩
  rcases Nat.lt_or_ge n 2 with h2 | h2
  · rcases Nat.eq_zero_or_pos n with h0 | h0
    · have eK : swapperK n tiRat 25 = 1 := by rw [swK, if_pos h0]
      refine slicestable_any 25 38 tiRats tiRat (by kernel_rfl) (by kernel_rfl) (by kernel_rfl) (by kernel_rfl) 25 (fun _ => by kernel_rfl) ao n cap (by omega) 233 (by rw [eK]; kernel_rfl) _ _ w _ ?_
      rw [eK]
      exact key _ _ (small h2 _ _)
    · have eK : swapperK n tiRat 25 = 2 := by rw [swK, if_neg (by omega), if_pos (by omega)]
      refine slicestable_any 25 38 tiRats tiRat (by kernel_rfl) (by kernel_rfl) (by kernel_rfl) (by kernel_rfl) 25 (fun _ => by kernel_rfl) ao n cap (by omega) 234 (by rw [eK]; kernel_rfl) _ _ w _ ?_
      rw [eK]
      exact key _ _ (small h2 _ _)
  · have eK : swapperK n tiRat 25 = 9 := by rw [swK, if_neg (by omega), if_neg (by omega)]
    refine slicestable_any 25 38 tiRats tiRat (by kernel_rfl) (by kernel_rfl) (by kernel_rfl) (by kernel_rfl) 25 (fun _ => by kernel_rfl) ao n cap (by omega) 241 (by rw [eK]; kernel_rfl) _ _ w _ ?_
    rw [eK]
    exact key _ _ (sorting_by X base ao cap n b)
set_option maxRecDepth 100000 in
set_option maxHeartbeats 800000 in
theorem isorted (X : Nat -> Bool) (w : World) (u : Value) (l : List Rat) (hX : HX X w) (hu : RV (mk X w) u l) (hl : l.length <= 20) (hB : BR 68719476736 l) :
    Calls Tryz.prog 71 #[u] w (fun e w' => Ext w w' /\ ∃ oo co, e = .returned (.slice oo l.length co) /\ OL QC 3 X w.heap.size 38 w' oo co (srt l)) := by
  have hsc := fun base ao cap b w h => sortcall X base ao cap b l w h hl
  obtain ⟨n, hn⟩ : ∃ n, l.length = n := ⟨_, rfl⟩
  have hel := elistO X w u l hX hu (by omega)
  rw [hn] at hel hsc hl |-
  have hn' := hid hn
  clear hn
  go_enter Tryz.func71, Tryz.ntmps71
  go_wp2_with fail
  refine hel.mono ?_
  rintro e w1 ⟨hE1, ao, cap, rfl, hO⟩
  have hX1 := hX.ext hE1
  have hEA : Ext w1 (w1.alloc (.cells #[.slice ao n cap] 25)) := (ExtX.refl w1).alloc _
  have hso : Sorting X w.heap.size ao cap n w1.heap.size l.toArray (w1.alloc (.cells #[.slice ao n cap] 25)) :=
    ⟨by rw [List.toList_toArray]; exact hO.ext0 QC.elem hEA, by simpa using hn'.out, cell_new 0 rfl, by
      cases h : ob ao w1.heap.size with
      | false => rfl
      | true => have := (hO.block h).2; omega, hX1.ext hEA, by rw [List.toList_toArray]; exact hB⟩
  have hcall := hsc w.heap.size ao cap w1.heap.size _ hso
  clear hsc hso hu hB
  go_wp2_with (go_at_call 135; refine hcall.mono ?_; rintro e w2 ⟨rfl, hS, hE2⟩; have hv := hS.var)
  go_ret
  have hOs := hS.own
  rw [List.toList_toArray] at hOs
  exact ⟨(hE1.trans hEA).own (hO.ext0 QC.elem hEA) (Nat.le_refl _) hE2, ao, cap, rfl, hOs⟩
end Go.Proofs.YtgimdkjgaemcbaaGreat
namespace Go.Rep
open Go.RowKit Go.Lim
abbrev hidF (X : Nat -> Bool) (fb : Nat) : Nat -> Bool := un X (some ⟨fb, 0, none⟩)
abbrev hidZ (X : Nat -> Bool) (fb : Nat) (po oo : Option Addr) : Nat -> Bool := un (un (hidF X fb) po) oo
structure RS (X : Nat -> Bool) (w0 : World) (b fb base : Nat) (T1 T2 T3 : TypeId) (w : World) (oo : Option Addr) (co : Nat) (po : Option Addr) (pc : Nat) (M : List (List Rat)) (p : List Nat) (f : Rat) : Prop where
  rows : OL RC 1 (un (hidF X fb) po) base T1 w oo co M
  piv : OL (NatIn .i64) 1 (un (hidF X fb) oo) base T3 w po pc p
  fac : ∃ s a n c d k e, Bx w fb #[.bool s, .slice a n c, .slice d k e] T2 /\ QC (mk (hidZ X fb po oo) w) (.agg #[.bool s, .slice a n c, .slice d k e]) f
  hx : HX X w
  res : Bx w b #[.bool false, .slice none 0 0, .slice none 0 0] T2
  rb : X b = true
  fb0 : fb ≠ b
  ext : Ext w0 w
  low : w0.heap.size <= base
  lowf : w0.heap.size <= fb
section
variable {X : Nat -> Bool} {w0 w w' : World} {b fb base : Nat} {T1 T2 T3 : TypeId} {oo po : Option Addr} {co pc : Nat} {M M' : List (List Rat)} {p : List Nat} {f f' : Rat}
theorem RS.pF (h : RS X w0 b fb base T1 T2 T3 w oo co po pc M p f) : ob po fb = false := by
  cases hb : ob po fb
  · rfl
  · have := h.piv.1 fb hb; rw [un_left (un_right (ob_self fb))] at this; simp at this
theorem RS.pB (h : RS X w0 b fb base T1 T2 T3 w oo co po pc M p f) : ob po b = false := by
  cases hb : ob po b
  · rfl
  · have := h.piv.1 b hb; rw [un_left (un_left h.rb)] at this; simp at this
theorem RS.flt (h : RS X w0 b fb base T1 T2 T3 w oo co po pc M p f) : fb < w.heap.size := by
  obtain ⟨_, _, _, _, _, _, _, h1, _⟩ := h.fac; exact h1.lt
theorem RS.hz (h : RS X w0 b fb base T1 T2 T3 w oo co po pc M p f) : HX (hidZ X fb po oo) w := fun k hk => by
  by_cases h1 : ob oo k = true
  · exact (h.rows.block h1).2
  · by_cases h2 : ob po k = true
    · exact (h.piv.block h2).2
    · by_cases h3 : X k = true
      · exact h.hx k h3
      · have h1' : ob oo k = false := by simpa using h1
        have h2' : ob po k = false := by simpa using h2
        have h3' : X k = false := by simpa using h3
        have h4 : ob (some ⟨fb, 0, none⟩) k = true := by simpa [hidZ, hidF, un, h1', h2', h3'] using hk
        have : fb = k := by simpa [ob] using h4
        rw [<- this]; exact h.flt
theorem RS.row (h : RS X w0 b fb base T1 T2 T3 w oo co po pc M p f) (i : Nat) (hi : i < M.length) : ∃ a c, w.cell? (adr oo i) = some (.slice a M[i].length c) /\ w.frozen? (adr oo i) = false /\ M[i].length <= c /\ Sl QC 3 (_root_.Go.Rep.mk (hidZ X fb po oo) w) a M[i] := by
  obtain ⟨u, h1, h2, a, c, rfl, h4, h5⟩ := h.rows.cell SlV.one i hi
  exact ⟨a, c, h1, h2, h4, h5⟩
theorem RS.ext0 (h : RS X w0 b fb base T1 T2 T3 w oo co po pc M p f) (hE : Ext w w') : RS X w0 b fb base T1 T2 T3 w' oo co po pc M p f := by
  obtain ⟨s, a, n, c, d, k, e, h1, h2⟩ := h.fac
  exact ⟨h.rows.ext0 RC.elem hE, h.piv.ext0 (NatIn.elem _) hE, ⟨s, a, n, c, d, k, e, h1.ext0 hE, mkx QC.mono h2 hE⟩, h.hx.ext hE, h.res.ext0 hE, h.rb, h.fb0, h.ext.trans hE, h.low, h.lowf⟩
theorem RS.push (h : RS X w0 b fb base T1 T2 T3 w oo co po pc M p f) {po2 : Option Addr} {pc2 j : Nat} (hE : ExtX (ob po) w w') (hP : OL (NatIn .i64) 1 (un (hidF X fb) oo) base T3 w' po2 pc2 (p ++ [j])) (hor : po2 = po \/ ∃ g, po2 = some ⟨g, 0, none⟩ /\ w.heap.size <= g) : RS X w0 b fb base T1 T2 T3 w' oo co po2 pc2 M (p ++ [j]) f := by
  obtain ⟨s, a, n, c, d, k, e, h1, h2⟩ := h.fac
  have hold : ∀ k, k < w.heap.size -> ob po2 k = true -> ob po k = true := fun k hk h9 => by
    rcases hor with rfl | ⟨g, rfl, hg⟩
    · exact h9
    · have : g = k := by simpa [ob] using h9
      omega
  have hF : ∀ k, k < w.heap.size -> un (hidF X fb) po2 k = true -> un (hidF X fb) po k = true := fun k hk hz => by
    by_cases hx : hidF X fb k = true
    · exact un_left hx
    · exact un_right (hold k hk (by simpa [un, hx] using hz))
  refine ⟨h.rows.ext RC.elem hE (fun k _ hk => un_right hk) hF, hP, ⟨s, a, n, c, d, k, e, h1.ext hE h.pF, QC.mono _ _ _ _ (mk_over hE (fun k _ hk => un_left (un_right hk)) fun k hk hz => ?_) h2⟩, h.hx.ext hE, h.res.ext hE h.pB, h.rb, h.fb0, h.ext.own h.piv h.low hE, h.low, h.lowf⟩
  by_cases ho : ob oo k = true
  · exact un_right ho
  · exact un_left (hF k hk (by simpa [un, ho] using hz))
end
end Go.Rep
namespace Go.Lin
open Go.Lim
end Go.Lin
namespace Go.Rep
open Go.RowKit
section
variable {P : Program} {w : World}
end
end Go.Rep
namespace Go.Lin
open Go.Lim Go.Rep
theorem sm_hq {n B : Nat} {f : Nat -> Rat} (h : ∀ i, i < n -> hq (f i) <= B) : hq (sm n f) <= 1 + n * (B + 1) := by
  induction n with
  | zero => unfold sm; rw [hq_zero]; omega
  | succ n ih =>
    unfold sm
    have h1 := ih fun i hi => h i (by omega)
    have h2 := hq_add (sm n f) (f n)
    have h3 := h n (by omega)
    have e : (n + 1) * (B + 1) = n * (B + 1) + (B + 1) := Nat.succ_mul _ _
    omega
end Go.Lin
namespace Go.Proofs.YtgimdkjgaemcbaaGreat
open Go.RowKit Go.Rep Go.Lim Go.Lin
set_option maxRecDepth 100000 in
set_option maxHeartbeats 1600000 in
theorem esum_any (X : Nat -> Bool) (w : World) (u : Value) (l : List Rat) (hX : HX X w) (hu : RV (mk X w) u l) (hn : l.length <= 1000000) (hb1 : ∀ k, k <= l.length -> hq (sm k (fn l)) <= 68719476736) :
    Calls Tryz.prog 156 #[u] w (ROut X w QC (sm l.length (fn l))) := by
  obtain ⟨ao, ca, rfl, hca, hsa⟩ := hu
  have hha := hsa.hd
  obtain ⟨W, hW, hE, b0, b1, hz⟩ := boxes2 w #[.bool false, .slice none 0 0, .slice none 0 0] #[.bool false, .slice none 0 0, .slice none 0 0] 38 38
  have hXW : HX (hidB X w.heap.size 2) W := hX.boxes hz
  have h0 : QC (mk (hidB X w.heap.size 2) W) (.agg #[.bool false, .slice none 0 0, .slice none 0 0]) (sm 0 (fn l)) := QC.zero _
  obtain ⟨n, hln⟩ : ∃ n, l.length = n := ⟨_, rfl⟩
  rw [hln] at hn hb1 hca hha |-
  have hln' := hid hln
  have hb1' := hid hb1
  clear hln hb1
  go_enter Tryz.func156, Tryz.ntmps156
  go_wp2_with fail
  obtain ⟨b, hb⟩ : ∃ b, w.heap.size = b := ⟨_, rfl⟩
  have hle : Hid (∀ wr, Ext w wr -> Le (mk X w) (mk (hidB X b 2) wr)) := hid fun wr h => by rw [<- hb]; exact le_boxes h
  have hbw : w.heap.size <= b := by omega
  rw [hb] at b0 b1 hXW h0 |-
  clear hW
  go_loopw [8] (fun k wr => ∃ (i : Nat) (s : Bool) (a : Option Addr) (n' c' : Nat) (d : Option Addr) (kk e : Nat), k = .int .i64 i /\ i <= n /\ Bx wr b #[.bool false, .slice none 0 0, .slice none 0 0] 38 /\ Bx wr (b + 1) #[.bool s, .slice a n' c', .slice d kk e] 38 /\ QC (mk (hidB X b 2) wr) (.agg #[.bool s, .slice a n' c', .slice d kk e]) (sm i (fn l)) /\ HX (hidB X b 2) wr /\ Ext w wr) (fun k _ => n - (intOf k).toNat)
  case atStart => exact ⟨0, _, _, _, _, _, _, _, rfl, Nat.zero_le _, b0, b1, h0, hXW, hE⟩
  case round =>
    obtain ⟨i, s, a, n', c', d, kk, e, rfl, hi, b0, b1, hq, hXr, hEr⟩ := hrel
    by_cases hlt : i < n
    · have hil : i < l.length := by rw [hln'.out]; exact hlt
      have hsr := hsa.mono QV.mono (hle.out wr hEr)
      have gl : Hid (fn l i = l[i]) := hid (by simp [fn, List.getD_eq_getElem?_getD, hil])
      have hst : Hid (sm i (fn l) + l[i] = sm (i + 1) (fn l)) := hid (by rw [<- gl.out]; rfl)
      have hbo := hid (hb1'.out i hi)
      obtain ⟨x, hx⟩ : ∃ x, l[i] = x := ⟨_, rfl⟩
      rw [hx] at hst
      have hx' := hid hx
      have bx := Bx.new wr #[.bool false, .slice none 0 0, .slice none 0 0] 38
      obtain ⟨D, hD⟩ : ∃ D, sm i (fn l) = D := ⟨_, rfl⟩
      obtain ⟨D2, hD2⟩ : ∃ D2, sm (i + 1) (fn l) = D2 := ⟨_, rfl⟩
      rw [hD] at hq hst hbo
      rw [hD2] at hst
      have hD2' := hid hD2
      clear hx hD hD2
      go_wp2_with (first | (with_reducible refine up_ixn slRat (by omega) (by assumption) ?_) | ((with_reducible show wpList _ _ _ (⟨_, .load 38 _, _, _, _, _⟩ :: _) _ _); refine st_loadElem stRat i hsr hil rfl (by simp) QV.agg ?_; intro u5 hu5; rw [hx'.out] at hu5; obtain ⟨s5, a5, n5, c5, d5, k5, e5, rfl⟩ := hu5.shape) | ((with_reducible show wpList _ _ _ (⟨_, .store _ _ _, _, _, _, _⟩ :: _) _ _); refine st_storeBox stRat rfl rfl bx rfl rfl (one3 _ _ _ _ _ _ _) ?_; intro w5 r1 r2; have hE5 : Ext wr w5 := ExtX.box ((ExtX.refl wr).alloc _) r2 (Nat.le_refl _); have b15 := b1.ext0 hE5; have k00 : w5.cell? ⟨b + 1, 0, none⟩ = some (.bool s) := b15.cell 0 rfl; have k01 : w5.cell? ⟨b + 1, 1, none⟩ = some (.slice a n' c') := b15.cell 1 rfl; have k02 : w5.cell? ⟨b + 1, 2, none⟩ = some (.slice d kk e) := b15.cell 2 rfl; have k10 : w5.cell? ⟨wr.heap.size, 0, none⟩ = some (.bool s5) := r1.cell 0 rfl; have k11 : w5.cell? ⟨wr.heap.size, 1, none⟩ = some (.slice a5 n5 c5) := r1.cell 1 rfl; have k12 : w5.cell? ⟨wr.heap.size, 2, none⟩ = some (.slice d5 k5 e5) := r1.cell 2 rfl; have hXd := hXr.ext hE5; have hx5 : QV (mk (hidB X b 2) w5) (.agg #[.bool s5, .slice a5 n5 c5, .slice d5 k5 e5]) x := mkx QV.mono hu5 hE5; have hq5 : QV (mk (hidB X b 2) w5) (.agg #[.bool s, .slice a n' c', .slice d kk e]) D := (mkx QC.mono hq hE5).qv hbo.out; clear bx r1) | (go_at_call 76; (with_reducible refine (qadd (hidB X b 2) w5 _ _ _ _ hXd hq5 hx5).mono ?_); rintro ee w7 ⟨t7, u7, rfl, hu7⟩; obtain ⟨s7, a7, n7, c7, d7, k7, e7, rfl⟩ := hu7.shape; rw [hst.out] at hu7; have b17 := b15.ext0 t7; clear k00 k01 k02 k10 k11 k12) | ((with_reducible show wpList _ _ _ (⟨_, .store _ _ _, _, _, _, _⟩ :: _) _ _); refine st_storeBox stRat rfl rfl b17 rfl rfl (one3 _ _ _ _ _ _ _) ?_; intro w8 z1 z2))
      have h8 := QC.mono _ _ _ _ (le_store (lo := b) (nb := 2) z2 (by omega) (by omega)) hu7
      have b08 := ((b0.ext0 hE5).ext0 t7).ext z2 (ob_other (by omega))
      have hE8 : Ext w _ := ExtX.box (hEr.trans (hE5.trans t7)) z2 (by omega)
      have hX8 := (hXd.ext t7).ext z2
      rw [<- hD2'.out] at h8
      go_roundw
      case rel => exact ⟨i + 1, _, _, _, _, _, _, _, by go_num, by omega, b08, z1, h8, hX8, hE8⟩
      case measure => simp [intOf]; omega
    · have hin : i = n := by omega
      subst hin
      rw [<- hln'.out] at hq
      have k00 := b1.cell 0 rfl
      have k01 := b1.cell 1 rfl
      have k02 := b1.cell 2 rfl
      go_wp2_with ((with_reducible show wpList _ _ _ (⟨_, .store _ _ _, _, _, _, _⟩ :: _) _ _); refine st_storeBox stRat rfl rfl b0 rfl rfl (one3 _ _ _ _ _ _ _) ?_; intro w7 r1 r2)
      have h7 := QC.mono _ _ _ _ le_unbox (QC.mono _ _ _ _ (le_store r2 (by omega) (by omega)) hq)
      rw [hln'.out] at h7
      exact bodyPost_ret (results_box rfl rfl stRat r1 rfl) rfl ⟨ExtX.box hEr r2 (by omega), _, rfl, h7⟩
end Go.Proofs.YtgimdkjgaemcbaaGreat
namespace Go.Rep
open Go.RowKit Go.Lim
section
variable {P : Program} {ops : Array Oper} {Q : Exit -> Act -> World -> Prop} {a : Act} {w : World}
variable {α : Type} {R : Mem -> Value -> α -> Prop} {sz : Nat} {X : Nat -> Bool} {base : Nat} {e : TypeId} {ao : Option Addr} {cap : Nat} {l : List α}
theorem step_appendl13 {o : Oper} {K : Act -> World -> Prop} {E : Prop} {t by_ : Nat} {z : Value} {s x : Operand} {ax : Option Addr} {cs : Nat}
    (hg : o.guard = none) (hop : o.op = Op.call { callee := Callee.builtin Builtin.append, args := #[s, x], argTypes := #[t, t] }) (T : SliceT P t e sz by_ z) (hzs : z.cells.size = sz) (hR : Elem R sz) (hbase : base <= w.heap.size) (hX : ∀ k, X k = true -> k < w.heap.size) (xs : List α) (n m : Nat) (hn : l.length = n) (hm : xs.length = m)
    (hs : a.eval s = .slice ao n cap) (hx : a.eval x = .slice ax m cs) (h : OL R sz X base e w ao cap l)
    (hxs : Sl R sz (mk (un X ao) w) ax xs) (hroom : (n + m) * by_ <= 140737488355328) (hmax : n + m <= 9223372036854775807)
    (hK : ∀ ao' cap' w', OL R sz X base e w' ao' cap' (l ++ xs) -> ExtX (ob ao) w w' -> (ao' = ao \/ ∃ g, ao' = some ⟨g, 0, none⟩ /\ w.heap.size <= g) -> K (a.put o.dst (.slice ao' (n + m) cap')) w') :
    if Region.wanted o (yielded ops a.tmps) = true then Oper.wp P o a w K Q else E := by
  have hw : Region.wanted o (yielded ops a.tmps) = true := by simp [Region.wanted, hg]
  rw [if_pos hw]
  subst hn hm
  obtain ⟨us, h1, h2, h3⟩ := hxs.at_ hR
  obtain ⟨ao', cap', w', hr, h2, h3, h4⟩ := h.run_append (P := P) T hzs hR hbase hX ax cs us xs h2 h1 h3 hroom hmax o.type
  unfold Oper.wp execOp
  rw [hop]
  simp only [resolve, invoke, builtin, Sem.run_bind, Sem.run_pure, Result.andThen_ok, List.map_toArray, List.map_cons, List.map_nil, hs, hx]
  rw [hr]
  have := hK ao' cap' w' h2 h3 h4
  rw [show (l ++ xs).length = l.length + xs.length from by simp]
  exact this
end
end Go.Rep
namespace Go.Rep
open Go.RowKit Go.Lim
theorem sl_box {α : Type} {R : Mem -> Value -> α -> Prop} {sz : Nat} {Y : Nat -> Bool} {w : World} {g : Nat} {u : Value} {T : TypeId} {y : α} (hb : Bx w g u.cells T) (hY : Y g = false) (hu : R (mk Y w) u y) (hs : u.cells.size = sz) : Sl R sz (mk Y w) (some ⟨g, 0, none⟩) [y] :=
  ⟨fun _ => ⟨g, 0, rfl⟩, fun i hi => by
    have : i = 0 := by simpa using hi
    subst this
    refine ⟨u, hs, fun j hj => ?_, hu⟩
    have hc := hb.cell j (Array.getElem?_eq_getElem hj)
    simp only [adr, Option.getD_some, Nat.zero_mul, Nat.zero_add]
    simp [mk, hY, hc]⟩
end Go.Rep
namespace Go.Lin
open Go.Lim Go.Rep
theorem winL_sub (s : List Rat) (a b : Nat) : winL s a b = (s.take b).drop a := by unfold winL; rw [List.drop_take]
theorem srt_mem {l : List Rat} {x : Rat} : x ∈ srt l ↔ x ∈ l := (srt_perm l).mem_iff
theorem srt_br {B : Nat} {l : List Rat} (h : BR B l) : BR B (srt l) := fun x hx => h x (srt_mem.1 hx)
theorem winL_br {B : Nat} {s : List Rat} (h : BR B s) (a b : Nat) : BR B (winL s a b) := fun x hx => h x (List.mem_of_mem_drop (List.mem_of_mem_take hx))
theorem sumL_hq {B n : Nat} {l : List Rat} (h : BR B l) (hn : l.length <= n) : ∀ k, k <= l.length -> hq (sm k (fn l)) <= 1 + n * (B + 1) := fun k hk => by
  have := sm_hq (n := k) (B := B) (f := fn l) fun i hi => by
    have hi' : i < l.length := by omega
    rw [show fn l i = l[i] by simp [fn, List.getD_eq_getElem?_getD, hi']]
    exact h _ (List.getElem_mem hi')
  have h2 : k * (B + 1) <= n * (B + 1) := Nat.mul_le_mul_right _ (by omega)
  omega
end Go.Lin
namespace Go.Proofs.YtgimdkjgaemcbaaGreat
open Go.RowKit Go.Rep Go.Lim Go.Lin
theorem copyRat_any (X : Nat -> Bool) (ao : Option Addr) (l : List Rat) (n cap : Nat) (w : World) (hn : l.length = n) (hs : Sl QV 3 (mk X w) ao l) (hl : n <= 1000000) (hX : HX X w) :
    Calls Tryz.prog 160 #[.slice ao n cap] w (fun e w' => Ext w w' /\ ∃ bo c, e = .returned (.slice bo n c) /\ OL QV 3 X w.heap.size 38 w' bo c l) := by
  subst hn
  go_enter Tryz.func160, Tryz.ntmps160
  go_wp2_with (at_builtin; refine st_copy slRat rfl QV.elem hX l rfl rfl rfl hs (by omega) (by omega) ?_; intro a2 c2 w2 hC hE2)
  go_ret
  exact ⟨hE2, a2, c2, rfl, hC⟩
set_option maxRecDepth 100000 in
set_option maxHeartbeats 1600000 in
theorem iwith (X : Nat -> Bool) (w : World) (u v : Value) (l : List Rat) (z : Rat) (hX : HX X w) (hu : RV (mk X w) u l) (hv : QV (mk X w) v z) (hl : l.length <= 1000) :
    Calls Tryz.prog 139 #[u, v] w (ROut X w RV (l ++ [z])) := by
  obtain ⟨ao, ca, rfl, hca, hsa⟩ := hu
  obtain ⟨n, hn⟩ : ∃ n, l.length = n := ⟨_, rfl⟩
  rw [hn] at hca hl |-
  have hn' := hid hn
  obtain ⟨s1, a1, n1, c1, d1, k1, e1, rfl⟩ := hv.shape
  obtain ⟨W, hW, hE, b0, hz⟩ := boxes1 w #[.bool s1, .slice a1 n1 c1, .slice d1 k1 e1] 38
  obtain ⟨b, hb⟩ : ∃ b, w.heap.size = b := ⟨_, rfl⟩
  rw [hb] at b0 hz
  have hEd : Ext W W.drew := (ExtX.refl W).drew
  have hEw := hE.trans hEd
  have hsd := hid (hsa.mono QV.mono (mk_ext hEw))
  have hvd := hid (mkx QV.mono hv hEw)
  have hXd : HX X W.drew := hX.ext hEw
  have bd := b0.ext0 hEd
  have hwS : W.drew.cell? ⟨b, 0, none⟩ = some (.bool s1) /\ W.drew.cell? ⟨b, 1, none⟩ = some (.slice a1 n1 c1) /\ W.drew.cell? ⟨b, 2, none⟩ = some (.slice d1 k1 e1) := ⟨bd.cell 0 rfl, bd.cell 1 rfl, bd.cell 2 rfl⟩
  clear hn hsa hv b0 bd
  go_enter Tryz.func139, Tryz.ntmps139
  go_upto_region 1 with fail
  refine wp_region_K 5 (fun w' => w'.cell? ⟨b, 0, none⟩ = some (.bool s1) /\ w'.cell? ⟨b, 1, none⟩ = some (.slice a1 n1 c1) /\ w'.cell? ⟨b, 2, none⟩ = some (.slice d1 k1 e1)) (by kernel_rfl) (by kernel_rfl) hwS (fun hHeld hOnce => ?_)
  clear hwS
  obtain ⟨W3, hW3⟩ : ∃ W3, W.drew = W3 := ⟨_, rfl⟩
  rw [hW3] at hHeld hEw hsd hvd hXd |-
  have hblt : b < W3.heap.size := cell_lt hHeld.1
  clear hW3 hW hEd
  refine kt 0 hOnce ?_
  refine kt 2 hOnce ?_
  refine wpAnyK_two (i := 1) (j := 3) (oi := ⟨_, _, _, _, _, _⟩) (oj := ⟨_, _, _, _, _, _⟩) (by kernel_rfl) rfl rfl (fun K hK => ?pa) (fun K hK => ?pb)
  case' pa =>
    go_simp
    (refine (copyRat_any X ao l n ca W3 hn'.out hsd.out (by omega) hXd).mono ?_; rintro e w4 ⟨hE4, bo, bc, rfl, hO4⟩)
    refine kcn hK ⟨hE4.cell hHeld.1, hE4.cell hHeld.2.1, hE4.cell hHeld.2.2⟩ (fun hHeld => ?_)
    clear hK K
    obtain ⟨w5, hw5, hE5, bz, hz5⟩ := boxes1 w4 #[.bool s1, .slice a1 n1 c1, .slice d1 k1 e1] 38
    refine ks 3 (fun K hK => ?_)
    go_simp
    skip
    refine kcn hK ⟨hE5.cell hHeld.1, hE5.cell hHeld.2.1, hE5.cell hHeld.2.2⟩ (fun hHeld => ?_)
    clear hK K
    have hO5 := hO4.ext0 QV.elem hE5
    have hE35 := hE4.trans hE5
    have hg : ∀ k, ob bo k = true -> k ≠ w4.heap.size := fun k hk => Nat.ne_of_lt (hO4.block hk).2
    have hgx : X w4.heap.size = false := by
      cases h : X w4.heap.size with
      | false => rfl
      | true => exact absurd ((hXd.ext hE4) _ h) (Nat.lt_irrefl _)
    obtain ⟨g, hgg⟩ : ∃ g, w4.heap.size = g := ⟨_, rfl⟩
    rw [hgg] at bz hg hgx
    (try rw [hgg])
    clear hw5 hgg hz5
  case' pb =>
    obtain ⟨w4, hw4, hE4, bz0, hz4⟩ := boxes1 W3 #[.bool s1, .slice a1 n1 c1, .slice d1 k1 e1] 38
    go_simp
    skip
    refine kcn hK ⟨hE4.cell hHeld.1, hE4.cell hHeld.2.1, hE4.cell hHeld.2.2⟩ (fun hHeld => ?_)
    clear hK K
    clear hw4
    refine ks 1 (fun K hK => ?_)
    go_simp
    (refine (copyRat_any X ao l n ca w4 hn'.out (hsd.out.mono QV.mono (mk_ext hE4)) (by omega) (hXd.ext hE4)).mono ?_; rintro e w5 ⟨hE5, bo, bc, rfl, hO5'⟩)
    refine kcn hK ⟨hE5.cell hHeld.1, hE5.cell hHeld.2.1, hE5.cell hHeld.2.2⟩ (fun hHeld => ?_)
    clear hK K
    have bz := bz0.ext0 hE5
    have hO5 := hO5'.base_le (b' := W3.heap.size) hE4.size
    have hE35 := hE4.trans hE5
    have hg : ∀ k, ob bo k = true -> k ≠ W3.heap.size := fun k hk => by have := (hO5'.block hk).1; omega
    have hgx : X W3.heap.size = false := by
      cases h : X W3.heap.size with
      | false => rfl
      | true => exact absurd (hXd _ h) (Nat.lt_irrefl _)
    obtain ⟨g, hgg⟩ : ∃ g, W3.heap.size = g := ⟨_, rfl⟩
    rw [hgg] at bz hg hgx
    (try rw [hgg])
    clear hgg hz4 hO5' bz0
  all_goals
    have hbf : ob bo b = false := hO5.ob_lt hblt
    have hgu : un X bo g = false := by
      simp only [un, hgx, Bool.false_or]
      cases h : ob bo g with
      | false => rfl
      | true => exact absurd rfl (hg g h)
    have hv5 := old_un QV.mono hvd.out hE35 (fun k hk => hO5.ob_lt (base := W3.heap.size) hk)
    have hsz := sl_box (Y := un X bo) (u := .agg #[.bool s1, .slice a1 n1 c1, .slice d1 k1 e1]) bz hgu hv5 rfl
    refine ks 4 (fun K hK => ?_)
    (refine step_appendl13 (l := l) rfl rfl slRat rfl QV.elem hE35.size (hXd.ext hE35) [z] n 1 hn'.out rfl rfl rfl hO5 hsz (by omega) (by omega) ?_; intro bo2 bc2 w6 hO6 hE6 hor)
    refine kcn hK ⟨hE6.cellY hHeld.1 hbf, hE6.cellY hHeld.2.1 hbf, hE6.cellY hHeld.2.2 hbf⟩ (fun hHeld => ?_)
    clear hK K
    refine kl 5 (fun K hK => ?_)
    go_simp
    refine hK.out _ _ ?_
    clear hK K
    have hE36 := hE35.own hO5 (Nat.le_refl _) hE6
    have hln : (l ++ [z]).length = n + 1 := by simp [hn'.out]
    have hcc := hO6.lenCap
    rw [hln] at hcc
    have hsl := hO6.sl QV.elem
    go_wp2_with fail
    go_ret
    exact ⟨hEw.trans hE36, _, rfl, bo2, bc2, by rw [hln]; rfl, by rw [hln]; exact hcc, hsl⟩
theorem stLoc : StructT Tryz.prog 28 2 := by
  have h : (Tryz.prog.info? 28).map (fun i => (i.zero, i.size, i.bytes)) = some (some (.agg #[.int .i64 0, .int .i64 0]), 2, 16) := by kernel_rfl
  obtain ⟨ti, h1, _, h2, _⟩ := info_parts h
  exact ⟨_, ti, Tryz.underlying28, h1, h2⟩
set_option maxRecDepth 100000 in
set_option maxHeartbeats 1600000 in
theorem infval (X : Nat -> Bool) (w : World) (u : Value) (k t : Int) (l : List Rat) (B : Nat) (hX : HX X w) (hu : RV (mk X w) u l) (hk : knownL k t) (hf : fitsL k t l.length) (hl : l.length <= 20) (hB : BR B l) (hBB : B <= 1000000000) :
    Calls Tryz.prog 87 #[.agg #[.int .i64 k, .int .i64 t], u] w (ROut X w QC (estL k t l)) := by
  have hr := rk_ok hk hf
  obtain ⟨W, hW, hE, b0, b1, hz⟩ := boxes2 w #[.int .i64 k, .int .i64 t] #[.bool false, .slice none 0 0, .slice none 0 0] 28 38
  have hXW : HX (hidB X w.heap.size 2) W := hX.boxes hz
  have hu1 := RV.mono _ _ _ _ (le_boxes (nb := 2) hE) hu
  obtain ⟨b, hb⟩ : ∃ b, w.heap.size = b := ⟨_, rfl⟩
  have hbw : w.heap.size <= b := by omega
  rw [hb] at b0 b1 hz hXW hu1
  obtain ⟨Z, hZ⟩ : ∃ Z, hidB X b 2 = Z := ⟨_, rfl⟩
  rw [hZ] at hXW hu1
  have hso := hid fun w' (h : Ext W w') => isorted Z w' u l (hXW.ext h) (mkx RV.mono hu1 h) hl (fun q hq => Nat.le_trans (hB q hq) (by omega))
  have hra := iranks W k t l.length (by omega) hk hf
  have hwb := winL_br (srt_br hB) (rkA k t l.length) (rkB k t l.length)
  have hwl := winL_len (s := srt l) (a := rkA k t l.length) (b := rkB k t l.length) (by rw [srt_len]; exact hr.2)
  have hws := hid (winL_sub (srt l) (rkA k t l.length) (rkB k t l.length))
  have hsb := hid (sumL_hq (n := 20) hwb (by omega))
  have hes : Hid (sumL (winL (srt l) (rkA k t l.length) (rkB k t l.length)) / (((rkB k t l.length - rkA k t l.length : Nat) : Int) : Rat) = estL k t l) := hid rfl
  obtain ⟨q, hq⟩ : ∃ q, estL k t l = q := ⟨_, rfl⟩
  rw [hq] at hes |-
  have hsl := hid (srt_len l)
  obtain ⟨wl, hwl'⟩ : ∃ wl, winL (srt l) (rkA k t l.length) (rkB k t l.length) = wl := ⟨_, rfl⟩
  rw [hwl'] at hwl hws hsb hes hwb
  obtain ⟨S, hS⟩ : ∃ S, srt l = S := ⟨_, rfl⟩
  rw [hS] at hsl hws hso
  obtain ⟨A, hA⟩ : ∃ A, rkA k t l.length = A := ⟨_, rfl⟩
  obtain ⟨C, hC⟩ : ∃ C, rkB k t l.length = C := ⟨_, rfl⟩
  rw [hA, hC] at hr hra hwl hws hes
  obtain ⟨ao, ca, rfl, hca, hsa⟩ := hu
  obtain ⟨n, hn⟩ : ∃ n, l.length = n := ⟨_, rfl⟩
  rw [hn] at hr hra hso hsl hca hl |-
  have hwl2 := hid hwl
  have e1 : IntKind.i64.wrap ((A : Int) + 1 - 1) = (A : Int) := by rw [IntWalk.i64_in _ (by omega)]; omega
  have e2 : IntKind.i64.wrap ((C : Int) - ((A : Int) + 1)) = (C : Int) - ((A : Int) + 1) := IntWalk.i64_in _ (by omega)
  have e3 : IntKind.i64.wrap ((C : Int) - ((A : Int) + 1) + 1) = ((C - A : Nat) : Int) := by rw [IntWalk.i64_in _ (by omega)]; omega
  have k0 : W.cell? ⟨b, 0, none⟩ = some (.int .i64 k) := b0.cell 0 rfl
  have k1 : W.cell? ⟨b, 1, none⟩ = some (.int .i64 t) := b0.cell 1 rfl
  have hwb' := hid hwb
  clear hn hS hA hC hwl' hwl hq hu1 hsa hwb hB hf hk
  go_enter Tryz.func87, Tryz.ntmps87
  go_upto_region 2 with (first | (go_at_call 97; refine hra.mono ?_; rintro ee w1 ⟨hE1, rfl⟩))
  have hso1 := hso.out w1 hE1
  clear hso hra k0 k1
  go_wp2_with (first | (go_at_call 71; refine hso1.mono ?_; rintro ee w2 ⟨hE2, oo, co, rfl, hO⟩; have hcc := hO.lenCap; rw [hsl.out] at hcc; have f1 : ∀ W, (Instr.sliceAt 25 (.slice oo n co) (some (.int .i64 (A : Int))) (some (.int .i64 (C : Int))) none).run Tryz.prog W = .ok (.slice (subAddr oo A co 3) (C - A) (co - A)) W := run_slice_ij slRat n co .i64 .i64 A C (by omega) (by omega)))
  have hXW2 := (hXW.ext hE1).ext hE2
  have hsl3 := (hO.sl QC.elem).sub A C co (by omega) (by omega) (by rw [hsl.out]; omega)
  rw [<- hws.out] at hsl3
  have hrv : RV (mk Z w2) (.slice (subAddr oo A co 3) (C - A) (co - A)) wl := ⟨_, _, by rw [hwl2.out], by rw [hwl2.out]; omega, hsl3.qv (fun q hq => Nat.le_trans (hwb'.out q hq) (by omega))⟩
  have hsm := esum_any Z w2 _ wl hXW2 hrv (by rw [hwl2.out]; omega) (fun j hj => Nat.le_trans (hsb.out j hj) (by omega))
  rw [show sm wl.length (fn wl) = sumL wl from rfl] at hsm
  have hsq : Hid (hq (sumL wl) <= 68719476736) := hid (Nat.le_trans (hsb.out wl.length (Nat.le_refl _)) (by omega))
  have hkq : Hid (hq ((((C - A : Nat) : Int)) : Rat) <= 68719476736) := hid (Nat.le_trans (hq_int _ 1 (by
    rw [Int.natAbs_natCast, lg_one_iff (by omega) (by omega)]; exact Nat.le_refl _) (Nat.le_refl _)) (by decide))
  obtain ⟨D, hD⟩ : ∃ D, sumL wl = D := ⟨_, rfl⟩
  rw [hD] at hsm hsq hes
  clear hrv hsl3 hO f1 hD hwb' hsb hws
  go_wp2_with (first
    | (go_at_call 156; refine hsm.mono ?_; rintro ee w3 ⟨hE3, u3, rfl, hu3⟩; obtain ⟨s3, a3, n3, c3, d3, k3, e3', rfl⟩ := hu3.shape)
    | (go_at_call 73; (with_reducible refine (qfrom Z w3 ((C - A : Nat) : Int) (hXW2.ext hE3) (by omega) (by omega)).mono ?_); rintro ee w4 ⟨hE4, u4, rfl, hu4⟩; obtain ⟨s4, a4, n4, c4, d4, k4, e4, rfl⟩ := hu4.shape)
    | (go_at_call 123; (with_reducible refine (equot Z w4 _ _ _ _ ((hXW2.ext hE3).ext hE4) ((mkx QC.mono hu3 hE4).qv hsq.out) (hu4.qv hkq.out)).mono ?_); rintro ee w5 ⟨hE5, u5, rfl, hu5⟩; rw [hes.out] at hu5; obtain ⟨s5, a5, n5, c5, d5, k5, e5, rfl⟩ := hu5.shape; have b15 := b1.ext0 (hE1.trans (hE2.trans (hE3.trans (hE4.trans hE5)))))
    | ((with_reducible show wpList _ _ _ (⟨_, .store _ _ _, _, _, _, _⟩ :: _) _ _); refine st_storeBox stRat rfl rfl b15 rfl rfl (one3 _ _ _ _ _ _ _) ?_; intro w6 r1 r2))
  rw [<- hZ] at hu5
  have h6 := QC.mono _ _ _ _ le_unbox (QC.mono _ _ _ _ (le_store r2 (by omega) (by omega)) hu5)
  exact bodyPost_ret (results_box rfl rfl stRat r1 rfl) rfl ⟨ExtX.box (hE.trans (hE1.trans (hE2.trans (hE3.trans (hE4.trans hE5))))) r2 (by omega), _, rfl, h6⟩
end Go.Proofs.YtgimdkjgaemcbaaGreat
namespace Go.Lin
open Go.Lim
def ddS (out : List Rat) (v : Rat) : List Rat := if out.getLast? = some v then out else out ++ [v]
def dd (s : List Rat) : List Rat := s.foldl ddS []
theorem dd_snoc (s : List Rat) (v : Rat) : dd (s ++ [v]) = ddS (dd s) v := by simp [dd, List.foldl_append]
theorem ddS_last (o : List Rat) (v : Rat) : (ddS o v).getLast? = some v := by
  unfold ddS; split
  · assumption
  · simp
theorem dd_facts : ∀ (n : Nat) (s : List Rat), s.length = n -> s.Pairwise (· <= ·) -> (∀ x, x ∈ dd s ↔ x ∈ s) /\ (dd s).Pairwise (· < ·) /\ (dd s).getLast? = s.getLast?
  | 0, s, h, _ => by
    obtain rfl : s = [] := List.length_eq_zero_iff.1 h
    simp [dd]
  | n + 1, s, h, hp => by
    rcases List.eq_nil_or_concat s with rfl | ⟨s', v, rfl⟩
    · simp at h
    · rw [List.concat_eq_append] at *
      rw [List.pairwise_append] at hp
      obtain ⟨h1, h2, h3⟩ := dd_facts n s' (by simpa using h) hp.1
      rw [dd_snoc]
      refine ⟨fun x => ?_, ?_, by rw [ddS_last]; simp⟩
      · unfold ddS
        split
        · rename_i e
          rw [h1, List.mem_append, List.mem_singleton]
          refine ⟨Or.inl, fun hx => ?_⟩
          rcases hx with hx | rfl
          · exact hx
          · exact (h1 _).1 (List.mem_of_getLast? e)
        · rw [List.mem_append, List.mem_append, h1]
      · unfold ddS
        split
        · exact h2
        · rename_i e
          rw [List.pairwise_append]
          refine ⟨h2, List.pairwise_singleton _ _, fun a ha b hb => ?_⟩
          obtain rfl := List.mem_singleton.1 hb
          have hle := hp.2.2 a ((h1 a).1 ha) b (List.mem_singleton.2 rfl)
          rcases Rat.le_iff_lt_or_eq.1 hle with hl | rfl
          · exact hl
          · exfalso
            obtain ⟨c, hc⟩ : ∃ c, (dd s').getLast? = some c := by
              cases hd : (dd s').getLast? with
              | none => rw [List.getLast?_eq_none_iff] at hd; rw [hd] at ha; simp at ha
              | some c => exact ⟨c, rfl⟩
            have hcl : c <= a := hp.2.2 c ((h1 c).1 (List.mem_of_getLast? hc)) a (List.mem_singleton.2 rfl)
            have hca : c ≠ a := fun h => e (h ▸ hc)
            obtain ⟨i, hi, hia⟩ := List.getElem_of_mem ha
            have hcl2 : (dd s')[(dd s').length - 1]'(by omega) = c := by
              have := hc
              rw [List.getLast?_eq_getElem?, List.getElem?_eq_getElem (by omega)] at this
              simpa using this
            rcases Nat.lt_or_ge i ((dd s').length - 1) with hlt | hge
            · have := List.pairwise_iff_getElem.1 h2 i ((dd s').length - 1) hi (by omega) hlt
              rw [hia, hcl2] at this
              exact absurd hcl (Rat.not_le.2 this)
            · have hie : i = (dd s').length - 1 := by omega
              subst hie
              exact hca (by rw [<- hcl2, hia])
theorem part_at : ∀ (s : List Rat) (_ : s.Pairwise (· <= ·)) (v : Rat), ∃ c, c <= s.length /\ (∀ x ∈ s.take c, x < v) /\ ∀ x ∈ s.drop c, v <= x
  | [], _, v => ⟨0, Nat.le_refl _, by simp, by simp⟩
  | a :: s, h, v => by
    rw [List.pairwise_cons] at h
    by_cases ha : a < v
    · obtain ⟨c, h1, h2, h3⟩ := part_at s h.2 v
      refine ⟨c + 1, by simpa using h1, fun x hx => ?_, fun x hx => h3 x (by simpa using hx)⟩
      rw [List.take_succ_cons, List.mem_cons] at hx
      rcases hx with rfl | hx
      · exact ha
      · exact h2 x hx
    · refine ⟨0, Nat.zero_le _, by simp, fun x hx => ?_⟩
      have hav := Rat.not_lt.1 ha
      rw [List.drop_zero, List.mem_cons] at hx
      rcases hx with rfl | hx
      · exact hav
      · exact Rat.le_trans hav (h.1 x hx)
def loE (e : List Rat) (i : Nat) : Option Rat := if i = 0 then none else some (fn e (i - 1))
def hiE (e : List Rat) (i : Nat) : Option Rat := if i = e.length then none else some (fn e i)
def ptP (e : List Rat) (i : Nat) : Rat := if i = 0 then fn e 0 else fn e (i - 1)
def ptQ (e : List Rat) (i : Nat) : Rat := if i = 0 then fn e 0 - 1 else if i = e.length then fn e (i - 1) + 1 else fn e i
def pcE (f : Rat -> Rat) (e : List Rat) (i : Nat) : Pc := ⟨loE e i, hiE e i, lineA f (ptP e i) (ptQ e i), lineB f (ptP e i) (ptQ e i)⟩
def inP (p : Pc) (z : Rat) : Prop := (∀ v, p.lo = some v -> v <= z) /\ (∀ v, p.hi = some v -> z <= v)
theorem fn_lt {e : List Rat} {i : Nat} (h : i < e.length) : fn e i = e[i] := by simp [fn, List.getD_eq_getElem?_getD, h]
theorem fn_asc {e : List Rat} (h : e.Pairwise (· < ·)) {i j : Nat} (hij : i < j) (hj : j < e.length) : fn e i < fn e j := by
  rw [fn_lt hj, fn_lt (by omega)]; exact List.pairwise_iff_getElem.1 h i j (by omega) hj hij
theorem pt_in {f : Rat -> Rat} {e : List Rat} (he : e.Pairwise (· < ·)) (hn : 1 <= e.length) {i : Nat} (hi : i <= e.length) :
    inP (pcE f e i) (ptP e i) /\ inP (pcE f e i) (ptQ e i) /\ ptP e i ≠ ptQ e i /\ ∀ u v, loE e i = some u -> hiE e i = some v -> u <= v := by
  unfold inP pcE loE hiE ptP ptQ
  by_cases h0 : i = 0
  · subst h0
    simp only [if_true, if_neg (show ¬ (0 = e.length) by omega)]
    refine ⟨⟨by simp, by simp⟩, ⟨by simp, by simp; grind⟩, by grind, by simp⟩
  · simp only [if_neg h0]
    by_cases h1 : i = e.length
    · subst h1
      simp only [if_true]
      refine ⟨⟨by simp, by simp⟩, ⟨by simp; grind, by simp⟩, by grind, by simp⟩
    · simp only [if_neg h1]
      have := fn_asc he (show i - 1 < i by omega) (show i < e.length by omega)
      have hle : fn e (i - 1) <= fn e i := Rat.le_of_lt this
      refine ⟨⟨by simp, by simpa using hle⟩, ⟨by simpa using hle, by simp⟩, by grind, ?_⟩
      intro u v hu hv
      simp at hu hv
      subst hu; subst hv; exact hle
theorem btw_piece {l : List Rat} {f : Rat -> Rat} {i : Nat} (hi : i <= (dd (srt l)).length) : ∃ c, c <= l.length /\ ∀ z, inP (pcE f (dd (srt l)) i) z -> Btw (srt l) c z := by
  obtain ⟨h1, h2, _⟩ := dd_facts _ (srt l) rfl (srt_pw l)
  have low : ∀ x ∈ srt l, (i = (dd (srt l)).length \/ x < fn (dd (srt l)) i) -> ∀ z, inP (pcE f (dd (srt l)) i) z -> x <= z := by
    intro x hx hlt z hz
    obtain ⟨j, hj, rfl⟩ := List.getElem_of_mem ((h1 x).2 hx)
    have hji : j < i := by
      rcases hlt with h | h
      · omega
      · rcases Nat.lt_or_ge j i with h' | h'
        · exact h'
        · exfalso
          rw [<- fn_lt hj] at h
          rcases Nat.lt_or_ge i j with h'' | h''
          · exact absurd (Rat.le_of_lt (fn_asc h2 h'' hj)) (Rat.not_le.2 h)
          · have : i = j := by omega
            subst this; exact absurd h (Rat.lt_irrefl)
    have hle : fn (dd (srt l)) (i - 1) <= z := hz.1 _ (by simp [pcE, loE, show i ≠ 0 by omega])
    rw [<- fn_lt hj]
    rcases Nat.lt_or_ge j (i - 1) with h | h
    · exact Rat.le_trans (Rat.le_of_lt (fn_asc h2 h (by omega))) hle
    · rw [show j = i - 1 by omega]; exact hle
  by_cases him : i = (dd (srt l)).length
  · refine ⟨l.length, Nat.le_refl _, fun z hz => ⟨fun x hx => low x (List.mem_of_mem_take hx) (Or.inl him) z hz, fun x hx => ?_⟩⟩
    rw [List.drop_of_length_le (by rw [srt_len]; exact Nat.le_refl _)] at hx
    simp at hx
  · obtain ⟨c, g1, g2, g3⟩ := part_at (srt l) (srt_pw l) (fn (dd (srt l)) i)
    rw [srt_len] at g1
    refine ⟨c, g1, fun z hz => ⟨fun x hx => low x (List.mem_of_mem_take hx) (Or.inr (g2 x hx)) z hz, fun x hx => ?_⟩⟩
    exact Rat.le_trans (hz.2 _ (by simp [pcE, hiE, him])) (g3 x hx)
def mstep (out : List Pc) (p : Pc) : List Pc :=
  match out.getLast? with
  | some o => if o.a = p.a /\ o.b = p.b then out.dropLast ++ [{ o with hi := p.hi }] else out ++ [p]
  | none => [p]
def rawP (f : Rat -> Rat) (e : List Rat) (n : Nat) : List Pc := (List.range n).map (pcE f e)
def mrgP (f : Rat -> Rat) (e : List Rat) (n : Nat) : List Pc := (rawP f e n).foldl mstep []
theorem mrgP_more (f : Rat -> Rat) (e : List Rat) (n : Nat) : mrgP f e (n + 1) = mstep (mrgP f e n) (pcE f e n) := by simp [mrgP, rawP, List.range_succ, List.foldl_append]
def crvL (k t : Int) (l : List Rat) : List Pc := mrgP (fun z => estL k t (l ++ [z])) (dd (srt l)) ((dd (srt l)).length + 1)
structure Chn (f : Rat -> Rat) (out : List Pc) (h : Option Rat) : Prop where
  ne : out ≠ []
  first : ∀ p, out[0]? = some p -> p.lo = none
  last : ∀ p, out.getLast? = some p -> p.hi = h
  link : ∀ i p q, out[i]? = some p -> out[i + 1]? = some q -> ∃ v, p.hi = some v /\ q.lo = some v /\ p.a + p.b * v = q.a + q.b * v /\ ¬ (p.a = q.a /\ p.b = q.b)
  on : ∀ p ∈ out, ∀ z, inP p z -> f z = p.a + p.b * z
  ord : ∀ p ∈ out, ∀ u v, p.lo = some u -> p.hi = some v -> u <= v
theorem chn_step {f : Rat -> Rat} {out : List Pc} {v : Rat} (h : Chn f out (some v)) (p : Pc) (hlo : p.lo = some v) (hon : ∀ z, inP p z -> f z = p.a + p.b * z) (ho : ∀ u, p.hi = some u -> v <= u) : Chn f (mstep out p) p.hi := by
  obtain ⟨o, hl⟩ : ∃ o, out.getLast? = some o := by
    cases hd : out.getLast? with
    | none => exact absurd (List.getLast?_eq_none_iff.1 hd) h.ne
    | some o => exact ⟨o, rfl⟩
  obtain ⟨out', rfl⟩ : ∃ out', out = out' ++ [o] := by
    refine ⟨out.dropLast, ?_⟩
    rw [List.getLast?_eq_some_getLast h.ne] at hl
    have := List.dropLast_concat_getLast h.ne
    simp only [Option.some.injEq] at hl
    rw [hl] at this
    exact this.symm
  have hoh : o.hi = some v := h.last o (by simp)
  have hio : inP o v := ⟨fun u hu => h.ord o (by simp) u v hu hoh, fun u hu => by rw [hoh] at hu; simp at hu; subst hu; exact Rat.le_refl⟩
  have hip : inP p v := ⟨fun u hu => by rw [hlo] at hu; simp at hu; subst hu; exact Rat.le_refl, ho⟩
  have hag : o.a + o.b * v = p.a + p.b * v := by rw [<- h.on o (by simp) v hio, hon v hip]
  unfold mstep
  rw [hl]
  by_cases he : o.a = p.a /\ o.b = p.b
  · simp only [if_pos he, List.dropLast_concat]
    refine ⟨by simp, fun q hq => ?_, fun q hq => by simp at hq; subst hq; rfl, fun i q r hq hr => ?_, fun q hq z hz => ?_, fun q hq u u' hu hu' => ?_⟩
    · cases out' with
      | nil => simp at hq; subst hq; exact h.first o (by simp)
      | cons a t => exact h.first q (by simpa using hq)
    · have hlt : i + 1 < (out' ++ [({ o with hi := p.hi } : Pc)]).length := (List.getElem?_eq_some_iff.1 hr).1
      rw [List.length_append, List.length_singleton] at hlt
      have hq' : (out' ++ [o])[i]? = some q := by
        rw [List.getElem?_append_left (by omega)] at hq |-; exact hq
      by_cases hi : i + 1 < out'.length
      · exact h.link i q r hq' (by rw [List.getElem?_append_left hi] at hr |-; exact hr)
      · have hi' : i + 1 = out'.length := by omega
        have hr2 : r = { o with hi := p.hi } := by rw [hi'] at hr; simpa using hr.symm
        obtain ⟨v', a1, a2, a3, a4⟩ := h.link i q o hq' (by rw [hi']; simp)
        subst hr2
        exact ⟨v', a1, a2, a3, a4⟩
    · rw [List.mem_append, List.mem_singleton] at hq
      rcases hq with hq | rfl
      · exact h.on q (by simp [hq]) z hz
      · rcases Rat.le_total (a := z) (b := v) with hzv | hzv
        · exact h.on o (by simp) z ⟨hz.1, fun u hu => by rw [hoh] at hu; simp at hu; subst hu; exact hzv⟩
        · show f z = o.a + o.b * z
          rw [he.1, he.2]
          exact hon z ⟨fun u hu => by rw [hlo] at hu; simp at hu; subst hu; exact hzv, hz.2⟩
    · rw [List.mem_append, List.mem_singleton] at hq
      rcases hq with hq | rfl
      · exact h.ord q (by simp [hq]) u u' hu hu'
      · exact Rat.le_trans (hio.1 u hu) (ho u' hu')
  · simp only [if_neg he]
    refine ⟨by simp, fun q hq => ?_, fun q hq => by simp at hq; subst hq; rfl, fun i q r hq hr => ?_, fun q hq z hz => ?_, fun q hq u u' hu hu' => ?_⟩
    · exact h.first q (by rw [List.getElem?_append_left (by simp)] at hq; exact hq)
    · have hlt : i + 1 < (out' ++ [o] ++ [p]).length := (List.getElem?_eq_some_iff.1 hr).1
      simp only [List.length_append, List.length_singleton] at hlt
      rw [List.getElem?_append_left (by simp; omega)] at hq
      by_cases hi : i + 1 < (out' ++ [o]).length
      · rw [List.getElem?_append_left hi] at hr
        exact h.link i q r hq hr
      · have hi' : i = out'.length := by simp at hi; omega
        subst hi'
        have hq2 : o = q := by simpa using hq
        have hr2 : p = r := by
          rw [List.getElem?_append_right (by simp)] at hr
          simpa using hr
        subst hq2; subst hr2
        exact ⟨v, hoh, hlo, hag, he⟩
    · rw [List.mem_append, List.mem_singleton] at hq
      rcases hq with hq | rfl
      · exact h.on q hq z hz
      · exact hon z hz
    · rw [List.mem_append, List.mem_singleton] at hq
      rcases hq with hq | rfl
      · exact h.ord q hq u u' hu hu'
      · rw [hlo] at hu; simp at hu; subst hu; exact ho u' hu'
theorem chn_mrg {f : Rat -> Rat} {e : List Rat} (he : e.Pairwise (· < ·)) (hn : 1 <= e.length) (hon : ∀ i, i <= e.length -> ∀ z, inP (pcE f e i) z -> f z = (pcE f e i).a + (pcE f e i).b * z) : ∀ j, j <= e.length -> Chn f (mrgP f e (j + 1)) (hiE e j)
  | 0, _ => by
    have e1 : mrgP f e 1 = [pcE f e 0] := rfl
    rw [e1]
    refine ⟨by simp, fun p hp => by simp at hp; subst hp; rfl, fun p hp => by simp at hp; subst hp; rfl, fun i p q _ hq => by simp at hq, fun p hp z hz => ?_, fun p hp u v hu _ => ?_⟩
    · rw [List.mem_singleton] at hp; subst hp; exact hon 0 (Nat.zero_le _) z hz
    · rw [List.mem_singleton] at hp; subst hp; simp [pcE, loE] at hu
  | j + 1, hj => by
    have ih := chn_mrg he hn hon j (by omega)
    have hh : hiE e j = some (fn e j) := by simp [hiE, show j ≠ e.length by omega]
    rw [hh] at ih
    rw [mrgP_more]
    refine chn_step ih (pcE f e (j + 1)) (by simp [pcE, loE]) (hon _ hj) fun u hu => ?_
    exact (pt_in (f := f) he hn hj).2.2.2 _ u (by simp [loE]) hu
theorem dd_ne {l : List Rat} (hl : l ≠ []) : 1 <= (dd (srt l)).length := by
  obtain ⟨h1, _, _⟩ := dd_facts _ (srt l) rfl (srt_pw l)
  cases l with
  | nil => exact absurd rfl hl
  | cons a t =>
    have : a ∈ dd (srt (a :: t)) := (h1 a).2 ((srt_perm _).mem_iff.2 (by simp))
    exact List.length_pos_of_mem this
theorem piece_line {k t : Int} {l : List Rat} (hk : knownL k t) (hf : fitsL k t (l.length + 1)) (hl : l ≠ []) {i : Nat} (hi : i <= (dd (srt l)).length) {c : Nat} (hc : c <= l.length)
    (hb : ∀ z, inP (pcE (fun z => estL k t (l ++ [z])) (dd (srt l)) i) z -> Btw (srt l) c z) :
    (pcE (fun z => estL k t (l ++ [z])) (dd (srt l)) i).a = lnA k t l c /\ (pcE (fun z => estL k t (l ++ [z])) (dd (srt l)) i).b = lnB k t l.length c := by
  obtain ⟨_, h2, _⟩ := dd_facts _ (srt l) rfl (srt_pw l)
  obtain ⟨p1, p2, p3, _⟩ := pt_in (f := fun z => estL k t (l ++ [z])) h2 (dd_ne hl) hi
  exact line_of (f := fun z => estL k t (l ++ [z])) (est_line hk hf hc (hb _ p1)) (est_line hk hf hc (hb _ p2)) p3
theorem crv_on {k t : Int} {l : List Rat} (hk : knownL k t) (hf : fitsL k t (l.length + 1)) (hl : l ≠ []) (i : Nat) (hi : i <= (dd (srt l)).length) (z : Rat) (hz : inP (pcE (fun z => estL k t (l ++ [z])) (dd (srt l)) i) z) :
    estL k t (l ++ [z]) = (pcE (fun z => estL k t (l ++ [z])) (dd (srt l)) i).a + (pcE (fun z => estL k t (l ++ [z])) (dd (srt l)) i).b * z := by
  obtain ⟨c, hc, hb⟩ := btw_piece (f := fun z => estL k t (l ++ [z])) hi
  obtain ⟨ha, hb'⟩ := piece_line hk hf hl hi hc hb
  rw [ha, hb']
  exact est_line hk hf hc (hb z hz)
theorem crv_chn {k t : Int} {l : List Rat} (hk : knownL k t) (hf : fitsL k t (l.length + 1)) (hl : l ≠ []) : Chn (fun z => estL k t (l ++ [z])) (crvL k t l) none := by
  obtain ⟨_, h2, _⟩ := dd_facts _ (srt l) rfl (srt_pw l)
  have := chn_mrg (f := fun z => estL k t (l ++ [z])) h2 (dd_ne hl) (crv_on hk hf hl) _ (Nat.le_refl _)
  rwa [show hiE (dd (srt l)) (dd (srt l)).length = none by simp [hiE]] at this
theorem mstep_last (out : List Pc) (p q : Pc) (h : (mstep out p).getLast? = some q) : q.a = p.a /\ q.b = p.b := by
  unfold mstep at h
  split at h
  · rename_i o ho
    split at h
    · rename_i he; simp at h; subst h; exact he
    · simp at h; subst h; exact ⟨rfl, rfl⟩
  · simp at h; subst h; exact ⟨rfl, rfl⟩
theorem mstep_head (out : List Pc) (p q o : Pc) (h : (mstep out p)[0]? = some q) (ho : out[0]? = some o) : q.a = o.a /\ q.b = o.b := by
  unfold mstep at h
  cases out with
  | nil => simp at ho
  | cons a t =>
    simp at ho; subst ho
    split at h
    · rename_i o ho
      split at h
      · cases t with
        | nil => simp at h ho; subst h; subst ho; exact ⟨rfl, rfl⟩
        | cons b t => simp at h; subst h; exact ⟨rfl, rfl⟩
      · simp at h; subst h; exact ⟨rfl, rfl⟩
    · rename_i hn; simp at hn
theorem mrgP_head (f : Rat -> Rat) (e : List Rat) : ∀ (j : Nat) (q : Pc), (mrgP f e (j + 1))[0]? = some q -> q.a = (pcE f e 0).a /\ q.b = (pcE f e 0).b
  | 0, q, h => by
    have e1 : mrgP f e 1 = [pcE f e 0] := rfl
    rw [e1] at h; simp at h; subst h; exact ⟨rfl, rfl⟩
  | j + 1, q, h => by
    rw [mrgP_more] at h
    cases ho : (mrgP f e (j + 1))[0]? with
    | none =>
      rw [mrgP_more] at ho
      exfalso
      unfold mstep at ho
      split at ho
      · split at ho <;> simp at ho
      · simp at ho
    | some o =>
      have h1 := mstep_head _ _ _ _ h ho
      have h2 := mrgP_head f e j o ho
      exact ⟨h1.1.trans h2.1, h1.2.trans h2.2⟩
theorem mrgP_one (f : Rat -> Rat) (e : List Rat) (n : Nat) (h : ∀ i, i <= n -> (pcE f e i).a = (pcE f e 0).a /\ (pcE f e i).b = (pcE f e 0).b) : ∀ j, j <= n -> (mrgP f e (j + 1)).length = 1
  | 0, _ => rfl
  | j + 1, hj => by
    have ih := mrgP_one f e n h j (by omega)
    obtain ⟨o, ho⟩ := List.length_eq_one_iff.1 ih
    have hh := mrgP_head f e j o (by rw [ho]; rfl)
    rw [mrgP_more, ho]
    unfold mstep
    simp only [List.getLast?_singleton, List.dropLast_singleton, List.nil_append]
    rw [if_pos ⟨by rw [hh.1, (h (j + 1) hj).1], by rw [hh.2, (h (j + 1) hj).2]⟩]
    rfl
theorem crv_first {k t : Int} {l : List Rat} (hk : knownL k t) (hf : fitsL k t (l.length + 1)) (hl : l ≠ []) (q : Pc) (h : (crvL k t l)[0]? = some q) : q.b = lnB k t l.length 0 := by
  obtain ⟨h1, h2, _⟩ := dd_facts _ (srt l) rfl (srt_pw l)
  have hb := (mrgP_head _ _ _ q h).2
  rw [hb]
  refine (piece_line hk hf hl (Nat.zero_le _) (Nat.zero_le _) fun z hz => ⟨by simp, fun x hx => ?_⟩).2
  have hz2 : z <= fn (dd (srt l)) 0 := hz.2 _ (by have := dd_ne hl; simp [pcE, hiE, show 0 ≠ (dd (srt l)).length by omega])
  obtain ⟨j, hj, rfl⟩ := List.getElem_of_mem ((h1 x).2 (by simpa using hx))
  rw [<- fn_lt hj]
  rcases Nat.eq_zero_or_pos j with rfl | h0
  · exact hz2
  · exact Rat.le_trans hz2 (Rat.le_of_lt (fn_asc h2 h0 hj))
theorem crv_last {k t : Int} {l : List Rat} (hk : knownL k t) (hf : fitsL k t (l.length + 1)) (hl : l ≠ []) (q : Pc) (h : (crvL k t l).getLast? = some q) : q.b = lnB k t l.length l.length := by
  obtain ⟨h1, h2, _⟩ := dd_facts _ (srt l) rfl (srt_pw l)
  have hd := dd_ne hl
  unfold crvL at h
  rw [mrgP_more] at h
  rw [(mstep_last _ _ _ h).2]
  refine (piece_line hk hf hl (Nat.le_refl _) (Nat.le_refl _) fun z hz => ⟨fun x hx => ?_, fun x hx => ?_⟩).2
  · have hz2 : fn (dd (srt l)) ((dd (srt l)).length - 1) <= z := hz.1 _ (by simp [pcE, loE, show (dd (srt l)).length ≠ 0 by omega])
    obtain ⟨j, hj, rfl⟩ := List.getElem_of_mem ((h1 x).2 (List.mem_of_mem_take hx))
    rw [<- fn_lt hj]
    rcases Nat.lt_or_ge j ((dd (srt l)).length - 1) with h0 | h0
    · exact Rat.le_trans (Rat.le_of_lt (fn_asc h2 h0 (by omega))) hz2
    · rw [show j = (dd (srt l)).length - 1 by omega]; exact hz2
  · rw [List.drop_of_length_le (by rw [srt_len]; exact Nat.le_refl _)] at hx
    simp at hx
theorem take_sum {s : List Rat} {n c : Nat} (h : s.length = n) : sumL (winL (s.take c ++ 0 :: s.drop c) 0 (n + 1)) = sumL s := by
  unfold winL
  rw [List.drop_zero, List.take_of_length_le (by simp; omega), sumL_app, sumL_cons]
  rw [show sumL (s.take c) + (0 + sumL (s.drop c)) = sumL (s.take c) + sumL (s.drop c) by grind, <- sumL_app, List.take_append_drop]
theorem crv_mean {k t : Int} {l : List Rat} (hk : knownL k t) (hf : fitsL k t (l.length + 1)) (hl : l ≠ []) (hA : rkA k t (l.length + 1) = 0) (hB : rkB k t (l.length + 1) = l.length + 1) :
    (crvL k t l).length = 1 /\ ∀ q, (crvL k t l)[0]? = some q -> q.b = 1 / (((l.length + 1 : Nat) : Int) : Rat) := by
  have hb : ∀ c, c <= l.length -> lnB k t l.length c = 1 / (((l.length + 1 : Nat) : Int) : Rat) := fun c hc => by
    unfold lnB; rw [hA, hB, if_pos ⟨Nat.zero_le _, by omega⟩, Nat.sub_zero]
  have ha : ∀ c, lnA k t l c = sumL (srt l) / (((l.length + 1 : Nat) : Int) : Rat) := fun c => by
    unfold lnA; rw [hA, hB, take_sum (srt_len l), Nat.sub_zero]
  have hp : ∀ i, i <= (dd (srt l)).length -> (pcE (fun z => estL k t (l ++ [z])) (dd (srt l)) i).a = sumL (srt l) / (((l.length + 1 : Nat) : Int) : Rat) /\ (pcE (fun z => estL k t (l ++ [z])) (dd (srt l)) i).b = 1 / (((l.length + 1 : Nat) : Int) : Rat) := fun i hi => by
    obtain ⟨c, hc, hb'⟩ := btw_piece (f := fun z => estL k t (l ++ [z])) hi
    have := piece_line hk hf hl hi hc hb'
    rw [ha c, hb c hc] at this
    exact this
  refine ⟨mrgP_one _ _ _ (fun i hi => ?_) _ (Nat.le_refl _), fun q hq => ?_⟩
  · rw [(hp i hi).1, (hp i hi).2, (hp 0 (Nat.zero_le _)).1, (hp 0 (Nat.zero_le _)).2]; exact ⟨rfl, rfl⟩
  · rw [crv_first hk hf hl q hq, hb 0 (Nat.zero_le _)]
theorem lnB_out {k t : Int} {n : Nat} (h0 : 1 <= rkA k t (n + 1)) (h1 : rkB k t (n + 1) <= n) : lnB k t n 0 = 0 /\ lnB k t n n = 0 := by
  unfold lnB
  rw [if_neg (by omega), if_neg (by omega)]
  exact ⟨by grind, by grind⟩
end Go.Lin
namespace Go
open Go.Rep
structure AS where
  op : Nat
  slot : Nat
  T : TypeId
  z : Array Value
def ptr (g : Nat) : Value := .pointer (some ⟨g, 0, none⟩)
def setA (B : Act) : List AS -> (Nat -> Value) -> Act
  | [], _ => B
  | a :: bs, ps => setA (B.put (some a.slot) (ps 0)) bs fun i => ps (i + 1)
theorem put_comm {a : Act} {i j : Nat} (h : i ≠ j) (v u : Value) : (a.put (some i) v).put (some j) u = (a.put (some j) u).put (some i) v := by
  simp only [Act.put]; rw [Array.setIfInBounds_comm _ _ h]
theorem put_put {a : Act} {i : Nat} (v u : Value) : (a.put (some i) v).put (some i) u = a.put (some i) u := by
  simp only [Act.put, Array.setIfInBounds_setIfInBounds]
theorem setA_put {s : Nat} {v : Value} : ∀ {bs : List AS} {B : Act} {ps : Nat -> Value}, (∀ a ∈ bs, a.slot ≠ s) -> (setA B bs ps).put (some s) v = setA (B.put (some s) v) bs ps
  | [], _, _, _ => rfl
  | a :: bs, B, ps, h => by
    show (setA (B.put (some a.slot) (ps 0)) bs fun i => ps (i + 1)).put (some s) v = setA ((B.put (some s) v).put (some a.slot) (ps 0)) bs fun i => ps (i + 1)
    rw [setA_put fun b hb => h b (List.mem_cons_of_mem _ hb), put_comm (h a List.mem_cons_self)]
theorem setA_set {u : Value} : ∀ {bs : List AS} {B : Act} {ps : Nat -> Value} {k : Nat} {a : AS}, bs.Pairwise (fun (a b : AS) => a.slot ≠ b.slot) -> bs[k]? = some a -> (setA B bs ps).put (some a.slot) u = setA B bs fun i => if i = k then u else ps i
  | [], _, _, _, _, _, h => by simp at h
  | b :: bs, B, ps, 0, a, hp, h => by
    simp at h; subst h
    rw [List.pairwise_cons] at hp
    show (setA (B.put (some b.slot) (ps 0)) bs fun i => ps (i + 1)).put (some b.slot) u = setA (B.put (some b.slot) u) bs fun i => ps (i + 1)
    rw [setA_put fun c hc => (hp.1 c hc).symm, put_put]
  | b :: bs, B, ps, k + 1, a, hp, h => by
    rw [List.pairwise_cons] at hp
    show (setA (B.put (some b.slot) (ps 0)) bs fun i => ps (i + 1)).put (some a.slot) u = setA (B.put (some b.slot) (ps 0)) bs fun i => if i + 1 = k + 1 then u else ps (i + 1)
    rw [setA_set hp.2 (by simpa using h)]
    congr 1
    funext i
    by_cases hi : i = k <;> simp [hi]
theorem upx {α : Type} {R : Mem -> Value -> α -> Prop} (hR : Mono R) {h h' : Mem} {u : Value} {x : α} (hl : Le h h') (hr : R h u x) : R h' u x := hR _ _ _ _ hl hr
def Up (Φ : Mem -> Prop) : Prop := ∀ h h', Le h h' -> Φ h -> Φ h'
section
variable (P : Program) (md : Region.Mode) (ops : Array Oper) (Q : Exit -> Act -> World -> Prop) (S : World -> Prop) (n fe : Nat) (le : Array Bool) (bs : List AS) (Z : Nat -> Bool) (W0 : World)
def ChG : List Nat -> Act -> (Mem -> Prop) -> Prop
  | [], B, Φ => ∀ M w (gs : Nat -> Nat), HX M w -> (∀ k, Z k = true -> M k = true) -> Ext W0 w -> Φ (mk M w) -> S w -> (∀ (i : Nat) (a : AS), bs[i]? = some a -> Bx w (gs i) a.z a.T /\ M (gs i) = true /\ W0.heap.size <= gs i) -> (∀ i j, i < j -> j < bs.length -> gs i ≠ gs j) ->
      wpAnyK P md ops Q S n fe le (setA B bs fun i => ptr (gs i)) w
  | c :: cs, B, Φ => Up Φ -> ∀ M w ps, HX M w -> (∀ k, Z k = true -> M k = true) -> Ext W0 w -> Φ (mk M w) -> S w ->
      wpOp P ops Q c (fun a' w' => ∃ (s : Nat) (v : Value) (Ψ : Mem -> Prop), (∀ a ∈ bs, a.slot ≠ s) /\ Ext w w' /\ Up Ψ /\ Ψ (mk M w') /\ a' = (setA B bs ps).put (some s) v /\ ChG cs (B.put (some s) v) Ψ) (setA B bs ps) w
end
def okC (md : Region.Mode) (ops : Array Oper) (le : Array Bool) : Nat -> Array Bool -> List Nat -> List Nat -> Bool
  | 0, l, cs, rem => cs.isEmpty && rem.isEmpty && decide (l = le)
  | f + 1, l, cs, rem => !(Region.ready md ops l).isEmpty && (Region.ready md ops l).all fun i =>
      (match cs with | c :: cs' => decide (i = c) && okC md ops le f (l.setIfInBounds i true) cs' rem | [] => false) || (rem.contains i && okC md ops le f (l.setIfInBounds i true) cs (rem.erase i))
section
variable {P : Program} {md : Region.Mode} {ops : Array Oper} {Q : Exit -> Act -> World -> Prop} {S : World -> Prop} {n fe : Nat} {le : Array Bool} {bs : List AS} {Z : Nat -> Bool} {W0 : World}
theorem good_step {c : Nat} {cs : List Nat} {B : Act} {Φ : Mem -> Prop} {s : Nat} {op : Op} {ty : TypeId} {pp : String} {af : Array Edge} {g : Option (Nat × Bool)}
    (h : ∀ M w ps, HX M w -> (∀ k, Z k = true -> M k = true) -> Ext W0 w -> Φ (mk M w) -> S w -> ∀ K : Act -> World -> Prop, Shut (∀ {α : Type} (R : Mem -> Value -> α -> Prop) (v : Value) (x : α) a' w', Mono R -> Ext w w' -> R (mk M w') v x -> a' = (setA B bs ps).put (some s) v ->
      ChG P md ops Q S n fe le bs Z W0 cs (B.put (some s) v) (fun h => Φ h /\ R h v x) -> K a' w') ->
      if Region.wanted ⟨some s, op, ty, pp, af, g⟩ (yielded ops (setA B bs ps).tmps) = true then Oper.wp P ⟨some s, op, ty, pp, af, g⟩ (setA B bs ps) w K Q else K ((setA B bs ps).put (some s) undef) w)
    (ho : ops[c]? = some ⟨some s, op, ty, pp, af, g⟩ := by rfl) (hs : (bs.all fun a => a.slot != s) = true := by decide) : ChG P md ops Q S n fe le bs Z W0 (c :: cs) B Φ := fun hU M w ps hX hZ hE hΦ hS => by
  refine wpOp_step ho fun K' hK => h M w ps hX hZ hE hΦ hS K' fun {α} R v x a' w' hR hE' hr ha hg => hK a' w' ⟨s, v, fun h => Φ h /\ R h v x, fun a ha => ?_, hE', fun h h' hl hh => ⟨hU _ _ hl hh.1, hR _ _ _ _ hl hh.2⟩, ⟨hU _ _ (mk_ext hE') hΦ, hr⟩, ha, hg⟩
  have := List.all_eq_true.1 hs a ha
  simpa using this
theorem chain_main (hS : ∀ w w', S w -> Ext w w' -> S w') (hp : bs.Pairwise fun (a b : AS) => a.slot ≠ b.slot) (hA : ∀ (i : Nat) (a : AS), bs[i]? = some a -> ∀ (K : Act -> World -> Prop) b w, K (b.put (some a.slot) (ptr w.heap.size)) (w.alloc (.cells a.z a.T)) -> wpOp P ops Q a.op K b w) :
    ∀ (f : Nat) (l : Array Bool) (cs rem : List Nat) (B : Act) (Φ : Mem -> Prop) (M : Nat -> Bool) (w : World) (ps : Nat -> Value) (gs : Nat -> Nat), okC md ops le f l cs rem = true -> rem.Nodup -> Up Φ -> HX M w -> (∀ k, Z k = true -> M k = true) -> Ext W0 w -> Φ (mk M w) -> S w ->
      (∀ (i : Nat) (a : AS), bs[i]? = some a -> (a.op ∈ rem \/ (ps i = ptr (gs i) /\ Bx w (gs i) a.z a.T /\ M (gs i) = true /\ W0.heap.size <= gs i))) ->
      (∀ (i j : Nat) (a b : AS), bs[i]? = some a -> bs[j]? = some b -> i < j -> a.op ∉ rem -> b.op ∉ rem -> gs i ≠ gs j) ->
      (∀ o ∈ rem, ∃ (i : Nat) (a : AS), bs[i]? = some a /\ a.op = o) -> (∀ (i j : Nat) (a b : AS), bs[i]? = some a -> bs[j]? = some b -> a.op = b.op -> i = j) ->
      ChG P md ops Q S n fe le bs Z W0 cs B Φ -> wpAnyK P md ops Q S n (f + fe) l (setA B bs ps) w := by
  intro f
  induction f with
  | zero =>
    intro l cs rem B Φ M w ps gs hok _ _ hX hZ hE hΦ hSw hd hne _ _ hg
    unfold okC at hok
    simp only [Bool.and_eq_true, List.isEmpty_iff, decide_eq_true_eq] at hok
    obtain ⟨⟨rfl, rfl⟩, rfl⟩ := hok
    have key : ∀ (i : Nat) (a : AS), bs[i]? = some a -> ps i = ptr (gs i) /\ Bx w (gs i) a.z a.T /\ M (gs i) = true /\ W0.heap.size <= gs i := fun i a ha => by
      rcases hd i a ha with h | h
      · simp at h
      · exact h
    have e : setA B bs ps = setA B bs fun i => ptr (gs i) := by
      have aux : ∀ (xs : List AS) (B : Act) (ps qs : Nat -> Value), (∀ i, i < xs.length -> ps i = qs i) -> setA B xs ps = setA B xs qs := by
        intro xs
        induction xs with
        | nil => intro _ _ _ _; rfl
        | cons a xs ih =>
          intro B ps qs h
          show setA (B.put (some a.slot) (ps 0)) xs _ = setA (B.put (some a.slot) (qs 0)) xs _
          rw [h 0 (by simp), ih _ _ _ fun i hi => h (i + 1) (by simpa using hi)]
      exact aux bs B ps _ fun i hi => (key i bs[i] (List.getElem?_eq_getElem hi)).1
    rw [e, Nat.zero_add]
    exact hg M w gs hX hZ hE hΦ hSw (fun i a ha => (key i a ha).2) fun i j hij hj => hne i j bs[i] bs[j] (List.getElem?_eq_getElem (by omega)) (List.getElem?_eq_getElem hj) hij (by simp) (by simp)
  | succ f ih =>
    intro l cs rem B Φ M w ps gs hok hnd hU hX hZ hE hΦ hSw hd hne hr hu hg
    unfold okC at hok
    simp only [Bool.and_eq_true, Bool.not_eq_true', List.all_eq_true, Bool.or_eq_true] at hok
    obtain ⟨hne0, hall⟩ := hok
    rw [Nat.add_right_comm]
    refine ⟨fun h0 => (by rw [h0] at hne0; cases hne0), fun i hi => ?_⟩
    rcases hall i hi with h1 | h1
    · cases cs with
      | nil => cases h1
      | cons c cs =>
        simp only [Bool.and_eq_true, decide_eq_true_eq] at h1
        obtain ⟨rfl, hok'⟩ := h1
        refine wpOp_mono ?_ (hg hU M w ps hX hZ hE hΦ hSw)
        rintro a' w' ⟨s, v, Ψ, hs, hE', hUp, hΨ, rfl, hg'⟩
        have hS' := hS _ _ hSw hE'
        refine ⟨fun _ => hS', ?_⟩
        rw [setA_put hs]
        exact ih _ cs rem _ Ψ M w' ps gs hok' hnd hUp (hX.ext hE') hZ (hE.trans hE') hΨ hS' (fun j a ha => (hd j a ha).imp id fun h => ⟨h.1, h.2.1.ext0 hE', h.2.2⟩) hne hr hu hg'
    · simp only [List.contains_iff_mem] at h1
      obtain ⟨hmem, hok'⟩ := h1
      obtain ⟨k, a, hka, rfl⟩ := hr i hmem
      refine hA k a hka _ _ _ ⟨fun _ => hS _ _ hSw ((ExtX.refl w).alloc _), ?_⟩
      have hEa : Ext w (w.alloc (.cells a.z a.T)) := (ExtX.refl w).alloc _
      have hbx := Bx.new w a.z a.T
      rw [setA_set hp hka]
      refine ih _ cs (rem.erase a.op) B Φ (un M (some ⟨w.heap.size, 0, none⟩)) _ (fun i => if i = k then ptr w.heap.size else ps i) (fun i => if i = k then w.heap.size else gs i) hok' (hnd.erase _) hU ?_ (fun q hq => un_left (hZ q hq)) (hE.trans hEa) (hU _ _ (le_fresh hEa (Nat.le_refl _)) hΦ) (hS _ _ hSw hEa) ?_ ?_ (fun o ho => hr o (List.mem_of_mem_erase ho)) hu hg
      · intro q hq
        simp only [un, Bool.or_eq_true] at hq
        rcases hq with h | h
        · exact (hX.ext hEa) q h
        · have : w.heap.size = q := by simpa [ob] using h
          rw [<- this]; exact hbx.lt
      · intro j b hb
        by_cases hj : j = k
        · subst hj
          rw [hka] at hb; cases hb
          exact Or.inr ⟨by simp, by simpa using hbx, by simp [un, ob], by simpa using hE.size⟩
        · simp only [if_neg hj]
          rcases hd j b hb with h | h
          · exact Or.inl ((List.mem_erase_of_ne fun e => hj (hu j k b a hb hka e)).2 h)
          · exact Or.inr ⟨h.1, h.2.1.ext0 hEa, un_left h.2.2.1, h.2.2.2⟩
      · intro p q x y hx hy hpq h1 h2
        have old : ∀ (j : Nat) (b : AS), bs[j]? = some b -> j ≠ k -> b.op ∉ rem.erase a.op -> gs j < w.heap.size /\ b.op ∉ rem := fun j b hb hj hn => by
          have hb' : b.op ∉ rem := fun h => hn ((List.mem_erase_of_ne fun e => hj (hu j k b a hb hka e)).2 h)
          exact ⟨((hd j b hb).resolve_left hb').2.1.lt, hb'⟩
        by_cases hpk : p = k
        · have hqk : q ≠ k := by omega
          simp only [if_pos hpk, if_neg hqk]
          have := (old q y hy hqk h2).1
          omega
        · by_cases hqk : q = k
          · simp only [if_pos hqk, if_neg hpk]
            have := (old p x hx hpk h1).1
            omega
          · simp only [if_neg hpk, if_neg hqk]
            exact hne p q x y hx hy hpq (old p x hx hpk h1).2 (old q y hy hqk h2).2
theorem setA_old : ∀ (bs : List AS) (B : Act), setA B bs (fun i => match bs[i]? with | some a => B.tmps.getD a.slot undef | none => undef) = B
  | [], _ => rfl
  | a :: bs, B => by
    show setA (B.put (some a.slot) (B.tmps.getD a.slot undef)) bs (fun i => match bs[i]? with | some a => B.tmps.getD a.slot undef | none => undef) = B
    have e : B.put (some a.slot) (B.tmps.getD a.slot undef) = B := by
      cases B with
      | mk t d =>
        simp only [Act.put]
        congr 1
        refine Array.ext (by simp) fun i h1 h2 => ?_
        rw [Array.getElem_setIfInBounds]
        split
        · rename_i h; subst h; simp [h2]
        · rfl
    rw [e]
    exact setA_old bs B
def allA (P : Program) (ops : Array Oper) (Q : Exit -> Act -> World -> Prop) : List AS -> Prop
  | [] => True
  | a :: bs => (∀ (K : Act -> World -> Prop) b w, K (b.put (some a.slot) (ptr w.heap.size)) (w.alloc (.cells a.z a.T)) -> wpOp P ops Q a.op K b w) /\ allA P ops Q bs
theorem allA_get : ∀ {bs : List AS}, allA P ops Q bs -> ∀ (i : Nat) (a : AS), bs[i]? = some a -> ∀ (K : Act -> World -> Prop) b w, K (b.put (some a.slot) (ptr w.heap.size)) (w.alloc (.cells a.z a.T)) -> wpOp P ops Q a.op K b w
  | [], _, _, _, h => by simp at h
  | a :: bs, h, 0, b, hb => by simp at hb; subst hb; exact h.1
  | a :: bs, h, i + 1, b, hb => allA_get h.2 i b (by simpa using hb)
def lEnd (l : Array Bool) (cs : List Nat) (bs : List AS) : Array Bool := (cs ++ bs.map (·.op)).foldl (fun l i => l.setIfInBounds i true) l
theorem chain_start {fuel : Nat} {l : Array Bool} {a : Act} {w : World} (cs : List Nat) (bs : List AS) (Z : Nat -> Bool) (fe : Nat) (hX : HX Z w) (hw : S w) (hS : ∀ w w', S w -> Ext w w' -> S w')
    (hg : ChG P md ops Q S n fe (lEnd l cs bs) bs Z w cs a (Le (mk Z w)))
    (hf : cs.length + bs.length + fe = fuel := by rfl) (hok : okC md ops (lEnd l cs bs) (cs.length + bs.length) l cs (bs.map (·.op)) = true := by kernel_rfl)
    (hnd : (bs.map (·.op)).Nodup := by decide) (hp : (bs.map (·.slot)).Nodup := by decide)
    (hA : allA P ops Q bs := by first | exact trivial | (refine ⟨?_, trivial⟩; intro K b w h; refine wpOp_step (o := ⟨_, _, _, _, _, _⟩) (by rfl) (fun K' hK => ?_); go_simp; exact hK _ _ h) | (refine ⟨?_, ?_, trivial⟩ <;> (intro K b w h; refine wpOp_step (o := ⟨_, _, _, _, _, _⟩) (by rfl) (fun K' hK => ?_); go_simp; exact hK _ _ h))) :
    wpAnyK P md ops Q S n fuel l a w := by
  subst hf
  have hops : ∀ (i j : Nat) (x y : AS), bs[i]? = some x -> bs[j]? = some y -> x.op = y.op -> i = j := fun i j x y hx hy he => by
    have h1 : (bs.map (·.op))[i]? = some x.op := by simp [hx]
    have h2 : (bs.map (·.op))[j]? = some x.op := by simp [hy, he]
    have hi := (List.getElem?_eq_some_iff.1 h1).1
    have := (List.getElem?_inj hi hnd).1 (h1.trans h2.symm)
    exact this
  have hsl : bs.Pairwise fun (a b : AS) => a.slot ≠ b.slot := by
    have := hp
    rw [List.nodup_iff_pairwise_ne, List.pairwise_map] at this
    exact this
  have h := chain_main (fe := fe) (W0 := w) hS hsl (allA_get hA) (cs.length + bs.length) l cs (bs.map (·.op)) a (Le (mk Z w)) Z w (fun i => match bs[i]? with | some b => a.tmps.getD b.slot undef | none => undef) (fun _ => 0) hok hnd (fun _ _ hl h => h.trans hl) hX (fun _ h => h) (ExtX.refl w) (Le.refl _) hw
    (fun i b hb => Or.inl (List.mem_map.2 ⟨b, List.mem_of_getElem? hb, rfl⟩)) (fun i j x y hx _ _ hn _ => absurd (List.mem_map.2 ⟨x, List.mem_of_getElem? hx, rfl⟩) hn)
    (fun o ho => by
      obtain ⟨b, hb, rfl⟩ := List.mem_map.1 ho
      obtain ⟨i, hi⟩ := List.mem_iff_getElem?.1 hb
      exact ⟨i, b, hi, rfl⟩) hops hg
  rwa [setA_old] at h
theorem chg_end {B : Act} {Φ : Mem -> Prop} (h : ∀ M w (gs : Nat -> Nat), HX M w -> (∀ k, Z k = true -> M k = true) -> Ext W0 w -> Φ (mk M w) -> S w -> (∀ (i : Nat) (a : AS), bs[i]? = some a -> Bx w (gs i) a.z a.T /\ M (gs i) = true /\ W0.heap.size <= gs i) -> (∀ i j, i < j -> j < bs.length -> gs i ≠ gs j) ->
    wpAnyK P md ops Q S n fe le (setA B bs fun i => ptr (gs i)) w) : ChG P md ops Q S n fe le bs Z W0 [] B Φ := h
end
end Go
