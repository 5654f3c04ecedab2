/- The tape of choices: New, Mod, Next, Bool, Pick, Count. What is drawn is some number in the range. Conditions: none beyond small ranges. -/
import Derived.Test.YtblifbnbjffgkaaInts
import Derived.Test.YtblifbnbjffgkaaGen2
namespace Go.Proofs.Ytblifbnbjffgkaa
open Go.RowKit Go.Rep Go.Lim

/-- The tape's own block. -/
def tbm (tb : Nat) : Nat → Bool := fun k => k == tb
theorem tbm_self (tb : Nat) : tbm tb tb = true := by simp [tbm]
theorem tbm_ne {tb k : Nat} (h : k ≠ tb) : tbm tb k = false := by simpa [tbm] using h
/-- A tape lies in block tb. -/
def TapeR (X : Nat → Bool) (tb : Nat) (w : World) : Prop :=
  X tb = true ∧ ∃ (lo : Option Addr) (l : List Int) (cap at_ : Nat), w.heap[tb]? = some (.cells #[.slice lo l.length cap, .int .i64 (at_ : Int)] 46 (0, 0)) ∧ l.length ≤ 400 ∧ at_ ≤ l.length ∧ Sl (IntIn .i64) 1 (mk X w) lo l
theorem tbm_sub {X : Nat → Bool} {tb : Nat} (h : X tb = true) : ∀ k, tbm tb k = true → X k = true := fun k hk => by
  have : k = tb := by simpa [tbm] using hk
  rw [this]; exact h
theorem TapeR.lt {X : Nat → Bool} {tb : Nat} {w : World} (h : TapeR X tb w) : tb < w.heap.size := by
  obtain ⟨_, lo, l, cap, at_, h1, _⟩ := h
  by_cases hl : tb < w.heap.size
  · exact hl
  · rw [Array.getElem?_eq_none (by omega)] at h1; simp at h1
theorem TapeR.ext {X : Nat → Bool} {tb : Nat} {w w' : World} (h : TapeR X tb w) (hE : Ext w w') : TapeR X tb w' := by
  have hlt := h.lt
  obtain ⟨hX, lo, l, cap, at_, h1, h2, h3, h4⟩ := h
  exact ⟨hX, lo, l, cap, at_, by rw [hE.block tb hlt rfl]; exact h1, h2, h3, h4.mono (IntIn.mono _) (mk_ext hE)⟩
theorem TapeR.extY {X Y : Nat → Bool} {tb : Nat} {w w' : World} (h : TapeR X tb w) (hE : ExtX Y w w') (hY : ∀ k, Y k = true → X k = true) (ht : Y tb = false) : TapeR X tb w' := by
  have hlt := h.lt
  obtain ⟨hX, lo, l, cap, at_, h1, h2, h3, h4⟩ := h
  exact ⟨hX, lo, l, cap, at_, by rw [hE.block tb hlt ht]; exact h1, h2, h3, h4.mono (IntIn.mono _) (mk_mono hE hY)⟩

/-- A number from 0 to n - 1 is drawn, 0 if n is less than 1. -/
def NextOut (X : Nat → Bool) (tb : Nat) (w : World) (n : Int) (e : Ending) (w' : World) : Prop :=
  ExtX (tbm tb) w w' ∧ TapeR X tb w' ∧ ∃ m : Nat, e = .returned (.int .i64 (m : Int)) ∧ ((m : Int) < n ∨ m = 0)

theorem mod_any (v n : Int) (w : World) (h1 : 1 ≤ n) (h2 : n ≤ 1099511627776) :
    Calls Try.prog 20 #[.int .i64 v, .int .i64 n] w (fun e w' => e = .returned (.int .i64 (v % n)) ∧ w' = w) := by
  have hn0 : (n == 0) = false := beqF (by omega)
  have hlo : -n < v.tmod n := Int.lt_tmod_of_pos v (by omega)
  have hhi : v.tmod n < n := Int.tmod_lt_of_pos v (by omega)
  have hem : (v.tmod n < 0 → v.tmod n + n = v % n) ∧ (0 ≤ v.tmod n → v.tmod n = v % n) := by
    have h := Int.tmod_eq_emod (a := v) (b := n)
    have e0 := Int.emod_nonneg v (show n ≠ 0 by omega)
    have e1 := Int.emod_lt_of_pos v (show 0 < n by omega)
    split at h <;> omega
  have hem' := hid hem
  clear hem
  go_enter Try.func20, Try.ntmps20
  go_wp2_with fail
  · go_ret
    exact ⟨ret_int (hem'.out.1 (by assumption)), rfl⟩
  · go_ret
    exact ⟨ret_int (hem'.out.2 (by assumption)), rfl⟩

theorem TapeR.cells {X : Nat → Bool} {tb : Nat} {w : World} (h : TapeR X tb w) : ∃ (lo : Option Addr) (l : List Int) (cap at_ : Nat), w.cell? ⟨tb, 0, none⟩ = some (.slice lo l.length cap) ∧ w.cell? ⟨tb, 1, none⟩ = some (.int .i64 (at_ : Int)) ∧ w.frozen? ⟨tb, 1, none⟩ = false ∧ l.length ≤ 400 ∧ at_ ≤ l.length ∧ Sl (IntIn .i64) 1 (mk X w) lo l ∧
    ∀ at' : Nat, at' ≤ l.length → TapeR X tb (w.setCell ⟨tb, 1, none⟩ (.int .i64 (at' : Int))) ∧ ExtX (tbm tb) w (w.setCell ⟨tb, 1, none⟩ (.int .i64 (at' : Int))) ∧
      (w.setCell ⟨tb, 1, none⟩ (.int .i64 (at' : Int))).cell? ⟨tb, 0, none⟩ = some (.slice lo l.length cap) ∧ (w.setCell ⟨tb, 1, none⟩ (.int .i64 (at' : Int))).cell? ⟨tb, 1, none⟩ = some (.int .i64 (at' : Int)) := by
  have hlt := h.lt
  obtain ⟨hX, lo, l, cap, at_, h1, h2, h3, h4⟩ := h
  refine ⟨lo, l, cap, at_, by simp [World.cell?, h1], by simp [World.cell?, h1], by simp [World.frozen?, h1], h2, h3, h4, fun at' ha => ?_⟩
  have hE : ExtX (tbm tb) w (w.setCell ⟨tb, 1, none⟩ (.int .i64 (at' : Int))) :=
    ⟨rfl, rfl, rfl, by simp [World.setCell], fun k hk hy => Below.heap_setCell _ _ _ _ (fun e => by subst e; simp [tbm] at hy)⟩
  have hn : (w.setCell ⟨tb, 1, none⟩ (.int .i64 (at' : Int))).heap[tb]? = some (.cells #[.slice lo l.length cap, .int .i64 (at' : Int)] 46 (0, 0)) := by
    simp only [World.setCell, Array.getElem?_modify, h1]
    simp
  exact ⟨⟨hX, lo, l, cap, at', hn, h2, ha, h4.mono (IntIn.mono _) (mk_mono hE (tbm_sub hX))⟩, hE, by unfold World.cell?; rw [hn]; rfl, by unfold World.cell?; rw [hn]; rfl⟩

theorem TapeR.drewN {X : Nat → Bool} {tb : Nat} {w : World} (h : TapeR X tb w) (n : Nat) : TapeR X tb (w.drewN n) := h

set_option maxHeartbeats 800000 in
theorem next_any (X : Nat → Bool) (tb : Nat) (n : Int) (w : World) (ht : TapeR X tb w) (hn : n ≤ 1099511627776) :
    Calls Try.prog 9 #[.pointer (some ⟨tb, 0, none⟩), .int .i64 n] w (NextOut X tb w n) := by
  obtain ⟨lo, l, cap, at_, c0, c1, f1, hl, hat, hs, hset⟩ := ht.cells
  have hh := hs.hd
  by_cases h1 : n < 1
  · have hd : decide (n < 1) = true := decide_eq_true h1
    go_enter Try.func9, Try.ntmps9
    go_wp2_with fail
    go_quiet (fail)
    go_wp2_with fail
    go_ret
    exact ⟨(ExtX.refl _).drewN _, ht.drewN _, 0, rfl, .inr rfl⟩
  have hd : decide (n < 1) = false := decide_eq_false h1
  by_cases h2 : at_ < l.length
  · obtain ⟨ht2, hE2, k0, k1⟩ := hset (at_ + 1) (by omega)
    have hs2 := (hs.mono (IntIn.mono _) (mk_mono hE2 (tbm_sub ht.1))).int at_ h2
    obtain ⟨x, hx⟩ : ∃ x, l[at_] = x := ⟨_, rfl⟩
    rw [hx] at hs2
    clear hx hset
    have e1 : ((at_ + 1 : Nat) : Int) = (at_ : Int) + 1 := by omega
    rw [e1] at k0 k1 hs2 ht2 hE2
    have kk0 : ∀ N, ((w.drewN N).setCell ⟨tb, 1, none⟩ (.int .i64 ((at_ : Int) + 1))).cell? ⟨tb, 0, none⟩ = some (.slice lo l.length cap) := fun _ => k0
    have kk1 : ∀ N, ((w.drewN N).setCell ⟨tb, 1, none⟩ (.int .i64 ((at_ : Int) + 1))).cell? ⟨tb, 1, none⟩ = some (.int .i64 ((at_ : Int) + 1)) := fun _ => k1
    have kk2 : ∀ N, ((w.drewN N).setCell ⟨tb, 1, none⟩ (.int .i64 ((at_ : Int) + 1))).cell? (adr lo at_) = some (.int .i64 x) := fun _ => hs2
    have ew : IntKind.i64.wrap ((at_ : Int) + 1 - 1) = (at_ : Int) := by rw [IntWalk.i64_in _ (by omega)]; omega
    have ht3 : ∀ N, TapeR X tb ((w.drewN N).setCell ⟨tb, 1, none⟩ (.int .i64 ((at_ : Int) + 1))) := fun _ => ht2
    have hE3 : ∀ N, ExtX (tbm tb) w ((w.drewN N).setCell ⟨tb, 1, none⟩ (.int .i64 ((at_ : Int) + 1))) := fun _ => ⟨hE2.os, hE2.tape, hE2.output, hE2.size, hE2.block⟩
    have ht4 := hid ht3
    have hE4 := hid hE3
    clear e1 ht2 hE2 k0 k1 ht3 hE3
    have hd2 : decide ((l.length : Int) ≤ (at_ : Int)) = false := decide_eq_false (by omega)
    have i1 : ∀ W, (Instr.indexAt 22 (.slice lo l.length cap) (.int .i64 (at_ : Int))).run Try.prog W = .ok (.pointer (some (adr lo at_))) W := run_ix1 slInt lo l.length cap .i64 at_ hh h2 rfl
    go_enter Try.func9, Try.ntmps9
    go_wp2_with fail
    go_quiet (fail)
    go_wp2_with fail
    have hm0 := Int.emod_nonneg x (show n ≠ 0 by omega)
    have hm1 := Int.emod_lt_of_pos x (show 0 < n by omega)
    obtain ⟨m, hm⟩ := Int.eq_ofNat_of_zero_le hm0
    have hm' := hid hm
    have hm2 : Hid ((m : Int) < n) := hid (by rw [← hm]; exact hm1)
    clear hm hm0 hm1
    go_quiet ((go_at_call 20; exact Calls.quiet_of_same (mod_any x n _ (by omega) (by omega))))
    go_wp2_with fail
    go_ret
    exact ⟨(hE4.out _).drewN _, (ht4.out _).drewN _, m, ret_int hm'.out, .inl hm2.out⟩
  · have hd2 : decide ((l.length : Int) ≤ (at_ : Int)) = true := decide_eq_true (by omega)
    go_enter Try.func9, Try.ntmps9
    go_wp2_with fail
    go_quiet (fail)
    go_wp2_with fail
    go_ret
    exact ⟨(ExtX.refl _).drewN _, ht.drewN _, 0, rfl, .inr rfl⟩
end Go.Proofs.Ytblifbnbjffgkaa
