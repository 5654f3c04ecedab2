/- law42.CertifySubsets returns true. Conditions: none. -/
import Derived.Test.YtblifbnbjffgkaaCSubs2
import Derived.Test.YtblifbnbjffgkaaSame
namespace Go.Rep
open Go.RowKit
/-- A pair of ints. -/
def TwoR : Mem → Value → (Int × Int) → Prop := fun _ u x => u = .agg #[.int .i64 x.1, .int .i64 x.2]
theorem TwoR.elem : Elem TwoR 2 := ⟨fun _ _ _ _ _ h => h, by rintro h u x rfl; rfl, by
  rintro h u x rfl c hc
  simp [cellsL, Value.cells] at hc
  rcases hc with rfl | rfl <;> rfl, by decide⟩
theorem TwoR.agg : ∀ h u y, TwoR h u y → ∃ cs, u = .agg cs := by rintro h u y rfl; exact ⟨_, rfl⟩
/-- An array type of the program: its cells. -/
def ArrT (P : Program) (t sz : Nat) : Prop := ∃ n e ti, P.underlying t = some (.array n e) ∧ P.info? t = some ti ∧ ti.size = sz
section
variable {P : Program} {ops : Array Oper} {Q : Exit → Act → World → Prop} {rest : List Oper} {a : Act} {w : World}
variable {α : Type} {R : Mem → Value → α → Prop} {sz : Nat} {X : Nat → Bool} {ao : Option Addr} {l : List α}
variable {d : Option Tmp} {ty : TypeId} {ps : String} {af : Array Edge}
/-- A load of an array out of a list of arrays. -/
theorem st_loadArr {t : TypeId} {x : Operand} {k : Nat} (hT : ArrT P t sz) (i : Nat) (hs : Sl R sz (mk X w) ao l) (hi : i < l.length) (hx : a.eval x = .pointer (some (adr ao k))) (hk : k = i * sz) (hag : ∀ h u y, R h u y → ∃ cs, u = .agg cs)
    (K : ∀ u, R (mk X w) u l[i] → wpList P ops Q rest (a.put d u) w) :
    wpList P ops Q (⟨d, .load t x, ty, ps, af, none⟩ :: rest) a w := by
  refine wpList_plain rfl fun K' hK' => ?_
  subst hk
  obtain ⟨n, e, ti, h1, h2, h3⟩ := hT
  obtain ⟨u, h4, h5, h6⟩ := hs.2 i hi
  obtain ⟨cs, rfl⟩ := hag _ _ _ h6
  have hl := run_loadCells_list (P := P) w (adr ao (i * sz)) cs.toList (fun j v hj => by
    rw [adr_add]
    obtain ⟨hj1, hj2⟩ := List.getElem?_eq_some_iff.1 hj
    have := mk_cell (h5 j (by simpa [Value.cells] using hj1))
    rw [this]
    simp [Value.cells] at hj2 ⊢
    exact hj2)
  have hsz : cs.toList.length = sz := by simpa [Value.cells] using h4
  rw [hsz] at hl
  unfold Oper.wp
  simp [execOp, hx, Instr.loadAt, Instr.sureAddr, loadVar, isAgg, run_underlying h1, sizeOf, typeInfo, h2, h3, hl, Result.andThen]
  exact hK' _ _ (K _ h6)
end
end Go.Rep
namespace Go.Lim
theorem subsL_len (n h : Int) : (subsL n h).length ≤ 4096 ∧ ∀ x ∈ subsL n h, x.1.length ≤ 1000 ∧ x.2.length ≤ 1000 := by
  unfold subsL
  by_cases hs : subsE n h = 0
  · rw [if_pos hs]
    unfold subsE at hs
    by_cases hb : n < 1 ∨ 64 < n ∨ h < 0 ∨ n < h
    · rw [if_pos hb] at hs; omega
    rw [if_neg hb] at hs
    by_cases hc : 4096 < ch n.toNat h.toNat
    · rw [if_pos hc] at hs; omega
    refine ⟨by simp [leavesL, combs_length]; omega, fun x hx => ?_⟩
    obtain ⟨s, hs, rfl⟩ := List.mem_map.1 hx
    have h1 := (combs_mem _ _ _ _ hs).1
    have h2 := othersL_len s n.toNat
    exact ⟨by simp only; omega, by simp only; omega⟩
  · rw [if_neg hs]; simp
end Go.Lim
namespace Go.Proofs.Ytblifbnbjffgkaa
open Go.RowKit Go.Rep Go.Lim
theorem slTwo : SliceT Try.prog 39 37 2 16 (.agg #[.int .i64 0, .int .i64 0]) := ⟨Try.underlying39, by kernel_rfl⟩
theorem arrTwo : ArrT Try.prog 37 2 := by
  have h : (Try.prog.info? 37).map (fun i => (i.zero, i.size, i.bytes)) = some (some (.agg #[.int .i64 0, .int .i64 0]), 2, 16) := by kernel_rfl
  obtain ⟨ti, h1, _, h2, _⟩ := info_parts h
  exact ⟨_, _, ti, Try.underlying37, h1, h2⟩

theorem lit_twos (w : World) (a b c d : Int × Int) (e : TypeId) : Sl TwoR 2 (mk noY (w.alloc (.cells #[.int .i64 a.1, .int .i64 a.2, .int .i64 b.1, .int .i64 b.2, .int .i64 c.1, .int .i64 c.2, .int .i64 d.1, .int .i64 d.2] e))) (some ⟨w.heap.size, 0, none⟩) [a, b, c, d] :=
  (OL.lit (base := w.heap.size) TwoR.elem (hnoX w) (Nat.le_refl _) [.agg #[.int .i64 a.1, .int .i64 a.2], .agg #[.int .i64 b.1, .int .i64 b.2], .agg #[.int .i64 c.1, .int .i64 c.2], .agg #[.int .i64 d.1, .int .i64 d.2]] [a, b, c, d] _ (by simp [cellsL, Value.cells]) rfl
    (fun i hi _ => by match i, hi with
                      | 0, _ => rfl
                      | 1, _ => rfl
                      | 2, _ => rfl
                      | 3, _ => rfl) (by simp)).sl TwoR.elem

set_option maxHeartbeats 800000 in
theorem csubsets_any (lo : Option Addr) (l : List Int) (cl : Nat) (n h : Int) (w : World) (hl : Sl (IntIn .i64) 1 w.cell? lo l) (hcl : l.length ≤ cl) (hlb : l.length ≤ 9223372036854775807) :
    Calls Try.prog 5 #[.slice lo l.length cl, .int .i64 n, .int .i64 h] w (BoolOut w true) := by
  go_enter Try.func5, Try.ntmps5
  go_wp2_with fail
  refine (tnew_any lo l cl w hl hcl hlb).mono ?_
  rintro e w1 ⟨rfl, hE1, ht1, hsz1⟩
  obtain ⟨tb, htb⟩ : ∃ tb, w.heap.size = tb := ⟨_, rfl⟩
  obtain ⟨X, hX⟩ : ∃ X, tbm tb = X := ⟨_, rfl⟩
  have hXk : ∀ k, X k = true → k = tb := fun k hk => by rw [← hX] at hk; simpa [tbm] using hk
  have htw : w.heap.size ≤ tb := by omega
  rw [htb] at ht1 hsz1 ⊢
  rw [hX] at ht1
  have hX1 : ∀ k, X k = true → k < w1.heap.size := fun k hk => by have := hXk k hk; omega
  clear hl htb hcl hlb
  go_wp2_with fail
  refine (count_any X tb 7 w1 ht1 hX1 (by omega) (by omega)).mono ?_
  rintro e w2 ⟨hE2, ht2, c1, rfl, hm1, hm2⟩
  have hX2 : ∀ k, X k = true → k < w2.heap.size := fun k hk => Nat.lt_of_lt_of_le (hX1 k hk) hE2.size
  clear hm1 hm2
  go_wp2_with fail
  refine (count_any X tb 7 w2 ht2 hX2 (by omega) (by omega)).mono ?_
  rintro e w3 ⟨hE3, ht3, c2, rfl, hm1, hm2⟩
  have hX3 : ∀ k, X k = true → k < w3.heap.size := fun k hk => Nat.lt_of_lt_of_le (hX2 k hk) hE3.size
  clear hm1 hm2
  go_wp2_with fail
  refine (lit_pick X tb [0, 1, 2, 64, 3] _ _ _ w3 0 64 ht3 hX3 rfl rfl (by simp) (by simp) (hid (by simp))).mono ?_
  rintro e w4 ⟨hE4, ht4, c3, rfl, hm1, hm2⟩
  have hE : Ext w w4 := hE1.then_ ((hE2.trans hE3).trans hE4) (fun i hi _ => tbm_ne (by omega))
  clear hm1 hm2 ht4 hE1 hE2 hE3 hE4 ht1 ht2 ht3 hX1 hX2 hX3 hX hXk hsz1 htw
  go_wp2_with fail
  have hsl := lit_twos w4 (c1, c2) (n, h) (64, c3) (65, 1) 37
  have hEl := hE.alloc (.cells #[.int .i64 c1, .int .i64 c2, .int .i64 n, .int .i64 h, .int .i64 64, .int .i64 c3, .int .i64 65, .int .i64 1] 37)
  obtain ⟨bb, hbb⟩ : ∃ bb, w4.heap.size = bb := ⟨_, rfl⟩
  simp only at hsl
  rw [hbb] at hsl ⊢
  generalize w4.alloc (.cells #[.int .i64 c1, .int .i64 c2, .int .i64 n, .int .i64 h, .int .i64 64, .int .i64 c3, .int .i64 65, .int .i64 1] 37) = w5 at hsl hEl ⊢
  obtain ⟨L, hL⟩ : ∃ L, [(c1, c2), (n, h), (64, c3), (65, 1)] = L := ⟨_, rfl⟩
  have hLl : L.length = 4 := by rw [← hL]; rfl
  rw [hL] at hsl
  have hLh := hid hLl
  have h4 : 4 ≤ L.length := by omega
  have hhl := hsl.hd
  clear hL hLl hbb hE
  go_wp2_with fail
  go_loopw [31] (fun c wr => ∃ (k : Nat), c = .int .i64 k ∧ k ≤ 4 ∧ Ext w5 wr) (fun c _ => 4 - (intOf c).toNat)
  case atStart => exact ⟨0, rfl, Nat.zero_le _, ExtX.refl _⟩
  case round =>
    obtain ⟨k, rfl, hk, hE⟩ := hrel
    by_cases hlt : k < 4
    · have hkL : k < L.length := by omega
      have hs1 := hsl.mono TwoR.elem.mono (mk_ext hE)
      obtain ⟨p, q, hpq⟩ : ∃ p q, L[k] = (p, q) := ⟨_, _, rfl⟩
      obtain ⟨u, _, hu1, hu2⟩ := hs1.2 k hkL
      rw [hpq] at hu2
      obtain rfl : u = .agg #[.int .i64 p, .int .i64 q] := hu2
      have d1 : wr.cell? { block := bb, off := k * 2, spot := none } = some (.int .i64 p) := by simpa [adr_some, Value.cells] using mk_cell (hu1 0 (by simp [Value.cells]))
      have d2 : wr.cell? { block := bb, off := k * 2 + 1, spot := none } = some (.int .i64 q) := by simpa [adr_some, Value.cells] using mk_cell (hu1 1 (by simp [Value.cells]))
      clear hpq hu1 hs1
      go_wp2_with ((with_reducible refine up_ixn (len := 4) slTwo (by omega) (fun _ => hhl (by omega)) ?_))
      clear d1 d2
      have hEw : Ext wr (wr.alloc (.cells #[.int .i64 p, .int .i64 q] 37)) := (ExtX.refl wr).alloc _
      have k1 : (wr.alloc (.cells #[.int .i64 p, .int .i64 q] 37)).cell? ⟨wr.heap.size, 0, none⟩ = some (.int .i64 p) := cell_new 0 rfl
      have k2 : (wr.alloc (.cells #[.int .i64 p, .int .i64 q] 37)).cell? ⟨wr.heap.size, 1, none⟩ = some (.int .i64 q) := cell_new 1 rfl
      generalize wr.alloc (.cells #[.int .i64 p, .int .i64 q] 37) = w6 at hEw k1 k2 ⊢
      have hEs := hE.trans hEw
      have hlen := hid (subsL_len p q)
      refine (csubs_any noY p q _ (hnoX _)).mono ?_
      rintro e w7 ⟨hE7, ao, ca, rfl, hca, hsa⟩
      have k1' := hE7.cell k1
      have k2' := hE7.cell k2
      go_wp2_with fail
      refine (rsubs_any noY p q _ (hnoX _)).mono ?_
      rintro e w8 ⟨hE8, bo, cb, rfl, hcb, hsb⟩
      have hsa8 := hsa.mono LeafR.mono (mk_ext hE8)
      have hEr := hEs.trans (hE7.trans hE8)
      have hbe : (subsE p q != subsE p q) = false := bneF rfl
      obtain ⟨E, hEe⟩ : ∃ E, subsE p q = E := ⟨_, rfl⟩
      obtain ⟨S, hSe⟩ : ∃ S, subsL p q = S := ⟨_, rfl⟩
      rw [hEe] at hbe ⊢
      rw [hSe] at hlen hca hcb hsa8 hsb ⊢
      clear hEe hSe k1 k2 k1' k2' hsa hE7 hE8 hEw hEs hE
      go_wp2_with fail
      refine (same_any noY ao bo S ca cb _ hsa8 hsb (Nat.le_trans hlen.out.1 (by decide)) (hid hlen.out.2)).mono ?_
      rintro e w9 ⟨hE9, rfl⟩
      have hEs := hEr.trans hE9
      go_wp2_with fail
      go_roundw
      case rel => exact ⟨k + 1, by go_num, by omega, hEs⟩
      case measure => simp [intOf]; omega
    · go_wp2_with fail
      refine (awake_any wr).mono ?_
      rintro e w8 ⟨hF3, rfl⟩
      have hG := hEl.trans (hE.trans hF3)
      go_wp2_with fail
      go_ret
      exact ⟨hG, rfl⟩
end Go.Proofs.Ytblifbnbjffgkaa
