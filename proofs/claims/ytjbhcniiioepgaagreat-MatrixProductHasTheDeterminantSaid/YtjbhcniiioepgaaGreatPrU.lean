/- law 06: awake. Conditions: none. law 06: MatrixProductHasTheDeterminant returns true. Conditions: none but Go's own. Arguments, opened to lists: []int. Conditions: none. Arguments, opened: six of them; bounds of integers; []int with its numbers' bounds. Conditions: none. Facts of the whole program that each row asks for. Conditions: none. -/
import Derived.Test.YtjbhcniiioepgaaGreatPrT
import Derived.WalkKit
import Derived.ProofKit
import Derived.OpenShut
import Derived.ShutString
import Derived.ChangeOld
import Derived.Below
import Derived.Deep.Slices
import Derived.Deep.Fields
import Derived.ChangeSame
import Derived.Test.YtjbhcniiioepgaaGreatRows
import Derived.JoinedOf
namespace Go.Lin
open Go.Lim
theorem awakeL : redP [[0, 2], [1, 1]] 2 = ([[1, 0], [0, 1]], [0, 1]) := by decide +kernel
theorem lg_le_one {n : Nat} (h : n < 4294967296) : lg n ≤ 1 := by
  by_cases h0 : n = 0
  · subst h0; simp [lg_zero]
  · rw [lg_one_iff (by omega) h]; exact Nat.le_refl _
theorem hq_small {z : Int} (h : z.natAbs < 4294967296) : hq (z : Rat) ≤ 1 := hq_int z 1 (lg_le_one h) (Nat.le_refl _)
theorem BM.hb {B : Nat} {m : Mat} (h : Go.Rep.BM B m) (hB : 1 ≤ B) : HB B m := fun i j => by
  unfold ent
  by_cases hi : i < m.length
  · by_cases hj : j < (m[i]).length
    · have := h m[i] (List.getElem_mem _) (m[i])[j] (List.getElem_mem _)
      simpa [List.getD_eq_getElem?_getD, hi, hj] using this
    · rw [getD_row hi, List.getD_eq_getElem?_getD, List.getElem?_eq_none (by omega)]
      simpa [hq_zero] using hB
  · rw [List.getD_eq_getElem?_getD (l := m), List.getElem?_eq_none (by omega)]
    simpa [hq_zero] using hB
end Go.Lin
namespace Go.Rep
open Go.RowKit Go.Lim
theorem rc_lit2 {X : Nat → Bool} {w : World} {e : TypeId} (hX : HX X w) {u v : Value} {x y : Rat} (hu : QC (mk X w) u x) (hv : QC (mk X w) v y) {arr : Array Value} (harr : arr = (cellsL u ++ cellsL v).toArray) : RC (mk X (w.alloc (.cells arr e))) (.slice (some ⟨w.heap.size, 0, none⟩) 2 2) [x, y] := by
  have := OL.lit (w := w) (base := w.heap.size) (e := e) QC.elem hX (Nat.le_refl _) [u, v] [x, y] arr (by rw [harr]; simp) rfl (fun i hi hi' => by
    match i, hi with
    | 0, _ => exact hu
    | 1, _ => exact hv) (by simp)
  exact ⟨_, _, rfl, Nat.le_refl _, this.sl QC.elem⟩
theorem mc_lit2 {X : Nat → Bool} {w : World} {e : TypeId} (hX : HX X w) {u v : Value} {x y : List Rat} (hu : RC (mk X w) u x) (hv : RC (mk X w) v y) {arr : Array Value} (harr : arr = (cellsL u ++ cellsL v).toArray) : MC (mk X (w.alloc (.cells arr e))) (.slice (some ⟨w.heap.size, 0, none⟩) 2 2) [x, y] := by
  have := OL.lit (w := w) (base := w.heap.size) (e := e) RC.elem hX (Nat.le_refl _) [u, v] [x, y] arr (by rw [harr]; simp) rfl (fun i hi hi' => by
    match i, hi with
    | 0, _ => exact hu
    | 1, _ => exact hv) (by simp)
  exact ⟨_, _, rfl, Nat.le_refl _, this.sl RC.elem⟩
theorem pv_lit2 {X : Nat → Bool} {w : World} {e : TypeId} (hX : HX X w) (x y : Nat) {arr : Array Value} (harr : arr = #[.int .i64 (x : Int), .int .i64 (y : Int)]) : SlV (NatIn .i64) 1 (mk X (w.alloc (.cells arr e))) (.slice (some ⟨w.heap.size, 0, none⟩) 2 2) [x, y] := by
  have := OL.lit (w := w) (base := w.heap.size) (e := e) (NatIn.elem .i64) hX (Nat.le_refl _) [.int .i64 (x : Int), .int .i64 (y : Int)] [x, y] arr (by rw [harr]; simp [cellsL, Value.cells]) rfl (fun i hi hi' => by
    match i, hi with
    | 0, _ => rfl
    | 1, _ => rfl) (by simp)
  exact ⟨_, _, rfl, Nat.le_refl _, this.sl (NatIn.elem .i64)⟩
end Go.Rep
namespace Go.Proofs.YtjbhcniiioepgaaGreat
open Go.RowKit Go.Rep Go.Lim Go.Lin

set_option maxRecDepth 100000 in
set_option maxHeartbeats 800000 in
theorem awake6_any (w : World) : Calls Tryz.prog 22 #[] w (BOut w true) := by
  have hX := HX.none w
  go_enter Tryz.func22, Tryz.ntmps22
  go_wp2_with fail
  refine (rqfrom noY w 0 hX (by omega) (by omega)).mono ?_
  rintro e w1 ⟨hE1, u1, rfl, hu1⟩
  obtain ⟨s1, a1, n1, c1, d1, k1, e1, rfl⟩ := hu1.shape
  go_wp2_with fail
  refine (rqfrom noY w1 2 (hX.ext hE1) (by omega) (by omega)).mono ?_
  rintro e w2 ⟨hE2, u2, rfl, hu2⟩
  obtain ⟨s2, a2, n2, c2, d2, k2, e2, rfl⟩ := hu2.shape
  have hX2 := (hX.ext hE1).ext hE2
  have hA := rc_lit2 (e := 31) hX2 (mkx QC.mono hu1 hE2) hu2 rfl
  go_wp2_with fail
  obtain ⟨w3, hw3, hE3⟩ : ∃ w3, w2.alloc (.cells (cellsL (.agg #[.bool s1, .slice a1 n1 c1, .slice d1 k1 e1]) ++ cellsL (.agg #[.bool s2, .slice a2 n2 c2, .slice d2 k2 e2])).toArray 31) = w3 ∧ Ext w2 w3 := ⟨_, rfl, (ExtX.refl w2).alloc _⟩
  change Calls _ _ _ (w2.alloc (.cells (cellsL (.agg #[.bool s1, .slice a1 n1 c1, .slice d1 k1 e1]) ++ cellsL (.agg #[.bool s2, .slice a2 n2 c2, .slice d2 k2 e2])).toArray 31)) _
  rw [hw3] at hA ⊢
  obtain ⟨b3, hb3⟩ : ∃ b, w2.heap.size = b := ⟨_, rfl⟩
  rw [hb3] at hA ⊢
  clear hw3 hb3
  have hX3 := hX2.ext hE3
  refine (rqfrom noY w3 1 hX3 (by omega) (by omega)).mono ?_
  rintro e w4 ⟨hE4, u4, rfl, hu4⟩
  obtain ⟨s4, a4, n4, c4, d4, k4, e4, rfl⟩ := hu4.shape
  have hX4 := hX3.ext hE4
  go_wp2_with fail
  refine (rqfrom noY w4 1 hX4 (by omega) (by omega)).mono ?_
  rintro e w5 ⟨hE5, u5, rfl, hu5⟩
  obtain ⟨s5, a5, n5, c5, d5, k5, e5, rfl⟩ := hu5.shape
  have hX5 := hX4.ext hE5
  have hB := rc_lit2 (e := 31) hX5 (mkx QC.mono hu4 hE5) hu5 rfl
  have hE6 : Ext w5 (w5.alloc (.cells (cellsL (.agg #[.bool s4, .slice a4 n4 c4, .slice d4 k4 e4]) ++ cellsL (.agg #[.bool s5, .slice a5 n5 c5, .slice d5 k5 e5])).toArray 31)) := (ExtX.refl w5).alloc _
  have hX6 := hX5.ext hE6
  have hA6 := mkx RC.mono hA (hE4.trans (hE5.trans hE6))
  have hM := mc_lit2 (e := 33) hX6 hA6 hB rfl
  have hE7 : Ext w5 ((w5.alloc (.cells (cellsL (.agg #[.bool s4, .slice a4 n4 c4, .slice d4 k4 e4]) ++ cellsL (.agg #[.bool s5, .slice a5 n5 c5, .slice d5 k5 e5])).toArray 31)).alloc (.cells (cellsL (.slice (some ⟨b3, 0, none⟩) 2 2) ++ cellsL (.slice (some ⟨w5.heap.size, 0, none⟩) 2 2)).toArray 33)) := hE6.alloc _
  go_wp2_with fail
  change Calls _ _ _ ((w5.alloc (.cells (cellsL (.agg #[.bool s4, .slice a4 n4 c4, .slice d4 k4 e4]) ++ cellsL (.agg #[.bool s5, .slice a5 n5 c5, .slice d5 k5 e5])).toArray 31)).alloc (.cells (cellsL (.slice (some ⟨b3, 0, none⟩) 2 2) ++ cellsL (.slice (some ⟨w5.heap.size, 0, none⟩) 2 2)).toArray 33)) _
  have hM7 : MC (mk noY ((w5.alloc (.cells (cellsL (.agg #[.bool s4, .slice a4 n4 c4, .slice d4 k4 e4]) ++ cellsL (.agg #[.bool s5, .slice a5 n5 c5, .slice d5 k5 e5])).toArray 31)).alloc (.cells (cellsL (.slice (some ⟨b3, 0, none⟩) 2 2) ++ cellsL (.slice (some ⟨w5.heap.size, 0, none⟩) 2 2)).toArray 33))) (.slice (some ⟨w5.heap.size + 1, 0, none⟩) 2 2) [[0, 2], [1, 1]] := by
    have e0 : ((0 : Int) : Rat) = 0 := by decide +kernel
    have e1 : ((1 : Int) : Rat) = 1 := by decide +kernel
    have e2 : ((2 : Int) : Rat) = 2 := by decide +kernel
    rw [e0, e1, e2] at hM
    simpa using hM
  obtain ⟨w7, hw7⟩ : ∃ w7, ((w5.alloc (.cells (cellsL (.agg #[.bool s4, .slice a4 n4 c4, .slice d4 k4 e4]) ++ cellsL (.agg #[.bool s5, .slice a5 n5 c5, .slice d5 k5 e5])).toArray 31)).alloc (.cells (cellsL (.slice (some ⟨b3, 0, none⟩) 2 2) ++ cellsL (.slice (some ⟨w5.heap.size, 0, none⟩) 2 2)).toArray 33)) = w7 := ⟨_, rfl⟩
  rw [hw7] at hM7 hE7 ⊢
  have hE07 : Ext w w7 := (hE1.trans (hE2.trans (hE3.trans (hE4.trans hE5)))).trans hE7
  have hX7 := hX.ext hE07
  have hbm : BM 1 [[0, 2], [1, 1]] := by
    intro r hr q hqm
    have h0 : hq 0 ≤ 1 := hq_small (z := 0) (by decide)
    have h1 : hq 1 ≤ 1 := hq_small (z := 1) (by decide)
    have h2 : hq 2 ≤ 1 := hq_small (z := 2) (by decide)
    simp only [List.mem_cons, List.not_mem_nil, or_false] at hr
    rcases hr with rfl | rfl <;> simp only [List.mem_cons, List.not_mem_nil, or_false] at hqm <;> rcases hqm with rfl | rfl <;> assumption
  clear hM hw7 hA hB hA6 hE6
  have hred := preduce_ok noY w7 _ _ hX7 (hM7.mv (fun r hr q hq => Nat.le_trans (hbm r hr q hq) (by decide))) (by decide) (tame_of (n := 2) ⟨rfl, by intro r hr; simp only [List.mem_cons, List.not_mem_nil, or_false] at hr; rcases hr with rfl | rfl <;> rfl⟩ (BM.hb hbm (by decide)) (by decide))
  have hcl : colsL [[(0 : Rat), 2], [1, 1]] = 2 := rfl
  rw [hcl, awakeL] at hred
  refine hred.mono ?_
  rintro e w8 ⟨hE8, u8, v8, rfl, hu8, hv8⟩
  obtain ⟨ao, ca, rfl, hca, hsa⟩ := hu8
  obtain ⟨bo, cb, rfl, hcb, hsb⟩ := hv8
  have hX8 := hX7.ext hE8
  go_wp2_with fail
  have hE9 : Ext w8 (w8.alloc (.cells #[.int .i64 0, .int .i64 1] 3)) := (ExtX.refl w8).alloc _
  have hlit : SlV (NatIn .i64) 1 (mk noY (w8.alloc (.cells #[.int .i64 0, .int .i64 1] 3))) (.slice (some ⟨w8.heap.size, 0, none⟩) 2 2) [0, 1] := pv_lit2 hX8 0 1 rfl
  have hsb9 := hsb.mono (NatIn.mono _) (mk_ext hE9)
  have hsa9 := hsa.mono RC.mono (mk_ext hE9)
  obtain ⟨w9, hw9⟩ : ∃ w9, w8.alloc (.cells #[.int .i64 0, .int .i64 1] 3) = w9 := ⟨_, rfl⟩
  obtain ⟨b8, hb8⟩ : ∃ b, w8.heap.size = b := ⟨_, rfl⟩
  rw [hw9] at hE9 hlit hsb9 hsa9 ⊢
  rw [hb8] at hlit ⊢
  clear hw9 hb8
  have hX9 := hX8.ext hE9
  obtain ⟨lo, cl, heq, hcl9, hsl9⟩ := hlit
  simp only [Value.slice.injEq] at heq
  obtain ⟨rfl, _, rfl⟩ := heq
  refine (rsamei_any noY _ _ [0, 1] [0, 1] _ _ w9 hsb9 hsl9 (by decide)).mono ?_
  rintro e w10 ⟨rfl, m10, hw10⟩
  have hE10 : Ext w9 w10 := by rw [hw10]; exact (ExtX.refl w9).drewN _
  clear hw10
  have hX10 := hX9.ext hE10
  have hee : ([0, 1] == [0, 1]) = true := by decide
  rw [hee]
  clear hee
  go_wp2_with fail
  refine (rqfrom noY w10 1 hX10 (by omega) (by omega)).mono ?_
  rintro e w11 ⟨hE11, u11, rfl, hu11⟩
  obtain ⟨s11, a11, n11, c11, d11, k11, e11, rfl⟩ := hu11.shape
  have hX11 := hX10.ext hE11
  have hA := rc_lit2 (e := 31) hX11 hu11 (QC.zero _) rfl
  go_wp2_with fail
  obtain ⟨w12, hw12, hE12⟩ : ∃ w12, w11.alloc (.cells (cellsL (.agg #[.bool s11, .slice a11 n11 c11, .slice d11 k11 e11]) ++ cellsL (.agg #[.bool false, .slice none 0 0, .slice none 0 0])).toArray 31) = w12 ∧ Ext w11 w12 := ⟨_, rfl, (ExtX.refl w11).alloc _⟩
  change Calls _ _ _ (w11.alloc (.cells (cellsL (.agg #[.bool s11, .slice a11 n11 c11, .slice d11 k11 e11]) ++ cellsL (.agg #[.bool false, .slice none 0 0, .slice none 0 0])).toArray 31)) _
  rw [hw12] at hA ⊢
  obtain ⟨b11, hb11⟩ : ∃ b, w11.heap.size = b := ⟨_, rfl⟩
  rw [hb11] at hA ⊢
  clear hw12 hb11
  have hX12 := hX11.ext hE12
  refine (rqfrom noY w12 1 hX12 (by omega) (by omega)).mono ?_
  rintro e w13 ⟨hE13, u13, rfl, hu13⟩
  obtain ⟨s13, a13, n13, c13, d13, k13, e13, rfl⟩ := hu13.shape
  have hX13 := hX12.ext hE13
  have hB := rc_lit2 (e := 31) hX13 (QC.zero _) hu13 rfl
  have hE14 : Ext w13 (w13.alloc (.cells (cellsL (.agg #[.bool false, .slice none 0 0, .slice none 0 0]) ++ cellsL (.agg #[.bool s13, .slice a13 n13 c13, .slice d13 k13 e13])).toArray 31)) := (ExtX.refl w13).alloc _
  have hX14 := hX13.ext hE14
  have hA14 := mkx RC.mono hA (hE13.trans hE14)
  have hM := mc_lit2 (e := 33) hX14 hA14 hB rfl
  have hE15 : Ext w13 ((w13.alloc (.cells (cellsL (.agg #[.bool false, .slice none 0 0, .slice none 0 0]) ++ cellsL (.agg #[.bool s13, .slice a13 n13 c13, .slice d13 k13 e13])).toArray 31)).alloc (.cells (cellsL (.slice (some ⟨b11, 0, none⟩) 2 2) ++ cellsL (.slice (some ⟨w13.heap.size, 0, none⟩) 2 2)).toArray 33)) := hE14.alloc _
  go_wp2_with fail
  change Calls _ _ _ ((w13.alloc (.cells (cellsL (.agg #[.bool false, .slice none 0 0, .slice none 0 0]) ++ cellsL (.agg #[.bool s13, .slice a13 n13 c13, .slice d13 k13 e13])).toArray 31)).alloc (.cells (cellsL (.slice (some ⟨b11, 0, none⟩) 2 2) ++ cellsL (.slice (some ⟨w13.heap.size, 0, none⟩) 2 2)).toArray 33)) _
  have hM7 : MC (mk noY ((w13.alloc (.cells (cellsL (.agg #[.bool false, .slice none 0 0, .slice none 0 0]) ++ cellsL (.agg #[.bool s13, .slice a13 n13 c13, .slice d13 k13 e13])).toArray 31)).alloc (.cells (cellsL (.slice (some ⟨b11, 0, none⟩) 2 2) ++ cellsL (.slice (some ⟨w13.heap.size, 0, none⟩) 2 2)).toArray 33))) (.slice (some ⟨w13.heap.size + 1, 0, none⟩) 2 2) [[1, 0], [0, 1]] := by
    have e1 : ((1 : Int) : Rat) = 1 := by decide +kernel
    rw [e1] at hM
    simpa using hM
  obtain ⟨w15, hw15⟩ : ∃ w15, ((w13.alloc (.cells (cellsL (.agg #[.bool false, .slice none 0 0, .slice none 0 0]) ++ cellsL (.agg #[.bool s13, .slice a13 n13 c13, .slice d13 k13 e13])).toArray 31)).alloc (.cells (cellsL (.slice (some ⟨b11, 0, none⟩) 2 2) ++ cellsL (.slice (some ⟨w13.heap.size, 0, none⟩) 2 2)).toArray 33)) = w15 := ⟨_, rfl⟩
  rw [hw15] at hM7 hE15 ⊢
  clear hM hw15 hA hB hA14 hE14
  have hEe : Ext w8 w15 := (hE9.trans (hE10.trans (hE11.trans (hE12.trans hE13)))).trans hE15
  have hr15 : MC (mk noY w15) (.slice ao 2 ca) [[1, 0], [0, 1]] := ⟨ao, ca, rfl, hca, hsa.mono RC.mono (mk_ext hEe)⟩
  have hbm2 : BM 68719476736 [[1, 0], [0, 1]] := by
    intro r hr q hqm
    have h0 : hq 0 ≤ 68719476736 := Nat.le_trans (hq_small (z := 0) (by decide)) (by decide)
    have h1 : hq 1 ≤ 68719476736 := Nat.le_trans (hq_small (z := 1) (by decide)) (by decide)
    simp only [List.mem_cons, List.not_mem_nil, or_false] at hr
    rcases hr with rfl | rfl <;> simp only [List.mem_cons, List.not_mem_nil, or_false] at hqm <;> rcases hqm with rfl | rfl <;> assumption
  have hrl2 : ∀ r ∈ [[(1 : Rat), 0], [0, 1]], r.length ≤ 1099511627776 := by
    intro r hr
    simp only [List.mem_cons, List.not_mem_nil, or_false] at hr
    rcases hr with rfl | rfl <;> simp
  have hsl := rqsamelists noY w15 _ _ _ _ hr15 hM7 hbm2 (by simp) hrl2
  have hee : decide ([[(1 : Rat), 0], [0, 1]] = [[1, 0], [0, 1]]) = true := decide_eq_true rfl
  rw [hee] at hsl
  refine hsl.mono ?_
  rintro e w16 ⟨hE16, rfl⟩
  go_wp2_with fail
  go_ret
  exact ⟨hE07.trans (hE8.trans (hEe.trans hE16)), rfl⟩
end Go.Proofs.YtjbhcniiioepgaaGreat

namespace Go.Proofs.YtjbhcniiioepgaaGreat
open Go.RowKit Go.Rep Go.Lim Go.Lin

set_option maxRecDepth 100000 in
set_option maxHeartbeats 1600000 in
theorem prod_any (w : World) (d : Int) (ao bo : Option Addr) (ra rb : List Int) (ca cb : Nat) (h1 : 0 ≤ d) (h1' : d < 256) (hsa : Sl (IntIn .i64) 1 (mk noY w) ao ra) (hra : ∀ x ∈ ra, -9223372036854775808 ≤ x ∧ x ≤ 9223372036854775807) (hsb : Sl (IntIn .i64) 1 (mk noY w) bo rb) (hrb : ∀ x ∈ rb, -9223372036854775808 ≤ x ∧ x ≤ 9223372036854775807) :
    Calls Tryz.prog 8 #[.int .u8 d, .slice ao ra.length ca, .slice bo rb.length cb] w (BOut w true) := by
  have hX := HX.none w
  obtain ⟨k, hk⟩ := Int.eq_ofNat_of_zero_le (show 0 ≤ d % 5 by omega)
  have hk4 : k ≤ 4 := by omega
  obtain ⟨x, hx⟩ : ∃ x, matL k k ra = x := ⟨_, rfl⟩
  obtain ⟨y, hy⟩ : ∃ y, matL k k rb = y := ⟨_, rfl⟩
  have hxs : Shp k k x := by rw [← hx]; exact matL_shp k k ra
  have hys : Shp k k y := by rw [← hy]; exact matL_shp k k rb
  have hxb : BM 2 x := by rw [← hx]; exact matL_bm k k ra
  have hyb : BM 2 y := by rw [← hy]; exact matL_bm k k rb
  have hM1 := matrix_any noY w k k ao ra ca hX hsa (by omega) (by omega) hra
  rw [hx] at hM1
  have hM2 := fun w' (h : Ext w w') => matrix_any noY w' k k bo rb cb (hX.ext h) (hsb.mono (IntIn.mono _) (mk_ext h)) (by omega) (by omega) hrb
  rw [hy] at hM2
  have hM2' := hid hM2
  have big : ∀ {m : List (List Rat)} {B : Nat}, BM B m → B ≤ 68719476736 → BM 68719476736 m := fun h hB r hr q hq => Nat.le_trans (h r hr q hq) hB
  have hpb : BM 21 (mulL x y k k) := fun r hr q hq => Nat.le_trans (mulL_bm (n := k) (c := k) hxb hyb (by decide) r hr q hq) (by have : k * (2 * 2 + 1) ≤ 4 * (2 * 2 + 1) := Nat.mul_le_mul_right _ hk4; omega)
  have hps : Shp k k (mulL x y k k) := mulL_shp hxs.1
  have hts := trL_shp x k k
  have htb : BM 2 (trL x k k) := hb_bm (trL_hb (bm_hb hxb (by decide)))
  have tx := sq_tame hxs hk4 hxb (by decide) (by decide)
  have ty := sq_tame hys hk4 hyb (by decide) (by decide)
  have tp := sq_tame hps hk4 hpb (by decide) (by decide)
  have tt := sq_tame hts hk4 htb (by decide) (by decide)
  obtain ⟨fx, cx⟩ := sqf hxs (by omega)
  obtain ⟨fy, cy⟩ := sqf hys (by omega)
  obtain ⟨fp, cp⟩ := sqf hps (by omega)
  obtain ⟨ft, ct⟩ := sqf hts (by omega)
  have e1 := det_mulL hk4 hxs hys
  have e2 := det_trL hk4 hxs
  have e3 : rankV (trL x k k) k = rankV x k := rank_trL hxs
  have e4 := rank_full hk4 hxs
  have b1 := detV_hq tx (by omega)
  have b2 := detV_hq ty (by omega)
  have b3 := detV_hq tp (by omega)
  have b4 := detV_hq tt (by omega)
  have hmul := hid (fun w' u v (hu : MC (mk noY w') u x) (hv : MC (mk noY w') v y) => mul_ok noY w' u v x y k k k 2 (HX.none w') (hu.mv (big hxb (by decide))) (hv.mv (big hyb (by decide))) fx fy hxs.1 hys.1 cx cy hxb hyb (by decide) (by decide))
  have htra := hid (fun w' u (hu : MC (mk noY w') u x) => transpose_ok noY w' u x k k (HX.none w') (hu.mv (big hxb (by decide))) fx hxs.1 cx)
  have hdx := hid (fun w' u (hu : MC (mk noY w') u x) => det_ok noY w' u x k (HX.none w') (hu.mv (big hxb (by decide))) fx hxs.1 cx (by omega) tx)
  have hdy := hid (fun w' u (hu : MC (mk noY w') u y) => det_ok noY w' u y k (HX.none w') (hu.mv (big hyb (by decide))) fy hys.1 cy (by omega) ty)
  have hdp := hid (fun w' u (hu : MC (mk noY w') u (mulL x y k k)) => det_ok noY w' u _ k (HX.none w') (hu.mv (big hpb (by decide))) fp hps.1 cp (by omega) tp)
  have hdt := hid (fun w' u (hu : MC (mk noY w') u (trL x k k)) => det_ok noY w' u _ k (HX.none w') (hu.mv (big htb (by decide))) ft hts.1 ct (by omega) tt)
  have hrx := hid (fun w' u (hu : MC (mk noY w') u x) => rank_ok noY w' u x (HX.none w') (hu.mv (big hxb (by decide))) fx (by rw [cx]; exact tx))
  have hrt := hid (fun w' u (hu : MC (mk noY w') u (trL x k k)) => rank_ok noY w' u _ (HX.none w') (hu.mv (big htb (by decide))) ft (by rw [ct]; exact tt))
  rw [cx] at hrx
  rw [ct, e3] at hrt
  obtain ⟨D, hD⟩ : ∃ D, detV x k = D := ⟨_, rfl⟩
  obtain ⟨C, hC⟩ : ∃ C, detV y k = C := ⟨_, rfl⟩
  obtain ⟨R, hR⟩ : ∃ R, rankV x k = R := ⟨_, rfl⟩
  rw [hD, hC] at e1
  rw [hD] at e2 e4 b1
  rw [hC] at b2
  rw [hR] at e4
  rw [e1] at b3
  rw [e2] at b4
  rw [hD] at hdx
  rw [hC] at hdy
  rw [e1] at hdp
  rw [e2] at hdt
  rw [hR] at hrx hrt
  have hk' := hid hk
  have hb1 := hid b1
  have hb2 := hid b2
  have hb3 := hid b3
  have he4 := hid e4
  clear big hxs hys hxb hyb hpb hps hts htb tx ty tp tt fx cx fy cy fp cp ft ct e1 e2 e3 e4 b1 b2 b3 b4 hD hC hR hx hy hk hra hrb hM2 hsa hsb
  go_enter Tryz.func8, Tryz.ntmps8
  go_wp2_with fail
  rw [hk'.out]
  refine hM1.mono ?_
  rintro e w1 ⟨hE1, ux, rfl, hux⟩
  go_wp2_with fail
  refine (hM2'.out w1 hE1).mono ?_
  rintro e w2 ⟨hE2, uy, rfl, huy⟩
  go_wp2_with fail
  refine (hmul.out w2 _ _ (mkx MC.mono hux hE2) huy).mono ?_
  rintro e w3 ⟨hE3, up, rfl, hup⟩
  go_wp2_with fail
  refine (htra.out w3 _ (mkx MC.mono hux (hE2.trans hE3))).mono ?_
  rintro e w4 ⟨hE4, ut, rfl, hut⟩
  go_wp2_with fail
  refine (hdx.out w4 _ (mkx MC.mono hux (hE2.trans (hE3.trans hE4)))).mono ?_
  rintro e w5 ⟨hE5a, ud, rfl, hud⟩
  obtain ⟨s5, a5, n5, c5, d5, k5, e5, rfl⟩ := hud.shape
  have bd := Bx.new w5 #[.bool s5, .slice a5 n5 c5, .slice d5 k5 e5] 31
  have hE5b : Ext w5 (w5.alloc (.cells #[.bool s5, .slice a5 n5 c5, .slice d5 k5 e5] 31)) := (ExtX.refl w5).alloc _
  go_wp2_with fail
  obtain ⟨w6, hw6⟩ : ∃ W, w5.alloc (.cells #[.bool s5, .slice a5 n5 c5, .slice d5 k5 e5] 31) = W := ⟨_, rfl⟩
  obtain ⟨pbd, hpbd⟩ : ∃ p, w5.heap.size = p := ⟨_, rfl⟩
  rw [hw6] at bd hE5b ⊢
  rw [hpbd] at bd ⊢
  clear hw6 hpbd
  have hE56 := hE5a.trans hE5b
  refine (hdy.out w6 _ (mkx MC.mono huy (hE3.trans (hE4.trans hE56)))).mono ?_
  rintro e w7 ⟨hE7a, uc, rfl, huc⟩
  obtain ⟨s7, a7, n7, c7, d7, k7, e7, rfl⟩ := huc.shape
  have bc := Bx.new w7 #[.bool s7, .slice a7 n7 c7, .slice d7 k7 e7] 31
  have hE7b : Ext w7 (w7.alloc (.cells #[.bool s7, .slice a7 n7 c7, .slice d7 k7 e7] 31)) := (ExtX.refl w7).alloc _
  go_wp2_with fail
  obtain ⟨w8, hw8⟩ : ∃ W, w7.alloc (.cells #[.bool s7, .slice a7 n7 c7, .slice d7 k7 e7] 31) = W := ⟨_, rfl⟩
  obtain ⟨pbc, hpbc⟩ : ∃ p, w7.heap.size = p := ⟨_, rfl⟩
  rw [hw8] at bc hE7b ⊢
  rw [hpbc] at bc ⊢
  clear hw8 hpbc
  have hE78 := hE7a.trans hE7b
  refine (hdp.out w8 _ (mkx MC.mono hup (hE4.trans (hE56.trans hE78)))).mono ?_
  rintro e w9 ⟨hE9a, uq, rfl, huq⟩
  obtain ⟨s9, a9, n9, c9, d9, k9, e9, rfl⟩ := huq.shape
  have bq := Bx.new w9 #[.bool s9, .slice a9 n9 c9, .slice d9 k9 e9] 31
  have hE9b : Ext w9 (w9.alloc (.cells #[.bool s9, .slice a9 n9 c9, .slice d9 k9 e9] 31)) := (ExtX.refl w9).alloc _
  go_wp2_with fail
  obtain ⟨w10, hw10⟩ : ∃ W, w9.alloc (.cells #[.bool s9, .slice a9 n9 c9, .slice d9 k9 e9] 31) = W := ⟨_, rfl⟩
  obtain ⟨pbq, hpbq⟩ : ∃ p, w9.heap.size = p := ⟨_, rfl⟩
  rw [hw10] at bq hE9b ⊢
  rw [hpbq] at bq ⊢
  clear hw10 hpbq
  have hE90 := hE9a.trans hE9b
  refine (hdt.out w10 _ (mkx MC.mono hut (hE56.trans (hE78.trans hE90)))).mono ?_
  rintro e w11 ⟨hE11a, uu, rfl, huu⟩
  obtain ⟨s11, a11, n11, c11, d11, k11, e11, rfl⟩ := huu.shape
  have bu := Bx.new w11 #[.bool s11, .slice a11 n11 c11, .slice d11 k11 e11] 31
  have hE11b : Ext w11 (w11.alloc (.cells #[.bool s11, .slice a11 n11 c11, .slice d11 k11 e11] 31)) := (ExtX.refl w11).alloc _
  go_wp2_with fail
  obtain ⟨w12, hw12⟩ : ∃ W, w11.alloc (.cells #[.bool s11, .slice a11 n11 c11, .slice d11 k11 e11] 31) = W := ⟨_, rfl⟩
  obtain ⟨pbu, hpbu⟩ : ∃ p, w11.heap.size = p := ⟨_, rfl⟩
  rw [hw12] at bu hE11b ⊢
  rw [hpbu] at bu ⊢
  clear hw12 hpbu
  have hE12 := hE11a.trans hE11b
  refine (hrx.out w12 _ (mkx MC.mono hux (hE2.trans (hE3.trans (hE4.trans (hE56.trans (hE78.trans (hE90.trans hE12)))))))).mono ?_
  rintro e w13 ⟨hE13, rfl⟩
  go_wp2_with fail
  refine (hrt.out w13 _ (mkx MC.mono hut (hE56.trans (hE78.trans (hE90.trans (hE12.trans hE13)))))).mono ?_
  rintro e w14 ⟨hE14, rfl⟩
  have hEq : Ext w12 w14 := hE13.trans hE14
  have hEu := hE90.trans (hE12.trans hEq)
  have hEd2 : Ext w14 w14.drew := (ExtX.refl w14).drew
  have cd := bd.ext0 ((hE78.trans hEu).trans hEd2)
  have cc := bc.ext0 (hEu.trans hEd2)
  have cq := bq.ext0 ((hE12.trans hEq).trans hEd2)
  have cu := bu.ext0 (hEq.trans hEd2)
  have zd := mkx QC.mono hud (((hE5b.trans hE78).trans hEu).trans hEd2)
  have zc := mkx QC.mono huc ((hE7b.trans hEu).trans hEd2)
  have zq := mkx QC.mono huq ((hE9b.trans (hE12.trans hEq)).trans hEd2)
  have zu := mkx QC.mono huu ((hE11b.trans hEq).trans hEd2)
  have hEall : Ext w w14.drew := (((hE1.trans hE2).trans (hE3.trans hE4)).trans (hE56.trans (hE78.trans hEu))).trans hEd2
  have hS : Hid (∀ W', Ext w14.drew W' → (W'.cell? ⟨pbd, 0, none⟩ = some (.bool s5) ∧ W'.cell? ⟨pbd, 1, none⟩ = some (.slice a5 n5 c5) ∧ W'.cell? ⟨pbd, 2, none⟩ = some (.slice d5 k5 e5)) ∧ (W'.cell? ⟨pbc, 0, none⟩ = some (.bool s7) ∧ W'.cell? ⟨pbc, 1, none⟩ = some (.slice a7 n7 c7) ∧ W'.cell? ⟨pbc, 2, none⟩ = some (.slice d7 k7 e7)) ∧ (W'.cell? ⟨pbq, 0, none⟩ = some (.bool s9) ∧ W'.cell? ⟨pbq, 1, none⟩ = some (.slice a9 n9 c9) ∧ W'.cell? ⟨pbq, 2, none⟩ = some (.slice d9 k9 e9)) ∧ (W'.cell? ⟨pbu, 0, none⟩ = some (.bool s11) ∧ W'.cell? ⟨pbu, 1, none⟩ = some (.slice a11 n11 c11) ∧ W'.cell? ⟨pbu, 2, none⟩ = some (.slice d11 k11 e11))) := hid fun W' h => ⟨⟨(cd.ext0 h).cell 0 rfl, (cd.ext0 h).cell 1 rfl, (cd.ext0 h).cell 2 rfl⟩, ⟨(cc.ext0 h).cell 0 rfl, (cc.ext0 h).cell 1 rfl, (cc.ext0 h).cell 2 rfl⟩, ⟨(cq.ext0 h).cell 0 rfl, (cq.ext0 h).cell 1 rfl, (cq.ext0 h).cell 2 rfl⟩, ⟨(cu.ext0 h).cell 0 rfl, (cu.ext0 h).cell 1 rfl, (cu.ext0 h).cell 2 rfl⟩⟩
  obtain ⟨⟨x0, x1, x2⟩, ⟨x3, x4, x5⟩, ⟨x6, x7, x8⟩, ⟨x9, x10, x11⟩⟩ := hS.out _ (ExtX.refl _)
  have hRk : Hid (((R : Int) == (k : Int)) = ((D.num.sign : Int) != 0)) := hid (by
    by_cases h : D = 0
    · have h2 : R ≠ k := fun h3 => he4.out.1 h3 h
      rw [beqF (by omega), h]; rfl
    · have h2 : R = k := he4.out.2 h
      rw [beqT (by omega), bneT (fun h3 => h (Rat.num_eq_zero.1 (Int.sign_eq_zero_iff_zero.1 h3)))])
  obtain ⟨sg, hsg⟩ : ∃ sg, D.num.sign = sg := ⟨_, rfl⟩
  rw [hsg] at hRk
  have hsg' := hid hsg
  obtain ⟨β, hβ⟩ : ∃ β, ((R : Int) == (k : Int)) = β := ⟨_, rfl⟩
  have hβ2 : ((sg : Int) != 0) = β := by rw [← hRk.out]; exact hβ
  clear bd bc bq bu cd cc cq cu hsg hRk
  go_wp2_with fail
  go_region_held3 (fun W' => (W'.cell? ⟨pbd, 0, none⟩ = some (.bool s5) ∧ W'.cell? ⟨pbd, 1, none⟩ = some (.slice a5 n5 c5) ∧ W'.cell? ⟨pbd, 2, none⟩ = some (.slice d5 k5 e5)) ∧ (W'.cell? ⟨pbc, 0, none⟩ = some (.bool s7) ∧ W'.cell? ⟨pbc, 1, none⟩ = some (.slice a7 n7 c7) ∧ W'.cell? ⟨pbc, 2, none⟩ = some (.slice d7 k7 e7)) ∧ (W'.cell? ⟨pbq, 0, none⟩ = some (.bool s9) ∧ W'.cell? ⟨pbq, 1, none⟩ = some (.slice a9 n9 c9) ∧ W'.cell? ⟨pbq, 2, none⟩ = some (.slice d9 k9 e9)) ∧ (W'.cell? ⟨pbu, 0, none⟩ = some (.bool s11) ∧ W'.cell? ⟨pbu, 1, none⟩ = some (.slice a11 n11 c11) ∧ W'.cell? ⟨pbu, 2, none⟩ = some (.slice d11 k11 e11)))
    (first | exact hS.out _ t5 | exact hS.out _ t4 | exact hS.out _ t3 | exact hS.out _ t2 | exact hS.out _ t1 | go_keep)
    (first | (go_at_call 22; (with_reducible refine (awake6_any w14.drew).mono ?_); rintro ee w15 ⟨t1, rfl⟩; have zd1 := mkx QC.mono zd t1; have zc1 := mkx QC.mono zc t1) | (go_at_call 57; (with_reducible refine (rqmul noY w15 _ _ D C (HX.none _) (zd1.qv hb1.out) (zc1.qv hb2.out)).mono ?_); rintro ee w16 ⟨t9, um, rfl, hum⟩; obtain ⟨sm_, am_, nm_, cm_, dm_, km_, em_, rfl⟩ := hum.shape; have t2 := t1.trans t9; have zq2 := mkx QC.mono zq t2) | (go_at_call 41; (with_reducible refine (rqsame noY w16 _ _ (D * C) (D * C) zq2 hum hb3.out).mono ?_); rintro ee w17 ⟨t10, rfl⟩; rw [decide_eq_true (rfl : D * C = D * C)]; have t3 := t2.trans t10; have zu3 := mkx QC.mono zu t3; have zd3 := mkx QC.mono zd t3) | (go_at_call 41; (with_reducible refine (rqsame noY w17 _ _ D D zu3 zd3 hb1.out).mono ?_); rintro ee w18 ⟨t11, rfl⟩; rw [decide_eq_true (rfl : D = D)]; have t4 := t3.trans t11; have zd4 := mkx QC.mono zd t4) | (go_at_call 19; (with_reducible refine (rqsign noY w18 _ D (HX.none _) (zd4.qv hb1.out)).mono ?_); rintro ee w19 ⟨t12, rfl⟩; rw [hsg'.out]; have t5 := t4.trans t12))
  clear x0 x1 x2 x3 x4 x5 x6 x7 x8 x9 x10 x11
  go_wp2_with fail
  go_ret
  exact ⟨hEall.trans t5, rfl⟩
end Go.Proofs.YtjbhcniiioepgaaGreat

namespace Go.Proofs.YtjbhcniiioepgaaGreat
open Go.ChangeShapes Go.WideShapes Go.ChangeAt Go.RowKit Go.Rep Go.Deep

section
variable {H : Type} {enc : TypeId × Value → H} {w : World} {base : Nat} {spare : Nat → Bool} {held : Bool}

theorem adr_some {x : Addr} {v : Value} (h : w.cell? (x.add 0) = some v) : (∀ j, x.add j = adr (some x) j) ∧ ∃ b off, x = ⟨b, off, none⟩ := by
  have hs := World.cell?_spot h
  obtain ⟨b, off, spot⟩ := x
  have hspot : spot = none := by simpa [Addr.add] using hs
  subst hspot
  exact ⟨fun j => by rw [Addr.add_lit]; simp [adr], b, off, rfl⟩

theorem ints_of {fuel : Nat} {v : Value} {x : DataW H × List MemPlace} (h : DataW.trod enc Tryz.prog w base spare held fuel 22 [v] = some x) :
    ∃ (a : Option Addr) (l : List Int) (cap : Nat), v = .slice a l.length cap ∧ l.length ≤ cap ∧ l.length ≤ 9223372036854775807 ∧ Sl (IntIn .i64) 1 w.cell? a l := by
  rcases open_ints Tryz.underlying22 Tryz.underlying3 (by kernel_rfl) h with ⟨hcs, _⟩ | ⟨x, len, c, zs, hcs, _, hl, hm, hz, _, hcell, _⟩
  · refine ⟨none, [], 0, by simpa using hcs, by simp, by simp, Sl.nil _ _ _ _⟩
  · have hzl : len ≤ zs.length := by
      rw [hz]; split <;> omega
    have hlen : (zs.take len).length = len := by simp; omega
    have hmax : c ≤ 9223372036854775807 := by simpa [maxLen] using hm
    refine ⟨some x, zs.take len, c, by rw [hlen]; simpa using hcs, by omega, by omega, fun h0 => ?_, fun i hi => ?_⟩
    · obtain ⟨_, b, off, hx⟩ := adr_some (hcell 0 (by omega))
      exact ⟨b, off, by rw [hx]⟩
    · have hi' : i < zs.length := by omega
      refine ⟨.int .i64 (zs.take len)[i], rfl, fun j hj => ?_, rfl⟩
      have hj0 : j = 0 := by simp [Value.cells] at hj; exact hj
      subst hj0
      have h1 := hcell i hi'
      have h2 := (adr_some (hcell 0 (by omega))).1 i
      rw [h2] at h1
      simp only [Nat.mul_one, Nat.add_zero, List.getElem_take]
      rw [h1]
      simp [List.getD_eq_getElem?_getD, hi', Value.cells]

end
end Go.Proofs.YtjbhcniiioepgaaGreat

namespace Go.Proofs.YtjbhcniiioepgaaGreat
open Go.ChangeShapes Go.WideShapes Go.ChangeAt Go.RowKit Go.Rep Go.Deep
theorem rng_i64 {n : Int} (h : (Lit.int .i64 n).wf = true) : -9223372036854775808 ≤ n ∧ n ≤ 9223372036854775807 := by
  unfold Lit.wf at h
  simpa [IntKind.min, IntKind.max, IntKind.signed, IntKind.bits] using h
theorem rng_u8 {n : Int} (h : (Lit.int .u8 n).wf = true) : 0 ≤ n ∧ n < 256 := by
  unfold Lit.wf at h
  have : 0 ≤ n ∧ n ≤ 255 := by simpa [IntKind.min, IntKind.max, IntKind.signed, IntKind.bits] using h
  omega
section
variable {H : Type} {enc : TypeId × Value → H} {P : Program} {w : World} {base : Nat} {spare : Nat → Bool} {held : Bool}
theorem trodAll_six {t0 t1 t2 t3 t4 t5 : TypeId} {args : Array Value} {ds : List (DataW H)} {ps : List MemPlace} (h : DataW.TrodAll enc P w base spare held [t0, t1, t2, t3, t4, t5] args.toList ds ps) :
    ∃ v0 v1 v2 v3 v4 v5 d0 d1 d2 d3 d4 d5 p0 p1 p2 p3 p4 p5, args = #[v0, v1, v2, v3, v4, v5] ∧ ds = [d0, d1, d2, d3, d4, d5] ∧ ps = p0 ++ (p1 ++ (p2 ++ (p3 ++ (p4 ++ p5)))) ∧ DataW.Trod enc P w base spare held t0 v0 d0 p0 ∧ DataW.Trod enc P w base spare held t1 v1 d1 p1 ∧ DataW.Trod enc P w base spare held t2 v2 d2 p2 ∧ DataW.Trod enc P w base spare held t3 v3 d3 p3 ∧ DataW.Trod enc P w base spare held t4 v4 d4 p4 ∧ DataW.Trod enc P w base spare held t5 v5 d5 p5 := by
  obtain ⟨v0, vs0, d0, ds0, p0, q0, hargs, rfl, rfl, h0, r0⟩ := trodAll_cons h
  obtain ⟨v1, vs1, d1, ds1, p1, q1, rfl, rfl, rfl, h1, r1⟩ := trodAll_cons r0
  obtain ⟨v2, vs2, d2, ds2, p2, q2, rfl, rfl, rfl, h2, r2⟩ := trodAll_cons r1
  obtain ⟨v3, vs3, d3, ds3, p3, q3, rfl, rfl, rfl, h3, r3⟩ := trodAll_cons r2
  obtain ⟨v4, vs4, d4, ds4, p4, q4, rfl, rfl, rfl, h4, r4⟩ := trodAll_cons r3
  obtain ⟨v5, vs5, d5, ds5, p5, q5, rfl, rfl, rfl, h5, r5⟩ := trodAll_cons r4
  obtain ⟨rfl, rfl, rfl⟩ := trodAll_nil r5
  refine ⟨v0, v1, v2, v3, v4, v5, d0, d1, d2, d3, d4, d5, p0, p1, p2, p3, p4, p5, ?_, rfl, by simp, h0, h1, h2, h3, h4, h5⟩
  cases args; simp_all
theorem trodAll_three' {t0 t1 t2 : TypeId} {args : Array Value} {ds : List (DataW H)} {ps : List MemPlace} (h : DataW.TrodAll enc P w base spare held [t0, t1, t2] args.toList ds ps) :
    ∃ v0 v1 v2 d0 d1 d2 p0 p1 p2, args = #[v0, v1, v2] ∧ ds = [d0, d1, d2] ∧ ps = p0 ++ (p1 ++ p2) ∧ DataW.Trod enc P w base spare held t0 v0 d0 p0 ∧ DataW.Trod enc P w base spare held t1 v1 d1 p1 ∧ DataW.Trod enc P w base spare held t2 v2 d2 p2 := by
  obtain ⟨v0, vs0, d0, ds0, p0, q0, hargs, rfl, rfl, h0, r0⟩ := trodAll_cons h
  obtain ⟨v1, vs1, d1, ds1, p1, q1, rfl, rfl, rfl, h1, r1⟩ := trodAll_cons r0
  obtain ⟨v2, vs2, d2, ds2, p2, q2, rfl, rfl, rfl, h2, r2⟩ := trodAll_cons r1
  obtain ⟨rfl, rfl, rfl⟩ := trodAll_nil r2
  refine ⟨v0, v1, v2, d0, d1, d2, p0, p1, p2, ?_, rfl, by simp, h0, h1, h2⟩
  cases args; simp_all
theorem trodAll_two' {t0 t1 : TypeId} {args : Array Value} {ds : List (DataW H)} {ps : List MemPlace} (h : DataW.TrodAll enc P w base spare held [t0, t1] args.toList ds ps) :
    ∃ v0 v1 d0 d1 p0 p1, args = #[v0, v1] ∧ ds = [d0, d1] ∧ ps = p0 ++ p1 ∧ DataW.Trod enc P w base spare held t0 v0 d0 p0 ∧ DataW.Trod enc P w base spare held t1 v1 d1 p1 := by
  obtain ⟨v0, vs0, d0, ds0, p0, q0, hargs, rfl, rfl, h0, r0⟩ := trodAll_cons h
  obtain ⟨v1, vs1, d1, ds1, p1, q1, rfl, rfl, rfl, h1, r1⟩ := trodAll_cons r0
  obtain ⟨rfl, rfl, rfl⟩ := trodAll_nil r1
  refine ⟨v0, v1, d0, d1, p0, p1, ?_, rfl, by simp, h0, h1⟩
  cases args; simp_all
theorem trodAll_five' {t0 t1 t2 t3 t4 : TypeId} {args : Array Value} {ds : List (DataW H)} {ps : List MemPlace} (h : DataW.TrodAll enc P w base spare held [t0, t1, t2, t3, t4] args.toList ds ps) :
    ∃ v0 v1 v2 v3 v4 d0 d1 d2 d3 d4 p0 p1 p2 p3 p4, args = #[v0, v1, v2, v3, v4] ∧ ds = [d0, d1, d2, d3, d4] ∧ ps = p0 ++ (p1 ++ (p2 ++ (p3 ++ p4))) ∧ DataW.Trod enc P w base spare held t0 v0 d0 p0 ∧ DataW.Trod enc P w base spare held t1 v1 d1 p1 ∧ DataW.Trod enc P w base spare held t2 v2 d2 p2 ∧ DataW.Trod enc P w base spare held t3 v3 d3 p3 ∧ DataW.Trod enc P w base spare held t4 v4 d4 p4 := by
  obtain ⟨v0, vs0, d0, ds0, p0, q0, hargs, rfl, rfl, h0, r0⟩ := trodAll_cons h
  obtain ⟨v1, vs1, d1, ds1, p1, q1, rfl, rfl, rfl, h1, r1⟩ := trodAll_cons r0
  obtain ⟨v2, vs2, d2, ds2, p2, q2, rfl, rfl, rfl, h2, r2⟩ := trodAll_cons r1
  obtain ⟨v3, vs3, d3, ds3, p3, q3, rfl, rfl, rfl, h3, r3⟩ := trodAll_cons r2
  obtain ⟨v4, vs4, d4, ds4, p4, q4, rfl, rfl, rfl, h4, r4⟩ := trodAll_cons r3
  obtain ⟨rfl, rfl, rfl⟩ := trodAll_nil r4
  refine ⟨v0, v1, v2, v3, v4, d0, d1, d2, d3, d4, p0, p1, p2, p3, p4, ?_, rfl, by simp, h0, h1, h2, h3, h4⟩
  cases args; simp_all
theorem ints_wf {fuel : Nat} {v : Value} {x : DataW H × List MemPlace} (h : DataW.trod enc Tryz.prog w base spare held fuel 22 [v] = some x) :
    ∃ (a : Option Addr) (l : List Int) (cap : Nat), v = .slice a l.length cap ∧ l.length ≤ cap ∧ l.length ≤ 9223372036854775807 ∧ Sl (IntIn .i64) 1 (mk noY w) a l ∧ ∀ x ∈ l, -9223372036854775808 ≤ x ∧ x ≤ 9223372036854775807 := by
  rw [mk_noY]
  rcases open_ints Tryz.underlying22 Tryz.underlying3 (by kernel_rfl) h with ⟨hcs, _⟩ | ⟨x, len, c, zs, hcs, _, hl, hm, hz, _, hcell, hwf⟩
  · refine ⟨none, [], 0, by simpa using hcs, by simp, by simp, Sl.nil _ _ _ _, by simp⟩
  · have hzl : len ≤ zs.length := by
      rw [hz]; split <;> omega
    have hlen : (zs.take len).length = len := by simp; omega
    have hmax : c ≤ 9223372036854775807 := by simpa [maxLen] using hm
    refine ⟨some x, zs.take len, c, by rw [hlen]; simpa using hcs, by omega, by omega, ⟨fun h0 => ?_, fun i hi => ?_⟩, fun y hy => rng_i64 (hwf y (List.mem_of_mem_take hy))⟩
    · obtain ⟨_, b, off, hx⟩ := adr_some (hcell 0 (by omega))
      exact ⟨b, off, by rw [hx]⟩
    · have hi' : i < zs.length := by omega
      refine ⟨.int .i64 (zs.take len)[i], rfl, fun j hj => ?_, rfl⟩
      have hj0 : j = 0 := by simp [Value.cells] at hj; exact hj
      subst hj0
      have h1 := hcell i hi'
      have h2 := (adr_some (hcell 0 (by omega))).1 i
      rw [h2] at h1
      simp only [Nat.mul_one, Nat.add_zero, List.getElem_take]
      rw [h1]
      simp [List.getD_eq_getElem?_getD, hi', Value.cells]
end
end Go.Proofs.YtjbhcniiioepgaaGreat

namespace Go.Proofs.YtjbhcniiioepgaaGreat.seat
open Go.RowKit
theorem and_t {a b : Bool} (h1 : a = true) (h2 : b = true) : (a && b) = true := by rw [h1, h2]; rfl
theorem laid : laidOutB Tryz.pinned.checked.prog = true := by kernel_rfl
theorem maps : mapsRowed Tryz.pinned.checked.prog = true := by kernel_rfl
theorem stops : (Program.stops Tryz.pinned.checked.prog == []) = true := by kernel_rfl
theorem knobs : (Program.stopKnobs Tryz.pinned.checked.prog == []) = true := by kernel_rfl
theorem heard : Program.stopsHeard Tryz.pinned.checked.prog = true := by kernel_rfl
theorem enter : Program.mayEnter Tryz.pinned.checked.prog = true := by kernel_rfl
theorem lifts : (Rows.matrixReducedFormIsUniqueRow.lifted == Program.liftsFinal Tryz.pinned.checked.prog) = true := by kernel_rfl
theorem make : (Program.make Tryz.pinned.checked.prog == some Rows.matrixReducedFormIsUniqueRow.make) = true := by kernel_rfl
theorem plain : (Rows.matrixReducedFormIsUniqueRow.plainKeys == Program.plainKeys Tryz.pinned.checked.prog) = true := by kernel_rfl
end Go.Proofs.YtjbhcniiioepgaaGreat.seat
