/- certify.apart, certify.read, within. Conditions: lengths far below any machine's. -/
import Derived.Test.YtblifbnbjffgkaaInts
import Derived.Test.YtblifbnbjffgkaaLeafL
namespace Go.Proofs.Ytblifbnbjffgkaa
open Go.RowKit Go.Rep Go.Lim

theorem capart_any (X : Nat → Bool) (ao bo : Option Addr) (a b : List Int) (ca cb : Nat) (w : World) (hsa : Sl (IntIn .i64) 1 (mk X w) ao a) (hsb : Sl (IntIn .i64) 1 (mk X w) bo b) (hla : a.length ≤ 1099511627776) (hlb : a.length ≤ b.length)
    (hra : Hid (∀ i (h : i < a.length), 0 ≤ a[i] ∧ a[i] ≤ 2)) (hrb : Hid (∀ i (h : i < b.length), 0 ≤ b[i] ∧ b[i] ≤ 2)) :
    Calls Try.prog 24 #[.slice ao a.length ca, .slice bo b.length cb] w fun e w' => w = w' ∧ e = .returned (.bool (apartS a b)) := by
  have hha := hsa.hd
  have hhb := hsb.hd
  go_enter Try.func24, Try.ntmps24
  go_wp2_with fail
  go_loop [9] (fun c => ∃ i : Nat, c = .int .i64 i ∧ i ≤ a.length ∧ Hid (∀ p, p < i → ((a.getD p 0 + b.getD p 0 == 3) && (a.getD p 0 != 0) && (b.getD p 0 != 0)) = false)) (fun c => a.length - (intOf c).toNat)
  case atStart => exact ⟨0, rfl, Nat.zero_le _, fun p hp => by omega⟩
  case round =>
    obtain ⟨i, rfl, hi, hok⟩ := hrel
    by_cases hlt : i < a.length
    · have hlt2 : i < b.length := by omega
      have c1 := hsa.int i hlt
      have c2 := hsb.int i hlt2
      have e1 := getD_eq hlt
      have e2 := getD_eq hlt2
      have r1 := hra.out i hlt
      have r2 := hrb.out i hlt2
      obtain ⟨x, hx⟩ : ∃ x, a[i] = x := ⟨_, rfl⟩
      obtain ⟨y, hy⟩ : ∃ y, b[i] = y := ⟨_, rfl⟩
      rw [hx] at c1 e1 r1
      rw [hy] at c2 e2 r2
      have e1' := hid e1
      have e2' := hid e2
      obtain ⟨r11, r12⟩ := r1
      obtain ⟨r21, r22⟩ := r2
      clear hx hy e1 e2
      have bad : Hid (((x + y == 3) && (x != 0) && (y != 0)) = true → apartS a b = true) := hid fun h => any_range_true i hlt (by rw [e1'.out, e2'.out]; exact h)
      have good : Hid (((x + y == 3) && (x != 0) && (y != 0)) = false → ∀ p, p < i + 1 → ((a.getD p 0 + b.getD p 0 == 3) && (a.getD p 0 != 0) && (b.getD p 0 != 0)) = false) := hid fun h => upto_succ hok.out (by rw [e1'.out, e2'.out]; exact h)
      by_cases h1 : x + y = 3
      · have b1 : (x + y == 3) = true := beqT h1
        by_cases h2 : x = 0
        · omega
        · have b2 : (x != 0) = true := bneT h2
          by_cases h3 : y = 0
          · omega
          · have b3 : (y != 0) = true := bneT h3
            have hv := hid (bad.out (by rw [b1, b2, b3]; rfl))
            clear h1 h2 h3
            go_wp2_with (with_reducible refine up_ix1 slInt (by omega) (by assumption) ?_)
            go_ret
            exact ⟨rfl, ret_bool hv.out.symm⟩
      · have b1 : (x + y == 3) = false := beqF h1
        have hv := hid (good.out (by rw [b1]; rfl))
        clear h1
        go_wp2_with (with_reducible refine up_ix1 slInt (by omega) (by assumption) ?_)
        go_round
        case rel => exact ⟨i + 1, by go_num, by omega, hv.out⟩
        case measure => simp [intOf]; omega
    · have hv : Hid (apartS a b = false) := hid (any_range_false fun p hp => hok.out p (by omega))
      go_wp2_with fail
      go_ret
      exact ⟨rfl, ret_bool hv.out.symm⟩

theorem lwithin_any (X : Nat → Bool) (ao bo : Option Addr) (a b : List Int) (ca cb : Nat) (w : World) (hsa : Sl (IntIn .i64) 1 (mk X w) ao a) (hsb : Sl (IntIn .i64) 1 (mk X w) bo b) (hla : a.length ≤ 1099511627776) (hlb : b.length ≤ 1099511627776) (hX : ∀ k, X k = true → k < w.heap.size) :
    Calls Try.prog 14 #[.slice ao a.length ca, .slice bo b.length cb] w fun e w' => Ext w w' ∧ e = .returned (.bool (a.all fun x => b.any fun y => x == y)) := by
  have hha := hsa.hd
  have hhb := hsb.hd
  go_enter Try.func14, Try.ntmps14
  go_wp2_with fail
  go_loopw [9] (fun c wr => ∃ i : Nat, c = .int .i64 i ∧ i ≤ a.length ∧ Hid (∀ p, p < i → ∀ (hp : p < a.length), (b.any fun y => a[p] == y) = true) ∧ Ext w wr) (fun c _ => a.length - (intOf c).toNat)
  case atStart => exact ⟨0, rfl, Nat.zero_le _, fun p hp => by omega, ExtX.refl _⟩
  case round =>
    obtain ⟨i, rfl, hi, hok, hE⟩ := hrel
    by_cases hlt : i < a.length
    · have c1 := (hsa.mono (IntIn.mono _) (mk_ext hE)).int i hlt
      obtain ⟨x, hx⟩ : ∃ x, a[i] = x := ⟨_, rfl⟩
      rw [hx] at c1
      have hx' := hid hx
      clear hx
      have hXr : ∀ k, X k = true → k < wr.heap.size := fun k hk => Nat.lt_of_lt_of_le (hX k hk) hE.size
      have hO : OL (IntIn .i64) 1 X wr.heap.size 3 (wr.alloc (.cells #[.int .i64 x] 3)) (some ⟨wr.heap.size, 0, none⟩) 1 [x] :=
        OL.lit (IntIn.elem .i64) hXr (Nat.le_refl _) [.int .i64 x] [x] _ (by simp [cellsL, Value.cells]) rfl
          (fun i hi _ => by match i, hi with
                            | 0, _ => rfl) (by simp)
      have hsx := hO.sl (IntIn.elem .i64)
      have hEn : Ext wr (wr.alloc (.cells #[.int .i64 x] 3)) := (ExtX.refl wr).alloc _
      have hsb2 := hsb.mono (IntIn.mono _) (mk_ext (hE.trans hEn))
      have hm : Hid ((!meets [x] b) = (!(b.any fun y => x == y))) := hid (by simp [meets])
      cases hv : b.any fun y => x == y
      · have hv' := hid hv
        clear hv
        go_wp2_with (with_reducible refine up_ix1 slInt (by omega) (by assumption) ?_)
        refine (lapart_any X _ bo [x] b _ cb _ hsx hsb2 (by simp) hlb).mono ?_
        rintro e w' ⟨rfl, rfl⟩
        rw [hm.out, hv'.out]
        go_wp2_with fail
        go_ret
        exact ⟨hE.trans hEn, ret_bool (by
          cases h : a.all fun x => b.any fun y => x == y
          · rfl
          · have := List.all_eq_true.1 h a[i] (List.getElem_mem _)
            rw [hx'.out, hv'.out] at this; simp at this)⟩
      · have hn : Hid (∀ hp : i < a.length, (b.any fun y => a[i] == y) = true) := hid fun _ => by rw [hx'.out]; exact hv
        have hv' := hid hv
        clear hv
        go_wp2_with (with_reducible refine up_ix1 slInt (by omega) (by assumption) ?_)
        refine (lapart_any X _ bo [x] b _ cb _ hsx hsb2 (by simp) hlb).mono ?_
        rintro e w' ⟨rfl, rfl⟩
        rw [hm.out, hv'.out]
        go_wp2_with fail
        go_roundw
        case rel => exact ⟨i + 1, by go_num, by omega, upto_succ hok.out hn.out, hE.trans hEn⟩
        case measure => simp [intOf]; omega
    · have hv : Hid ((a.all fun x => b.any fun y => x == y) = true) := hid (List.all_eq_true.2 fun x hx => by
        obtain ⟨p, hp, rfl⟩ := List.getElem_of_mem hx
        exact hok.out p (by omega) hp)
      go_wp2_with fail
      go_ret
      exact ⟨hE, ret_bool hv.out.symm⟩

/-- The sides of a leaf and true, or false. -/
def ReadOut (X : Nat → Bool) (w : World) (n h : Nat) (x : Leaf) (e : Ending) (w' : World) : Prop :=
  Ext w w' ∧ ((leafOk n h x = false ∧ e = .returned (.tuple #[.slice none 0 0, .bool false])) ∨
    (leafOk n h x = true ∧ ∃ ao cap, e = .returned (.tuple #[.slice ao n cap, .bool true]) ∧ n ≤ cap ∧ Sl (IntIn .i64) 1 (mk X w') ao (sideL n x.1 x.2)))

set_option maxRecDepth 100000 in
set_option maxHeartbeats 800000 in
theorem read_any (X : Nat → Bool) (ao bo : Option Addr) (I O : List Int) (ca cb n h : Nat) (w : World) (hsa : Sl (IntIn .i64) 1 (mk X w) ao I) (hsb : Sl (IntIn .i64) 1 (mk X w) bo O) (hla : I.length ≤ 1099511627776) (hlb : O.length ≤ 1099511627776)
    (hn : n ≤ 64) (hh : h ≤ n) (hX : ∀ k, X k = true → k < w.heap.size) :
    Calls Try.prog 23 #[.int .i64 n, .int .i64 h, .agg #[.slice ao I.length ca, .slice bo O.length cb]] w (ReadOut X w n h (I, O)) := by
  have hha := hsa.hd
  have hhb := hsb.hd
  have hE0 : Ext w (w.alloc (.cells #[.slice ao I.length ca, .slice bo O.length cb] 26)) := (ExtX.refl w).alloc _
  have hsa1 := hsa.mono (IntIn.mono _) (mk_ext hE0)
  have hsb1 := hsb.mono (IntIn.mono _) (mk_ext hE0)
  have hX1 : ∀ k, X k = true → k < (w.alloc (.cells #[.slice ao I.length ca, .slice bo O.length cb] 26)).heap.size := fun k hk => Nat.lt_of_lt_of_le (hX k hk) hE0.size
  have hlf : Hid (leafOk n h (I, O) = (ascB I n && ascB O n && decide ((I.length : Int) ≤ h) && decide ((O.length : Int) ≤ n - h) && !meets I O)) := hid rfl
  cases h1 : ascB I n
  · have hv : Hid (leafOk n h (I, O) = false) := hid (by rw [hlf.out, h1]; rfl)
    have h1' := hid h1
    clear h1
    go_enter Try.func23, Try.ntmps23
    go_wp2_with (first | (go_at_call 39; refine (ascending_any X ao I ca n _ hsa1 hla).mono ?_; rintro e w' ⟨rfl, rfl⟩; rw [h1'.out]))
    go_ret2
    exact ⟨hE0, .inl ⟨hv.out, rfl⟩⟩
  have h1' := hid h1
  cases h2 : ascB O n
  · have hv : Hid (leafOk n h (I, O) = false) := hid (by rw [hlf.out, h1, h2]; rfl)
    have h2' := hid h2
    clear h1 h2
    go_enter Try.func23, Try.ntmps23
    go_wp2_with fail
    refine (ascending_any X ao I ca n _ hsa1 hla).mono ?_; rintro e w' ⟨rfl, rfl⟩; rw [h1'.out]
    go_wp2_with fail
    refine (ascending_any X bo O cb n _ hsb1 hlb).mono ?_; rintro e w' ⟨rfl, rfl⟩; rw [h2'.out]
    go_wp2_with fail
    go_ret2
    exact ⟨hE0, .inl ⟨hv.out, rfl⟩⟩
  have h2' := hid h2
  by_cases h3 : h < I.length
  · have hv : Hid (leafOk n h (I, O) = false) := hid (by rw [hlf.out, h1, h2, decide_eq_false (by omega)]; rfl)
    clear h1 h2
    go_enter Try.func23, Try.ntmps23
    go_wp2_with fail
    refine (ascending_any X ao I ca n _ hsa1 hla).mono ?_; rintro e w' ⟨rfl, rfl⟩; rw [h1'.out]
    go_wp2_with fail
    refine (ascending_any X bo O cb n _ hsb1 hlb).mono ?_; rintro e w' ⟨rfl, rfl⟩; rw [h2'.out]
    go_wp2_with fail
    go_ret2
    exact ⟨hE0, .inl ⟨hv.out, rfl⟩⟩
  by_cases h4 : n < O.length + h
  · have hv : Hid (leafOk n h (I, O) = false) := hid (by rw [hlf.out, h1, h2, decide_eq_true (by omega), decide_eq_false (by omega)]; rfl)
    clear h1 h2
    go_enter Try.func23, Try.ntmps23
    go_wp2_with fail
    refine (ascending_any X ao I ca n _ hsa1 hla).mono ?_; rintro e w' ⟨rfl, rfl⟩; rw [h1'.out]
    go_wp2_with fail
    refine (ascending_any X bo O cb n _ hsb1 hlb).mono ?_; rintro e w' ⟨rfl, rfl⟩; rw [h2'.out]
    go_wp2_with fail
    go_ret2
    exact ⟨hE0, .inl ⟨hv.out, rfl⟩⟩
  have hlf2 : Hid (leafOk n h (I, O) = !meets I O) := hid (by rw [hlf.out, h1, h2, decide_eq_true (by omega), decide_eq_true (by omega)]; rfl)
  clear hlf
  go_enter Try.func23, Try.ntmps23
  have cl1 := h1
  have cl2 := h2
  have h1 := hid cl1
  have h2 := hid cl2
  clear cl1 cl2
  go_wp2_with fail
  refine (ascending_any X ao I ca n _ hsa1 hla).mono ?_; rintro e w' ⟨rfl, rfl⟩; rw [h1'.out]
  go_wp2_with fail
  refine (ascending_any X bo O cb n _ hsb1 hlb).mono ?_; rintro e w' ⟨rfl, rfl⟩; rw [h2'.out]
  go_wp2_with (at_make; refine st_make slInt (IntIn.elem .i64) 0 (fun _ => rfl) X hX1 _ (Nat.le_refl _) n rfl rfl rfl (by omega) (by omega) ?_; intro oo w1 hO1 hE1; have hc1 : w1.cell? ⟨w.heap.size, 0, none⟩ = some (.slice ao I.length ca) := hE1.cell (cell_new (w := w) (cs := #[.slice ao I.length ca, .slice bo O.length cb]) (e := 26) 0 rfl); have hc2 : w1.cell? ⟨w.heap.size, 1, none⟩ = some (.slice bo O.length cb) := hE1.cell (cell_new (w := w) (cs := #[.slice ao I.length ca, .slice bo O.length cb]) (e := 26) 1 rfl))
  have hho : Hd oo n := by have := hO1.hd; simpa using this
  rw [← sideL_zero] at hO1
  have hE01 : Ext w w1 := hE0.trans hE1
  have hB : w.heap.size ≤ (w.alloc (.cells #[.slice ao I.length ca, .slice bo O.length cb] 26)).heap.size := hE0.size
  have hBl : w.heap.size < (w.alloc (.cells #[.slice ao I.length ca, .slice bo O.length cb] 26)).heap.size := by simp
  generalize (w.alloc (.cells #[.slice ao I.length ca, .slice bo O.length cb] 26)).heap.size = B at hO1 hB hBl
  clear hsa1 hsb1 hX1 hE0 hE1 hc1
  go_loopw [46] (fun c wr => ∃ k : Nat, c = .int .i64 k ∧ k ≤ I.length ∧ OL (IntIn .i64) 1 X B 3 wr oo n (sideL n (I.take k) []) ∧ wr.cell? ⟨w.heap.size, 1, none⟩ = some (.slice bo O.length cb) ∧ Ext w wr) (fun c _ => I.length - (intOf c).toNat)
  case atStart => exact ⟨0, rfl, Nat.zero_le _, hO1, hc2, hE01⟩
  case round =>
    clear hO1 hc2 hE01
    obtain ⟨k, rfl, hk, hO, hcO, hE⟩ := hrel
    by_cases hlt : k < I.length
    · have c1 := (hsa.mono (IntIn.mono _) (mk_ext hE)).int k hlt
      obtain ⟨hx0, hxn⟩ := ascB_get h1'.out k hlt
      obtain ⟨x, hx⟩ := Int.eq_ofNat_of_zero_le hx0
      rw [hx] at c1 hxn
      have hst := hid (sideL_in (n := n) hlt hx)
      clear hx hx0
      have hxl : x < (sideL n (I.take k) []).length := by rw [sideL_length]; omega
      go_wp2_with (first | (with_reducible refine up_ix1 slInt (by omega) (by assumption) ?_) | ((with_reducible show wpList _ _ _ (⟨_, .store _ _ _, _, _, _, _⟩ :: _) _ _); refine st_storeInt tyInt x 1 rfl (by omega) hO hxl rfl rfl ?_; intro w3 hO3 hE3))
      rw [hst.out] at hO3
      have hcO3 := hE3.cellY hcO (hO.ob_lt hBl)
      go_wp2_with fail
      go_roundw
      case rel => exact ⟨k + 1, by go_num, by omega, hO3, hcO3, hE.own hO hB hE3⟩
      case measure => simp [intOf]; omega
    · have hke : k = I.length := by omega
      subst hke
      rw [List.take_length] at hO
      have hO2 : OL (IntIn .i64) 1 X B 3 wr oo n (sideL n I (O.take 0)) := hO
      go_wp2_with fail
      go_loopw [57] (fun c wr => ∃ k : Nat, c = .int .i64 k ∧ k ≤ O.length ∧ Hid (∀ q, q < k → ∀ hq : q < O.length, ¬ O[q] ∈ I) ∧ OL (IntIn .i64) 1 X B 3 wr oo n (sideL n I (O.take k)) ∧ Ext w wr) (fun c _ => O.length - (intOf c).toNat)
      case atStart => exact ⟨0, rfl, Nat.zero_le _, fun q hq => by omega, hO2, hE⟩
      case round =>
        clear hO hO2 hE hcO
        obtain ⟨k, rfl, hk, hok, hO, hE⟩ := hrel
        by_cases hlt : k < O.length
        · have c1 := (hsb.mono (IntIn.mono _) (mk_ext hE)).int k hlt
          obtain ⟨hx0, hxn⟩ := ascB_get h2'.out k hlt
          obtain ⟨x, hx⟩ := Int.eq_ofNat_of_zero_le hx0
          rw [hx] at c1 hxn
          have hxl : x < (sideL n I (O.take k)).length := by rw [sideL_length]; omega
          have c2 := (hO.sl (IntIn.elem _)).int x hxl
          rw [sideL_get] at c2
          by_cases hm : (x : Int) ∈ I
          · rw [if_pos hm] at c2
            have hv : Hid (leafOk n h (I, O) = false) := hid (by rw [hlf2.out, meets_iff.2 ⟨_, hm, by rw [← hx]; exact List.getElem_mem hlt⟩]; rfl)
            clear hx hm hx0
            go_wp2_with (with_reducible refine up_ix1 slInt (by omega) (by assumption) ?_)
            go_ret2
            exact ⟨hE, .inl ⟨hv.out, rfl⟩⟩
          · rw [if_neg hm] at c2
            have hnt : ¬ (x : Int) ∈ O.take k := by
              intro hmem
              obtain ⟨j, hj, hje⟩ := List.getElem_of_mem hmem
              simp at hj
              have := ascB_lt h2'.out j k (by omega) hlt
              rw [List.getElem_take] at hje
              omega
            rw [if_neg hnt] at c2
            have hst := hid (sideL_out (n := n) (I := I) hlt hx hm)
            have hok' := hid (upto_succ hok.out (fun hq => by rw [hx]; exact hm))
            clear hx hx0 hm hnt
            go_wp2_with (first | (with_reducible refine up_ix1 slInt (by omega) (by assumption) ?_) | ((with_reducible show wpList _ _ _ (⟨_, .store _ _ _, _, _, _, _⟩ :: _) _ _); refine st_storeInt tyInt x 2 rfl (by omega) hO hxl rfl rfl ?_; intro w3 hO3 hE3))
            rw [hst.out] at hO3
            go_wp2_with fail
            go_roundw
            case rel => exact ⟨k + 1, by go_num, by omega, hok'.out, hO3, hE.own hO hB hE3⟩
            case measure => simp [intOf]; omega
        · have hke : k = O.length := by omega
          subst hke
          rw [List.take_length] at hO
          have hv : Hid (leafOk n h (I, O) = true) := hid (by
            rw [hlf2.out]
            cases hm : meets I O
            · rfl
            · obtain ⟨v, hv1, hv2⟩ := meets_iff.1 hm
              obtain ⟨j, hj, rfl⟩ := List.getElem_of_mem hv2
              exact absurd hv1 (hok.out j hj hj))
          go_wp2_with fail
          go_ret2
          exact ⟨hE, .inr ⟨hv.out, oo, n, rfl, Nat.le_refl _, hO.sl (IntIn.elem _)⟩⟩
end Go.Proofs.Ytblifbnbjffgkaa
