/- What Solve and Null return, for law 06. Conditions: at most four rows and columns. reference 06: SameInts. Conditions: lengths far below any machine's. reference 03: Div, Same. Conditions: at most 2^36 digits. reference 03: Same. Conditions: at most 2^36 digits. reference 03: SameList, SameLists. Conditions: at most 2^36 digits. reference 03: SameLists. Conditions: at most 2^36 digits. law 06: awake. Conditions: none. law 06: MatrixNullIsABasis returns true. Conditions: none but Go's own. Arguments, opened to lists: []int. Conditions: none. -/
import Derived.Test.YtjbhcniiioepgaaNuP
import Derived.BigQuiet
import Derived.WalkKit
import Derived.ProofKit
import Derived.OpenShut
import Derived.ShutString
import Derived.ChangeOld
import Derived.Below
import Derived.Deep.Slices
import Derived.Deep.Fields
import Derived.ChangeSame
namespace Go.Lin
open Go.Lim
theorem br_of {l : List Rat} {B : Nat} (h : ∀ x, x < l.length → hq (l.getD x 0) ≤ B) : Go.Rep.BR B l := fun q hq => by
  obtain ⟨x, hx, rfl⟩ := List.getElem_of_mem hq
  have := h x hx
  rwa [List.getD_eq_getElem?_getD, List.getElem?_eq_getElem hx] at this
theorem br_get {l : List Rat} {B : Nat} (h : Go.Rep.BR B l) (hB : 1 ≤ B) (x : Nat) : hq (l.getD x 0) ≤ B := by
  by_cases hx : x < l.length
  · rw [List.getD_eq_getElem?_getD, List.getElem?_eq_getElem hx]; exact h _ (List.getElem_mem _)
  · rw [List.getD_eq_getElem?_getD, List.getElem?_eq_none (by omega)]
    show hq 0 ≤ B
    rw [hq_zero]; exact hB
theorem list_ext0 {a b : List Rat} {n : Nat} (ha : a.length = n) (hb : b.length = n) (h : ∀ i, i < n → a.getD i 0 = b.getD i 0) : a = b := by
  refine List.ext_getElem (by omega) fun i h1 h2 => ?_
  have := h i (by omega)
  rwa [List.getD_eq_getElem?_getD, List.getElem?_eq_getElem h1, List.getD_eq_getElem?_getD, List.getElem?_eq_getElem h2] at this
theorem pow35' {k : Nat} (hk : k ≤ 4) : 35 ^ k ≤ 1500625 := Nat.le_trans (Nat.pow_le_pow_right (by omega) hk) (by decide)
theorem wideB_hb {m : Mat} {b : List Rat} {n c B : Nat} (hs : Shp n c m) (hm : HB B m) (hb : Go.Rep.BR B b) : HB B (wideB m b n) := fun i j => by
  have h1 := hm.pos
  by_cases hi : i < n
  · by_cases hj : j < c + 1
    · rw [ent_wideB hs i hi j hj]; unfold wideF
      split
      · exact br_get hb h1 i
      · exact hm i j
    · rw [ent_out (wideB_shp hs) (.inr (by omega)), hq_zero]; exact h1
  · rw [ent_out (wideB_shp (b := b) hs) (.inl (by omega)), hq_zero]; exact h1
theorem wideB_re {m : Mat} {b : List Rat} {n c : Nat} (hs : Shp n c m) : ∃ d, RE n (c + 1) (wideF c (ent m) fun i => b.getD i 0) (ent (redP (wideB m b n) (c + 1)).1) d := by
  obtain ⟨_, _, d, h3⟩ := redP_ok (wideB_shp (b := b) hs)
  exact ⟨d, h3.congr fun i hi j hj => (ent_wideB hs i hi j hj).symm⟩
theorem app_eq {m : Mat} {v b : List Rat} {n c : Nat} (hs : Shp n c m) (hb : b.length = n) (h : ∀ i, i < n → sm c (fun j => ent m i j * v.getD j 0) = b.getD i 0) : appL m v = b :=
  list_ext0 (by rw [appL_len]; exact hs.1) hb fun i hi => by rw [appL_sm hs i hi]; exact h i hi
/-- What Solve returns is a solution if there is one. -/
theorem sol_main {m : Mat} {n c : Nat} {x0 : List Rat} (hs : Shp n c m) : c ∉ (redP (wideB m (appL m x0) n) (c + 1)).2 ∧ appL m (solL (redP (wideB m (appL m x0) n) (c + 1)).1 (redP (wideB m (appL m x0) n) (c + 1)).2 c) = appL m x0 := by
  obtain ⟨d, hd⟩ := wideB_re (b := appL m x0) hs
  obtain ⟨_, h2, _⟩ := redP_ok (wideB_shp (b := appL m x0) hs)
  have h4 := sol_no h2 hd (fun j => x0.getD j 0) fun i hi => (appL_sm hs i hi).symm
  refine ⟨h4, app_eq hs (by rw [appL_len]; exact hs.1) fun i hi => ?_⟩
  have := sol_ok h2 hd h4 i hi
  rw [sm_congr fun j hj => by rw [solL_get h2 j hj]]
  exact this
theorem sol_len (R : Mat) (p : List Nat) (c : Nat) : (solL R p c).length = c := sN_len _ _ _ _
theorem sol_br {m : Mat} {b : List Rat} {n c B : Nat} (hs : Shp n c m) (hm : HB B m) (hb : Go.Rep.BR B b) : Go.Rep.BR (35 ^ n * B) (solL (redP (wideB m b n) (c + 1)).1 (redP (wideB m b n) (c + 1)).2 c) := br_of fun x hx => by
  obtain ⟨_, h2, _⟩ := redP_ok (wideB_shp (b := b) hs)
  have h5 := hb_redP (wideB_hb hs hm hb) (wideB_shp hs)
  rw [sol_len] at hx
  rw [solL_get h2 x hx]
  unfold solX
  split
  · exact h5 _ _
  · rw [hq_zero]; exact h5.pos
/-- The null vectors are null vectors. -/
theorem null_main {m : Mat} {n c B : Nat} (hs : Shp n c m) (hm : HB B m) : ∀ l ∈ nullL (ent (redP m c).1) (redP m c).2 c, l.length = c ∧ Go.Rep.BR (35 ^ n * B) l ∧ ∀ i, i < n → sm c (fun j => ent m i j * l.getD j 0) = 0 := fun l hl => by
  obtain ⟨j, hj, rfl⟩ := List.mem_map.1 hl
  rw [List.mem_filter, List.mem_range] at hj
  obtain ⟨_, h2, d, h3⟩ := redP_ok hs
  have h5 := hb_redP hm hs
  have hjp : j ∉ (redP m c).2 := by simpa using hj.2
  have hg : ∀ x, x < c → ((List.range c).map (nv (ent (redP m c).1) (redP m c).2 j)).getD x 0 = nv (ent (redP m c).1) (redP m c).2 j x := fun x hx => by simp [List.getD_eq_getElem?_getD, hx]
  refine ⟨by simp, br_of fun x hx => ?_, fun i hi => ?_⟩
  · rw [hg x (by simpa using hx)]
    unfold nv
    split
    · exact Nat.le_trans (show hq (1 : Rat) ≤ 1 by decide +kernel) h5.pos
    · split
      · rw [hq_neg]; exact h5 _ _
      · rw [hq_zero]; exact h5.pos
  · rw [sm_congr fun x hx => by rw [hg x hx]]
    exact (h3.nul _).2 (h2.nv_nul hjp hj.1) i hi
/-- Multiples of null vectors are added. -/
def xS (x : List Rat) (L : Mat) (f : Nat → Rat) : Nat → List Rat
  | 0 => x
  | i + 1 => List.zipWith (· + ·) (xS x L f i) ((L.getD i []).map (· * f i))
theorem xS_ok {m L : Mat} {x b : List Rat} {f : Nat → Rat} {n c B C : Nat} (hs : Shp n c m) (hx : x.length = c) (hxb : Go.Rep.BR B x) (hb : appL m x = b) (hL : ∀ l ∈ L, l.length = c ∧ Go.Rep.BR C l ∧ ∀ i, i < n → sm c (fun j => ent m i j * l.getD j 0) = 0) (hf : ∀ i, hq (f i) ≤ 2) (hB1 : 1 ≤ B) (hC1 : 1 ≤ C) (i : Nat) (hi : i ≤ L.length) :
    (xS x L f i).length = c ∧ Go.Rep.BR (B + i * (C + 3)) (xS x L f i) ∧ appL m (xS x L f i) = b := by
  induction i with
  | zero => exact ⟨hx, by show Go.Rep.BR (B + 0 * (C + 3)) x; rw [Nat.zero_mul, Nat.add_zero]; exact hxb, hb⟩
  | succ i ih =>
    obtain ⟨h1, h2, h3⟩ := ih (by omega)
    have hiL : i < L.length := by omega
    have e : L.getD i [] = L[i] := by simp [List.getD_eq_getElem?_getD, hiL]
    obtain ⟨k1, k2, k3⟩ := hL L[i] (List.getElem_mem _)
    have hl : (xS x L f (i + 1)).length = c := by
      show (List.zipWith _ _ _).length = c
      rw [List.length_zipWith, List.length_map, e, k1, h1, Nat.min_self]
    have hg : ∀ j, (xS x L f (i + 1)).getD j 0 = (xS x L f i).getD j 0 + L[i].getD j 0 * f i := fun j => by
      show (List.zipWith _ _ _).getD j 0 = _
      rw [zip_add _ _ (by rw [List.length_map, e, k1, h1]), getD_map_mul, e]
    refine ⟨hl, br_of fun j _ => ?_, ?_⟩
    · rw [hg]
      have a1 := hq_add ((xS x L f i).getD j 0) (L[i].getD j 0 * f i)
      have a2 := hq_mul (L[i].getD j 0) (f i)
      have a3 := br_get k2 hC1 j
      have a4 := br_get h2 (by omega) j
      have a5 := hf i
      rw [Nat.add_mul, Nat.one_mul]; omega
    · rw [← h3]
      refine app_eq hs (by rw [appL_len]; exact hs.1) fun r hr => ?_
      rw [appL_sm hs r hr, sm_congr (g := fun j => ent m r j * (xS x L f i).getD j 0 + f i * (ent m r j * L[i].getD j 0)) fun j _ => by rw [hg]; grind, sm_add, sm_mul, k3 r hr]; grind
/-- All that the law asks. -/
theorem sol_facts {n k : Nat} {m : Mat} {x0 b : List Rat} {f : Nat → Rat} (hn : n ≤ 4) (hk4 : k ≤ 4) (hs : Shp n k m) (hm : Go.Rep.BM 2 m) (hx : Go.Rep.BR 2 x0) (hb : appL m x0 = b) (hf : ∀ i, hq (f i) ≤ 2) :
    Tame (wideB m b n) (k + 1) ∧ Tame m k ∧ Go.Rep.BR 21 b ∧ k ∉ (redP (wideB m b n) (k + 1)).2 ∧ (solL (redP (wideB m b n) (k + 1)).1 (redP (wideB m b n) (k + 1)).2 k).length = k ∧
    (∀ l ∈ nullL (ent (redP m k).1) (redP m k).2 k, l.length = k ∧ Go.Rep.BR 3001250 l) ∧ (nullL (ent (redP m k).1) (redP m k).2 k).length ≤ k ∧
    ∀ i, i ≤ (nullL (ent (redP m k).1) (redP m k).2 k).length → (xS (solL (redP (wideB m b n) (k + 1)).1 (redP (wideB m b n) (k + 1)).2 k) (nullL (ent (redP m k).1) (redP m k).2 k) f i).length = k ∧ Go.Rep.BR 50000000 (xS (solL (redP (wideB m b n) (k + 1)).1 (redP (wideB m b n) (k + 1)).2 k) (nullL (ent (redP m k).1) (redP m k).2 k) f i) ∧ appL m (xS (solL (redP (wideB m b n) (k + 1)).1 (redP (wideB m b n) (k + 1)).2 k) (nullL (ent (redP m k).1) (redP m k).2 k) f i) = b := by
  have hmb := bm_hb hm (by decide)
  have hmb2 : HB 21 m := hmb.mono (by decide)
  have h35 := pow35' hn
  have h35a := Nat.mul_le_mul_right 21 h35
  have h35b := Nat.mul_le_mul_right 2 h35
  have hbb : Go.Rep.BR 21 b := by
    rw [← hb]
    intro q hq
    obtain ⟨r, hr, rfl⟩ := List.mem_map.1 hq
    have h1 := dotN_hq (hm r hr) hx (by decide) r.length
    rw [hs.2 r hr] at h1
    unfold dotL
    rw [hs.2 r hr]
    have : k * (2 * 2 + 1) ≤ 4 * (2 * 2 + 1) := Nat.mul_le_mul_right _ hk4
    omega
  have hnl := null_main hs hmb
  have hle : (nullL (ent (redP m k).1) (redP m k).2 k).length ≤ k := nullK_le _ _ _ _
  obtain ⟨s1, s2⟩ := sol_main (x0 := x0) hs
  rw [hb] at s1 s2
  refine ⟨tame_of (wideB_shp hs) (wideB_hb hs hmb2 hbb) (by omega), tame_of hs hmb (by omega), hbb, s1, sol_len _ _ _, fun l hl => ⟨(hnl l hl).1, fun q hq => Nat.le_trans ((hnl l hl).2.1 q hq) (by omega)⟩, hle, fun i hi => ?_⟩
  obtain ⟨a1, a2, a3⟩ := xS_ok (B := 31513125) (C := 3001250) (f := f) hs (sol_len _ _ _) (fun q hq => Nat.le_trans (sol_br hs hmb2 hbb q hq) (by omega)) s2 (fun l hl => ⟨(hnl l hl).1, fun q hq => Nat.le_trans ((hnl l hl).2.1 q hq) (by omega), (hnl l hl).2.2⟩) hf (by decide) (by decide) i hi
  refine ⟨a1, fun q hq => Nat.le_trans (a2 q hq) ?_, a3⟩
  have : i * (3001250 + 3) ≤ 4 * (3001250 + 3) := Nat.mul_le_mul_right _ (by omega)
  omega
end Go.Lin

namespace Go.Proofs.Ytjbhcniiioepgaa
open Go.RowKit Go.Rep Go.Lim
theorem natlist_eq_of {a b : List Nat} (hl : a.length = b.length) (h : ∀ i (hi : i < a.length) (hj : i < b.length), a[i] = b[i]) : a = b := List.ext_getElem hl h
theorem drewQ {w wr : World} (h : Hid (∃ m, wr = w.drewN m)) (n : Nat) : ∃ m, wr.drewN n = w.drewN m := by
  obtain ⟨m, rfl⟩ := h
  exact ⟨_, World.drewN_drewN _ _ _⟩

theorem rsamei_any (X : Nat → Bool) (ao bo : Option Addr) (a b : List Nat) (ca cb : Nat) (w : World) (hsa : Sl (NatIn .i64) 1 (mk X w) ao a) (hsb : Sl (NatIn .i64) 1 (mk X w) bo b) (hla : a.length ≤ 1099511627776) :
    Calls Try.prog 23 #[.slice ao a.length ca, .slice bo b.length cb] w fun e w' => e = .returned (.bool (a == b)) ∧ ∃ m, w' = w.drewN m := by
  have hha := hsa.hd
  have hhb := hsb.hd
  by_cases hlen : a.length = b.length
  · have hbl : b.length ≤ a.length := by omega
    have hab : a.length ≤ b.length := by omega
    have hne : ((a.length : Int) != b.length) = false := bneF (by omega)
    have hlen' := hid hlen
    clear hlen
    go_enter Try.func23, Try.ntmps23
    go_wp2_with fail
    go_loopw [5] (fun c wr => ∃ i : Nat, c = .int .i64 i ∧ i ≤ a.length ∧ Hid (∀ p, p < i → ∀ (hp : p < a.length) (hq : p < b.length), a[p] = b[p]) ∧ ∃ m, wr = w.drewN m) (fun c _ => a.length - (intOf c).toNat)
    case atStart => exact ⟨0, rfl, Nat.zero_le _, fun p hp => by omega, 0, rfl⟩
    case round =>
      obtain ⟨i, rfl, hi, hok, hDr⟩ := hrel
      have hDq : Hid (∃ m, wr = w.drewN m) := hid hDr
      have hE : Ext w wr := by
        obtain ⟨m, hm⟩ := hDr
        rw [hm]; exact (ExtX.refl w).drewN m
      clear hDr
      by_cases hlt : i < a.length
      · have hlt2 : i < b.length := by omega
        have c1 := (hsa.mono (NatIn.mono _) (mk_ext hE)).nat i hlt
        have c2 := (hsb.mono (NatIn.mono _) (mk_ext hE)).nat i hlt2
        have i1 : ∀ W, (Instr.indexAt 22 (.slice ao a.length ca) (.int .i64 (i : Int))).run Try.prog W = .ok (.pointer (some (adr ao i))) W := run_ix1 slInt ao a.length ca .i64 i hha (by omega) rfl
        have i2 : ∀ W, (Instr.indexAt 22 (.slice bo b.length cb) (.int .i64 (i : Int))).run Try.prog W = .ok (.pointer (some (adr bo i))) W := run_ix1 slInt bo b.length cb .i64 i hhb (by omega) rfl
        obtain ⟨x, hx⟩ : ∃ x, a[i] = x := ⟨_, rfl⟩
        obtain ⟨y, hy⟩ : ∃ y, b[i] = y := ⟨_, rfl⟩
        rw [hx] at c1
        rw [hy] at c2
        have hx' := hid hx
        have hy' := hid hy
        clear hx hy
        by_cases hxy : x = y
        · have hn : Hid (∀ (hp : i < a.length) (hq : i < b.length), a[i] = b[i]) := hid fun _ _ => by rw [hx'.out, hy'.out, hxy]
          have hb : ((x : Int) != (y : Int)) = false := bneF (by omega)
          clear hxy
          go_wp2_with fail
          go_quiet (fail)
          go_wp2_with fail
          go_roundw
          case rel => exact ⟨i + 1, by go_num, by omega, upto_succ hok.out hn.out, drewQ hDq _⟩
          case measure => simp [intOf]; omega
        · have hv : Hid ((a == b) = false) := hid (by
            cases h : a == b
            · rfl
            · have := eq_of_beq h; subst this; exact absurd (hx'.out.symm.trans hy'.out) hxy)
          have hb : ((x : Int) != (y : Int)) = true := bneT (by omega)
          clear hxy
          go_wp2_with fail
          go_quiet (fail)
          go_wp2_with fail
          go_ret
          exact ⟨ret_bool hv.out.symm, drewQ hDq _⟩
      · have hv : Hid ((a == b) = true) := hid (by rw [natlist_eq_of hlen'.out fun p hp hq => hok.out p (by omega) hp hq]; simp)
        go_wp2_with fail
        go_ret
        exact ⟨ret_bool hv.out.symm, hDq.out⟩
  · have hne : ((a.length : Int) != b.length) = true := bneT (by omega)
    have hv : Hid ((a == b) = false) := hid (by
      cases h : a == b
      · rfl
      · have := eq_of_beq h; subst this; exact absurd rfl hlen)
    clear hlen
    go_enter Try.func23, Try.ntmps23
    go_wp2_with fail
    go_ret
    exact ⟨ret_bool hv.out.symm, 0, rfl⟩

end Go.Proofs.Ytjbhcniiioepgaa

namespace Go.Proofs.Ytjbhcniiioepgaa
open Go.RowKit Go.Rep Go.Lim

end Go.Proofs.Ytjbhcniiioepgaa

namespace Go.Proofs.Ytjbhcniiioepgaa
open Go.RowKit Go.Rep Go.Lim

set_option maxRecDepth 100000 in
theorem rqsame (X : Nat → Bool) (w : World) (u v : Value) (x y : Rat) (hu : QC (mk X w) u x) (hv : QC (mk X w) v y) (hx : hq x ≤ 68719476736) : Calls Try.prog 21 #[u, v] w (BOut w (decide (x = y))) := by
  replace hx := hid hx
  obtain ⟨s1, a1, n1, c1, d1, k1, e1, rfl⟩ := hu.shape
  obtain ⟨s2, a2, n2, c2, d2, k2, e2, rfl⟩ := hv.shape
  obtain ⟨W, hW, hE, b0, b1, hz⟩ := boxes2 w #[.bool s1, .slice a1 n1 c1, .slice d1 k1 e1] #[.bool s2, .slice a2 n2 c2, .slice d2 k2 e2] 40 40
  have hu1 := mkx QC.mono hu hE
  have hv1 := mkx QC.mono hv hE
  obtain ⟨b, hb⟩ : ∃ b, w.heap.size = b := ⟨_, rfl⟩
  rw [hb] at b0 b1 hz
  have k00 := b0.cell 0 rfl
  have k01 := b0.cell 1 rfl
  have k02 := b0.cell 2 rfl
  have k10 := b1.cell 0 rfl
  have k11 := b1.cell 1 rfl
  have k12 := b1.cell 2 rfl
  clear hu hv
  obtain ⟨hxz, _, hxd⟩ := hu1.num
  obtain ⟨hyz, _, hyd⟩ := hv1.num
  have hl1 := hid (Nat.le_trans (hq_num x) (Nat.le_trans hx.out (by decide : (68719476736 : Nat) ≤ 1099511627776)))
  have hl2 := hid (Nat.le_trans (hq_dn x) (Nat.le_trans hx.out (by decide : (68719476736 : Nat) ≤ 1099511627776)))
  by_cases h1 : x.num = y.num
  · have hr : Hid (decide (dn x = dn y) = decide (x = y)) := hid (by
      rw [Bool.eq_iff_iff, decide_eq_true_eq, decide_eq_true_eq]
      constructor
      · intro h
        refine Rat.ext h1 ?_
        have := dn_zero x; have := dn_zero y
        unfold dn at h
        have := x.den_nz; have := y.den_nz
        split at h <;> split at h <;> omega
      · rintro rfl; rfl)
    have hd : Hid (decide (x.num = y.num) = true) := hid (decide_eq_true h1)
    clear h1
    go_enter Try.func21, Try.ntmps21
    go_wp2_with fail
    refine (risame X W _ _ _ _ hxz hyz hl1.out).mono ?_
    rintro e w5 ⟨hE5, rfl⟩
    rw [hd.out]
    have j02 := (b0.ext0 hE5).cell 2 rfl
    have j12 := (b1.ext0 hE5).cell 2 rfl
    clear k00 k01 k02 k10 k11 k12
    go_wp2_with fail
    refine (rnsame X w5 _ _ _ _ (mkx NC.mono hxd hE5) (mkx NC.mono hyd hE5) hl2.out).mono ?_
    rintro e w6 ⟨rfl, m, rfl⟩
    go_wp2_with fail
    go_ret
    exact ⟨(hE.trans hE5).drewN m, ret_bool hr.out⟩
  · have hr : Hid (false = decide (x = y)) := hid (decide_eq_false (by rintro rfl; exact h1 rfl)).symm
    have hd : Hid (decide (x.num = y.num) = false) := hid (decide_eq_false h1)
    clear h1
    go_enter Try.func21, Try.ntmps21
    go_wp2_with fail
    refine (risame X W _ _ _ _ hxz hyz hl1.out).mono ?_
    rintro e w5 ⟨hE5, rfl⟩
    rw [hd.out]
    clear k00 k01 k02 k10 k11 k12
    go_wp2_with fail
    go_ret
    exact ⟨hE.trans hE5, ret_bool hr.out⟩
end Go.Proofs.Ytjbhcniiioepgaa

namespace Go.Proofs.Ytjbhcniiioepgaa
open Go.RowKit Go.Rep Go.Lim

theorem ratlist_eq {a b : List Rat} (hl : a.length = b.length) (h : ∀ p, p < a.length → ∀ (hp : p < a.length) (hq : p < b.length), a[p] = b[p]) : a = b := List.ext_getElem hl fun i h1 h2 => h i h1 h1 h2

set_option maxRecDepth 100000 in
theorem rqsamelist (X : Nat → Bool) (w : World) (u v : Value) (a b : List Rat) (hu : RC (mk X w) u a) (hv : RC (mk X w) v b) (hB : BR 68719476736 a) (hla : a.length ≤ 1099511627776) : Calls Try.prog 8 #[u, v] w (BOut w (decide (a = b))) := by
  obtain ⟨ao, ca, rfl, hca, hsa⟩ := hu
  obtain ⟨bo, cb, rfl, hcb, hsb⟩ := hv
  have hha := hsa.hd
  have hhb := hsb.hd
  have hB' := hid hB
  clear hB
  by_cases hlen : a.length = b.length
  · have hbl : b.length ≤ a.length := by omega
    have hab : a.length ≤ b.length := by omega
    have hne : ((a.length : Int) != b.length) = false := bneF (by omega)
    have hlen' := hid hlen
    clear hlen
    go_enter Try.func8, Try.ntmps8
    go_wp2_with fail
    go_loopw [5] (fun c wr => ∃ i : Nat, c = .int .i64 i ∧ i ≤ a.length ∧ Hid (∀ p, p < i → ∀ (hp : p < a.length) (hq : p < b.length), a[p] = b[p]) ∧ Ext w wr) (fun c _ => a.length - (intOf c).toNat)
    case atStart => exact ⟨0, rfl, Nat.zero_le _, fun p hp => by omega, ExtX.refl _⟩
    case round =>
      obtain ⟨i, rfl, hi, hok, hE⟩ := hrel
      by_cases hlt : i < a.length
      · have hlt2 : i < b.length := by omega
        obtain ⟨g1, o1, s1, a1, n1, c1, d1, k1, e1, hg1, hX1, hc1, hq1⟩ := (hsa.mono QC.mono (mk_ext hE)).rat QC.shaped i hlt
        obtain ⟨g2, o2, s2, a2, n2, c2, d2, k2, e2, hg2, hX2, hc2, hq2⟩ := (hsb.mono QC.mono (mk_ext hE)).rat QC.shaped i hlt2
        have i1 : ∀ W, (Instr.indexAt 30 (.slice ao a.length ca) (.int .i64 (i : Int))).run Try.prog W = .ok (.pointer (some ⟨g1, o1, none⟩)) W := by rw [← hg1]; exact run_indexAt_adr slRat ao a.length ca .i64 i hha (by omega)
        have i2 : ∀ W, (Instr.indexAt 30 (.slice bo b.length cb) (.int .i64 (i : Int))).run Try.prog W = .ok (.pointer (some ⟨g2, o2, none⟩)) W := by rw [← hg2]; exact run_indexAt_adr slRat bo b.length cb .i64 i hhb (by omega)
        have hEd : Ext wr wr.drew := (ExtX.refl wr).drew
        have hS : Hid (∀ W', Ext wr.drew W' → W'.cell? ⟨g1, o1, none⟩ = some (.bool s1) ∧ W'.cell? ⟨g1, o1 + 1, none⟩ = some (.slice a1 n1 c1) ∧ W'.cell? ⟨g1, o1 + 2, none⟩ = some (.slice d1 k1 e1) ∧ W'.cell? ⟨g2, o2, none⟩ = some (.bool s2) ∧ W'.cell? ⟨g2, o2 + 1, none⟩ = some (.slice a2 n2 c2) ∧ W'.cell? ⟨g2, o2 + 2, none⟩ = some (.slice d2 k2 e2)) := hid fun W' h => by
          have p1 := hc1.out noY W' (hEd.trans h) rfl
          have p2 := hc2.out noY W' (hEd.trans h) rfl
          exact ⟨p1.1, p1.2.1, p1.2.2, p2.1, p2.2.1, p2.2.2⟩
        obtain ⟨k00, k01, k02, k10, k11, k12⟩ := hS.out wr.drew (ExtX.refl _)
        have hbq := hid (hB'.out a[i] (List.getElem_mem _))
        have hq1d : QC (mk X wr.drew) (.agg #[.bool s1, .slice a1 n1 c1, .slice d1 k1 e1]) a[i] := hq1
        have hq2d : QC (mk X wr.drew) (.agg #[.bool s2, .slice a2 n2 c2, .slice d2 k2 e2]) b[i] := hq2
        obtain ⟨x, hx⟩ : ∃ x, a[i] = x := ⟨_, rfl⟩
        obtain ⟨y, hy⟩ : ∃ y, b[i] = y := ⟨_, rfl⟩
        rw [hx] at hq1d hbq
        rw [hy] at hq2d
        have hx' := hid hx
        have hy' := hid hy
        clear hx hy hc1 hc2 hg1 hg2 hq1 hq2
        by_cases hxy : x = y
        · have hn : Hid (∀ (hp : i < a.length) (hq : i < b.length), a[i] = b[i]) := hid fun _ _ => by rw [hx'.out, hy'.out, hxy]
          have hb := hid (decide_eq_true hxy)
          clear hxy
          go_wp2_with fail
          go_region_held3 (fun w' => w'.cell? ⟨g1, o1, none⟩ = some (.bool s1) ∧ w'.cell? ⟨g1, o1 + 1, none⟩ = some (.slice a1 n1 c1) ∧ w'.cell? ⟨g1, o1 + 2, none⟩ = some (.slice d1 k1 e1) ∧ w'.cell? ⟨g2, o2, none⟩ = some (.bool s2) ∧ w'.cell? ⟨g2, o2 + 1, none⟩ = some (.slice a2 n2 c2) ∧ w'.cell? ⟨g2, o2 + 2, none⟩ = some (.slice d2 k2 e2))
            (first | exact hS.out _ t1 | go_keep)
            ((go_at_call 21; (with_reducible refine (rqsame X wr.drew _ _ x y hq1d hq2d hbq.out).mono ?_); rintro ee w5 ⟨t1, rfl⟩; rw [hb.out]))
          have hE5 := hE.trans (hEd.trans t1)
          clear k00 k01 k02 k10 k11 k12
          go_wp2_with fail
          go_roundw
          case rel => exact ⟨i + 1, by go_num, by omega, upto_succ hok.out hn.out, hE5⟩
          case measure => simp [intOf]; omega
        · have hv : Hid (false = decide (a = b)) := hid (by
            symm
            rw [decide_eq_false_iff_not]
            intro h; subst h; exact hxy (hx'.out.symm.trans hy'.out))
          have hb := hid (decide_eq_false hxy)
          clear hxy
          go_wp2_with fail
          go_region_held3 (fun w' => w'.cell? ⟨g1, o1, none⟩ = some (.bool s1) ∧ w'.cell? ⟨g1, o1 + 1, none⟩ = some (.slice a1 n1 c1) ∧ w'.cell? ⟨g1, o1 + 2, none⟩ = some (.slice d1 k1 e1) ∧ w'.cell? ⟨g2, o2, none⟩ = some (.bool s2) ∧ w'.cell? ⟨g2, o2 + 1, none⟩ = some (.slice a2 n2 c2) ∧ w'.cell? ⟨g2, o2 + 2, none⟩ = some (.slice d2 k2 e2))
            (first | exact hS.out _ t1 | go_keep)
            ((go_at_call 21; (with_reducible refine (rqsame X wr.drew _ _ x y hq1d hq2d hbq.out).mono ?_); rintro ee w5 ⟨t1, rfl⟩; rw [hb.out]))
          have hE5 := hE.trans (hEd.trans t1)
          clear k00 k01 k02 k10 k11 k12
          go_wp2_with fail
          go_ret
          exact ⟨hE5, ret_bool hv.out⟩
      · have hv : Hid (true = decide (a = b)) := hid (by
          symm
          rw [decide_eq_true_eq]
          exact ratlist_eq hlen'.out fun p hp => hok.out p (by omega))
        go_wp2_with fail
        go_ret
        exact ⟨hE, ret_bool hv.out⟩
  · have hne : ((a.length : Int) != b.length) = true := bneT (by omega)
    have hv : Hid (false = decide (a = b)) := hid (by
      symm
      rw [decide_eq_false_iff_not]
      intro h; subst h; exact hlen rfl)
    clear hlen
    go_enter Try.func8, Try.ntmps8
    go_wp2_with fail
    go_ret
    exact ⟨ExtX.refl _, ret_bool hv.out⟩
end Go.Proofs.Ytjbhcniiioepgaa

namespace Go.Proofs.Ytjbhcniiioepgaa
open Go.RowKit Go.Rep Go.Lim
theorem ratlists_eq {a b : List (List Rat)} (hl : a.length = b.length) (h : ∀ p, p < a.length → ∀ (hp : p < a.length) (hq : p < b.length), a[p] = b[p]) : a = b := List.ext_getElem hl fun i h1 h2 => h i h1 h1 h2

set_option maxRecDepth 100000 in
theorem rqsamelists (X : Nat → Bool) (w : World) (u v : Value) (a b : List (List Rat)) (hu : MC (mk X w) u a) (hv : MC (mk X w) v b) (hB : BM 68719476736 a) (hla : a.length ≤ 1099511627776) (hrl : ∀ r ∈ a, r.length ≤ 1099511627776) : Calls Try.prog 24 #[u, v] w (BOut w (decide (a = b))) := by
  obtain ⟨ao, ca, rfl, hca, hsa⟩ := hu
  obtain ⟨bo, cb, rfl, hcb, hsb⟩ := hv
  have hha := hsa.hd
  have hhb := hsb.hd
  have hB' := hid hB
  have hrl' := hid hrl
  clear hB hrl
  by_cases hlen : a.length = b.length
  · have hbl : b.length ≤ a.length := by omega
    have hab : a.length ≤ b.length := by omega
    have hne : ((a.length : Int) != b.length) = false := bneF (by omega)
    have hlen' := hid hlen
    clear hlen
    go_enter Try.func24, Try.ntmps24
    go_wp2_with fail
    go_loopw [5] (fun c wr => ∃ i : Nat, c = .int .i64 i ∧ i ≤ a.length ∧ Hid (∀ p, p < i → ∀ (hp : p < a.length) (hq : p < b.length), a[p] = b[p]) ∧ Ext w wr) (fun c _ => a.length - (intOf c).toNat)
    case atStart => exact ⟨0, rfl, Nat.zero_le _, fun p hp => by omega, ExtX.refl _⟩
    case round =>
      obtain ⟨i, rfl, hi, hok, hE⟩ := hrel
      by_cases hlt : i < a.length
      · have hlt2 : i < b.length := by omega
        obtain ⟨a1, c1, hX1, hc1, hcl1, hq1⟩ := (hsa.mono RC.mono (mk_ext hE)).row i hlt
        obtain ⟨a2, c2, hX2, hc2, hcl2, hq2⟩ := (hsb.mono RC.mono (mk_ext hE)).row i hlt2
        have i1 : ∀ W, (Instr.indexAt 23 (.slice ao a.length ca) (.int .i64 (i : Int))).run Try.prog W = .ok (.pointer (some (adr ao i))) W := run_ix1 slRats ao a.length ca .i64 i hha (by omega) rfl
        have i2 : ∀ W, (Instr.indexAt 23 (.slice bo b.length cb) (.int .i64 (i : Int))).run Try.prog W = .ok (.pointer (some (adr bo i))) W := run_ix1 slRats bo b.length cb .i64 i hhb (by omega) rfl
        have hEd : Ext wr wr.drew := (ExtX.refl wr).drew
        have hS : Hid (∀ W', Ext wr.drew W' → W'.cell? (adr ao i) = some (.slice a1 a[i].length c1) ∧ W'.cell? (adr bo i) = some (.slice a2 b[i].length c2)) := hid fun W' h => ⟨hc1.out noY W' (hEd.trans h) rfl, hc2.out noY W' (hEd.trans h) rfl⟩
        obtain ⟨k00, k10⟩ := hS.out wr.drew (ExtX.refl _)
        have hbq := hid (hB'.out a[i] (List.getElem_mem _))
        have hbl2 := hid (hrl'.out a[i] (List.getElem_mem _))
        have hq1d : RC (mk X wr.drew) (.slice a1 a[i].length c1) a[i] := ⟨a1, c1, rfl, hcl1, hq1⟩
        have hq2d : RC (mk X wr.drew) (.slice a2 b[i].length c2) b[i] := ⟨a2, c2, rfl, hcl2, hq2⟩
        obtain ⟨x, hx⟩ : ∃ x, a[i] = x := ⟨_, rfl⟩
        obtain ⟨y, hy⟩ : ∃ y, b[i] = y := ⟨_, rfl⟩
        rw [hx] at hq1d hbq hbl2 k00 hS
        rw [hy] at hq2d k10 hS
        have hx' := hid hx
        have hy' := hid hy
        clear hx hy hc1 hc2 hq1 hq2 hcl1 hcl2
        by_cases hxy : x = y
        · have hn : Hid (∀ (hp : i < a.length) (hq : i < b.length), a[i] = b[i]) := hid fun _ _ => by rw [hx'.out, hy'.out, hxy]
          have hb := hid (decide_eq_true hxy)
          clear hxy
          go_wp2_with fail
          go_region_held3 (fun w' => w'.cell? (adr ao i) = some (.slice a1 x.length c1) ∧ w'.cell? (adr bo i) = some (.slice a2 y.length c2))
            (first | exact hS.out _ t1 | go_keep)
            ((go_at_call 8; (with_reducible refine (rqsamelist X wr.drew _ _ x y hq1d hq2d hbq.out hbl2.out).mono ?_); rintro ee w5 ⟨t1, rfl⟩; rw [hb.out]))
          have hE5 := hE.trans (hEd.trans t1)
          clear k00 k10
          go_wp2_with fail
          go_roundw
          case rel => exact ⟨i + 1, by go_num, by omega, upto_succ hok.out hn.out, hE5⟩
          case measure => simp [intOf]; omega
        · have hv : Hid (false = decide (a = b)) := hid (by
            symm
            rw [decide_eq_false_iff_not]
            intro h; subst h; exact hxy (hx'.out.symm.trans hy'.out))
          have hb := hid (decide_eq_false hxy)
          clear hxy
          go_wp2_with fail
          go_region_held3 (fun w' => w'.cell? (adr ao i) = some (.slice a1 x.length c1) ∧ w'.cell? (adr bo i) = some (.slice a2 y.length c2))
            (first | exact hS.out _ t1 | go_keep)
            ((go_at_call 8; (with_reducible refine (rqsamelist X wr.drew _ _ x y hq1d hq2d hbq.out hbl2.out).mono ?_); rintro ee w5 ⟨t1, rfl⟩; rw [hb.out]))
          have hE5 := hE.trans (hEd.trans t1)
          clear k00 k10
          go_wp2_with fail
          go_ret
          exact ⟨hE5, ret_bool hv.out⟩
      · have hv : Hid (true = decide (a = b)) := hid (by
          symm
          rw [decide_eq_true_eq]
          exact ratlists_eq hlen'.out fun p hp => hok.out p (by omega))
        go_wp2_with fail
        go_ret
        exact ⟨hE, ret_bool hv.out⟩
  · have hne : ((a.length : Int) != b.length) = true := bneT (by omega)
    have hv : Hid (false = decide (a = b)) := hid (by
      symm
      rw [decide_eq_false_iff_not]
      intro h; subst h; exact hlen rfl)
    clear hlen
    go_enter Try.func24, Try.ntmps24
    go_wp2_with fail
    go_ret
    exact ⟨ExtX.refl _, ret_bool hv.out⟩
end Go.Proofs.Ytjbhcniiioepgaa

namespace Go.Lin
open Go.Lim
theorem awakeL : redP [[0, 2], [1, 1]] 2 = ([[1, 0], [0, 1]], [0, 1]) := by decide +kernel
theorem lg_le_one {n : Nat} (h : n < 4294967296) : lg n ≤ 1 := by
  by_cases h0 : n = 0
  · subst h0; simp [lg_zero]
  · rw [lg_one_iff (by omega) h]; exact Nat.le_refl _
theorem hq_small {z : Int} (h : z.natAbs < 4294967296) : hq (z : Rat) ≤ 1 := hq_int z 1 (lg_le_one h) (Nat.le_refl _)
theorem BM.hb {B : Nat} {m : Mat} (h : Go.Rep.BM B m) (hB : 1 ≤ B) : HB B m := fun i j => by
  unfold ent
  by_cases hi : i < m.length
  · by_cases hj : j < (m[i]).length
    · have := h m[i] (List.getElem_mem _) (m[i])[j] (List.getElem_mem _)
      simpa [List.getD_eq_getElem?_getD, hi, hj] using this
    · rw [getD_row hi, List.getD_eq_getElem?_getD, List.getElem?_eq_none (by omega)]
      simpa [hq_zero] using hB
  · rw [List.getD_eq_getElem?_getD (l := m), List.getElem?_eq_none (by omega)]
    simpa [hq_zero] using hB
end Go.Lin
namespace Go.Rep
open Go.RowKit Go.Lim
theorem rc_lit2 {X : Nat → Bool} {w : World} {e : TypeId} (hX : HX X w) {u v : Value} {x y : Rat} (hu : QC (mk X w) u x) (hv : QC (mk X w) v y) {arr : Array Value} (harr : arr = (cellsL u ++ cellsL v).toArray) : RC (mk X (w.alloc (.cells arr e))) (.slice (some ⟨w.heap.size, 0, none⟩) 2 2) [x, y] := by
  have := OL.lit (w := w) (base := w.heap.size) (e := e) QC.elem hX (Nat.le_refl _) [u, v] [x, y] arr (by rw [harr]; simp) rfl (fun i hi hi' => by
    match i, hi with
    | 0, _ => exact hu
    | 1, _ => exact hv) (by simp)
  exact ⟨_, _, rfl, Nat.le_refl _, this.sl QC.elem⟩
theorem mc_lit2 {X : Nat → Bool} {w : World} {e : TypeId} (hX : HX X w) {u v : Value} {x y : List Rat} (hu : RC (mk X w) u x) (hv : RC (mk X w) v y) {arr : Array Value} (harr : arr = (cellsL u ++ cellsL v).toArray) : MC (mk X (w.alloc (.cells arr e))) (.slice (some ⟨w.heap.size, 0, none⟩) 2 2) [x, y] := by
  have := OL.lit (w := w) (base := w.heap.size) (e := e) RC.elem hX (Nat.le_refl _) [u, v] [x, y] arr (by rw [harr]; simp) rfl (fun i hi hi' => by
    match i, hi with
    | 0, _ => exact hu
    | 1, _ => exact hv) (by simp)
  exact ⟨_, _, rfl, Nat.le_refl _, this.sl RC.elem⟩
theorem pv_lit2 {X : Nat → Bool} {w : World} {e : TypeId} (hX : HX X w) (x y : Nat) {arr : Array Value} (harr : arr = #[.int .i64 (x : Int), .int .i64 (y : Int)]) : SlV (NatIn .i64) 1 (mk X (w.alloc (.cells arr e))) (.slice (some ⟨w.heap.size, 0, none⟩) 2 2) [x, y] := by
  have := OL.lit (w := w) (base := w.heap.size) (e := e) (NatIn.elem .i64) hX (Nat.le_refl _) [.int .i64 (x : Int), .int .i64 (y : Int)] [x, y] arr (by rw [harr]; simp [cellsL, Value.cells]) rfl (fun i hi hi' => by
    match i, hi with
    | 0, _ => rfl
    | 1, _ => rfl) (by simp)
  exact ⟨_, _, rfl, Nat.le_refl _, this.sl (NatIn.elem .i64)⟩
end Go.Rep
namespace Go.Proofs.Ytjbhcniiioepgaa
open Go.RowKit Go.Rep Go.Lim Go.Lin

set_option maxRecDepth 100000 in
set_option maxHeartbeats 800000 in
theorem awake6_any (w : World) : Calls Try.prog 9 #[] w (BOut w true) := by
  have hX := HX.none w
  go_enter Try.func9, Try.ntmps9
  go_wp2_with fail
  refine (rqfrom noY w 0 hX (by omega) (by omega)).mono ?_
  rintro e w1 ⟨hE1, u1, rfl, hu1⟩
  obtain ⟨s1, a1, n1, c1, d1, k1, e1, rfl⟩ := hu1.shape
  go_wp2_with fail
  refine (rqfrom noY w1 2 (hX.ext hE1) (by omega) (by omega)).mono ?_
  rintro e w2 ⟨hE2, u2, rfl, hu2⟩
  obtain ⟨s2, a2, n2, c2, d2, k2, e2, rfl⟩ := hu2.shape
  have hX2 := (hX.ext hE1).ext hE2
  have hA := rc_lit2 (e := 40) hX2 (mkx QC.mono hu1 hE2) hu2 rfl
  go_wp2_with fail
  obtain ⟨w3, hw3, hE3⟩ : ∃ w3, w2.alloc (.cells (cellsL (.agg #[.bool s1, .slice a1 n1 c1, .slice d1 k1 e1]) ++ cellsL (.agg #[.bool s2, .slice a2 n2 c2, .slice d2 k2 e2])).toArray 40) = w3 ∧ Ext w2 w3 := ⟨_, rfl, (ExtX.refl w2).alloc _⟩
  change Calls _ _ _ (w2.alloc (.cells (cellsL (.agg #[.bool s1, .slice a1 n1 c1, .slice d1 k1 e1]) ++ cellsL (.agg #[.bool s2, .slice a2 n2 c2, .slice d2 k2 e2])).toArray 40)) _
  rw [hw3] at hA ⊢
  obtain ⟨b3, hb3⟩ : ∃ b, w2.heap.size = b := ⟨_, rfl⟩
  rw [hb3] at hA ⊢
  clear hw3 hb3
  have hX3 := hX2.ext hE3
  refine (rqfrom noY w3 1 hX3 (by omega) (by omega)).mono ?_
  rintro e w4 ⟨hE4, u4, rfl, hu4⟩
  obtain ⟨s4, a4, n4, c4, d4, k4, e4, rfl⟩ := hu4.shape
  have hX4 := hX3.ext hE4
  go_wp2_with fail
  refine (rqfrom noY w4 1 hX4 (by omega) (by omega)).mono ?_
  rintro e w5 ⟨hE5, u5, rfl, hu5⟩
  obtain ⟨s5, a5, n5, c5, d5, k5, e5, rfl⟩ := hu5.shape
  have hX5 := hX4.ext hE5
  have hB := rc_lit2 (e := 40) hX5 (mkx QC.mono hu4 hE5) hu5 rfl
  have hE6 : Ext w5 (w5.alloc (.cells (cellsL (.agg #[.bool s4, .slice a4 n4 c4, .slice d4 k4 e4]) ++ cellsL (.agg #[.bool s5, .slice a5 n5 c5, .slice d5 k5 e5])).toArray 40)) := (ExtX.refl w5).alloc _
  have hX6 := hX5.ext hE6
  have hA6 := mkx RC.mono hA (hE4.trans (hE5.trans hE6))
  have hM := mc_lit2 (e := 30) hX6 hA6 hB rfl
  have hE7 : Ext w5 ((w5.alloc (.cells (cellsL (.agg #[.bool s4, .slice a4 n4 c4, .slice d4 k4 e4]) ++ cellsL (.agg #[.bool s5, .slice a5 n5 c5, .slice d5 k5 e5])).toArray 40)).alloc (.cells (cellsL (.slice (some ⟨b3, 0, none⟩) 2 2) ++ cellsL (.slice (some ⟨w5.heap.size, 0, none⟩) 2 2)).toArray 30)) := hE6.alloc _
  go_wp2_with fail
  change Calls _ _ _ ((w5.alloc (.cells (cellsL (.agg #[.bool s4, .slice a4 n4 c4, .slice d4 k4 e4]) ++ cellsL (.agg #[.bool s5, .slice a5 n5 c5, .slice d5 k5 e5])).toArray 40)).alloc (.cells (cellsL (.slice (some ⟨b3, 0, none⟩) 2 2) ++ cellsL (.slice (some ⟨w5.heap.size, 0, none⟩) 2 2)).toArray 30)) _
  have hM7 : MC (mk noY ((w5.alloc (.cells (cellsL (.agg #[.bool s4, .slice a4 n4 c4, .slice d4 k4 e4]) ++ cellsL (.agg #[.bool s5, .slice a5 n5 c5, .slice d5 k5 e5])).toArray 40)).alloc (.cells (cellsL (.slice (some ⟨b3, 0, none⟩) 2 2) ++ cellsL (.slice (some ⟨w5.heap.size, 0, none⟩) 2 2)).toArray 30))) (.slice (some ⟨w5.heap.size + 1, 0, none⟩) 2 2) [[0, 2], [1, 1]] := by
    have e0 : ((0 : Int) : Rat) = 0 := by decide +kernel
    have e1 : ((1 : Int) : Rat) = 1 := by decide +kernel
    have e2 : ((2 : Int) : Rat) = 2 := by decide +kernel
    rw [e0, e1, e2] at hM
    simpa using hM
  obtain ⟨w7, hw7⟩ : ∃ w7, ((w5.alloc (.cells (cellsL (.agg #[.bool s4, .slice a4 n4 c4, .slice d4 k4 e4]) ++ cellsL (.agg #[.bool s5, .slice a5 n5 c5, .slice d5 k5 e5])).toArray 40)).alloc (.cells (cellsL (.slice (some ⟨b3, 0, none⟩) 2 2) ++ cellsL (.slice (some ⟨w5.heap.size, 0, none⟩) 2 2)).toArray 30)) = w7 := ⟨_, rfl⟩
  rw [hw7] at hM7 hE7 ⊢
  have hE07 : Ext w w7 := (hE1.trans (hE2.trans (hE3.trans (hE4.trans hE5)))).trans hE7
  have hX7 := hX.ext hE07
  have hbm : BM 1 [[0, 2], [1, 1]] := by
    intro r hr q hqm
    have h0 : hq 0 ≤ 1 := hq_small (z := 0) (by decide)
    have h1 : hq 1 ≤ 1 := hq_small (z := 1) (by decide)
    have h2 : hq 2 ≤ 1 := hq_small (z := 2) (by decide)
    simp only [List.mem_cons, List.not_mem_nil, or_false] at hr
    rcases hr with rfl | rfl <;> simp only [List.mem_cons, List.not_mem_nil, or_false] at hqm <;> rcases hqm with rfl | rfl <;> assumption
  clear hM hw7 hA hB hA6 hE6
  have hred := preduce_ok noY w7 _ _ hX7 (hM7.mv (fun r hr q hq => Nat.le_trans (hbm r hr q hq) (by decide))) (by decide) (tame_of (n := 2) ⟨rfl, by intro r hr; simp only [List.mem_cons, List.not_mem_nil, or_false] at hr; rcases hr with rfl | rfl <;> rfl⟩ (BM.hb hbm (by decide)) (by decide))
  have hcl : colsL [[(0 : Rat), 2], [1, 1]] = 2 := rfl
  rw [hcl, awakeL] at hred
  refine hred.mono ?_
  rintro e w8 ⟨hE8, u8, v8, rfl, hu8, hv8⟩
  obtain ⟨ao, ca, rfl, hca, hsa⟩ := hu8
  obtain ⟨bo, cb, rfl, hcb, hsb⟩ := hv8
  have hX8 := hX7.ext hE8
  go_wp2_with fail
  have hE9 : Ext w8 (w8.alloc (.cells #[.int .i64 0, .int .i64 1] 3)) := (ExtX.refl w8).alloc _
  have hlit : SlV (NatIn .i64) 1 (mk noY (w8.alloc (.cells #[.int .i64 0, .int .i64 1] 3))) (.slice (some ⟨w8.heap.size, 0, none⟩) 2 2) [0, 1] := pv_lit2 hX8 0 1 rfl
  have hsb9 := hsb.mono (NatIn.mono _) (mk_ext hE9)
  have hsa9 := hsa.mono RC.mono (mk_ext hE9)
  obtain ⟨w9, hw9⟩ : ∃ w9, w8.alloc (.cells #[.int .i64 0, .int .i64 1] 3) = w9 := ⟨_, rfl⟩
  obtain ⟨b8, hb8⟩ : ∃ b, w8.heap.size = b := ⟨_, rfl⟩
  rw [hw9] at hE9 hlit hsb9 hsa9 ⊢
  rw [hb8] at hlit ⊢
  clear hw9 hb8
  have hX9 := hX8.ext hE9
  obtain ⟨lo, cl, heq, hcl9, hsl9⟩ := hlit
  simp only [Value.slice.injEq] at heq
  obtain ⟨rfl, _, rfl⟩ := heq
  refine (rsamei_any noY _ _ [0, 1] [0, 1] _ _ w9 hsb9 hsl9 (by decide)).mono ?_
  rintro e w10 ⟨rfl, m10, hw10⟩
  have hE10 : Ext w9 w10 := by rw [hw10]; exact (ExtX.refl w9).drewN _
  clear hw10
  have hX10 := hX9.ext hE10
  have hee : ([0, 1] == [0, 1]) = true := by decide
  rw [hee]
  clear hee
  go_wp2_with fail
  refine (rqfrom noY w10 1 hX10 (by omega) (by omega)).mono ?_
  rintro e w11 ⟨hE11, u11, rfl, hu11⟩
  obtain ⟨s11, a11, n11, c11, d11, k11, e11, rfl⟩ := hu11.shape
  have hX11 := hX10.ext hE11
  have hA := rc_lit2 (e := 40) hX11 hu11 (QC.zero _) rfl
  go_wp2_with fail
  obtain ⟨w12, hw12, hE12⟩ : ∃ w12, w11.alloc (.cells (cellsL (.agg #[.bool s11, .slice a11 n11 c11, .slice d11 k11 e11]) ++ cellsL (.agg #[.bool false, .slice none 0 0, .slice none 0 0])).toArray 40) = w12 ∧ Ext w11 w12 := ⟨_, rfl, (ExtX.refl w11).alloc _⟩
  change Calls _ _ _ (w11.alloc (.cells (cellsL (.agg #[.bool s11, .slice a11 n11 c11, .slice d11 k11 e11]) ++ cellsL (.agg #[.bool false, .slice none 0 0, .slice none 0 0])).toArray 40)) _
  rw [hw12] at hA ⊢
  obtain ⟨b11, hb11⟩ : ∃ b, w11.heap.size = b := ⟨_, rfl⟩
  rw [hb11] at hA ⊢
  clear hw12 hb11
  have hX12 := hX11.ext hE12
  refine (rqfrom noY w12 1 hX12 (by omega) (by omega)).mono ?_
  rintro e w13 ⟨hE13, u13, rfl, hu13⟩
  obtain ⟨s13, a13, n13, c13, d13, k13, e13, rfl⟩ := hu13.shape
  have hX13 := hX12.ext hE13
  have hB := rc_lit2 (e := 40) hX13 (QC.zero _) hu13 rfl
  have hE14 : Ext w13 (w13.alloc (.cells (cellsL (.agg #[.bool false, .slice none 0 0, .slice none 0 0]) ++ cellsL (.agg #[.bool s13, .slice a13 n13 c13, .slice d13 k13 e13])).toArray 40)) := (ExtX.refl w13).alloc _
  have hX14 := hX13.ext hE14
  have hA14 := mkx RC.mono hA (hE13.trans hE14)
  have hM := mc_lit2 (e := 30) hX14 hA14 hB rfl
  have hE15 : Ext w13 ((w13.alloc (.cells (cellsL (.agg #[.bool false, .slice none 0 0, .slice none 0 0]) ++ cellsL (.agg #[.bool s13, .slice a13 n13 c13, .slice d13 k13 e13])).toArray 40)).alloc (.cells (cellsL (.slice (some ⟨b11, 0, none⟩) 2 2) ++ cellsL (.slice (some ⟨w13.heap.size, 0, none⟩) 2 2)).toArray 30)) := hE14.alloc _
  go_wp2_with fail
  change Calls _ _ _ ((w13.alloc (.cells (cellsL (.agg #[.bool false, .slice none 0 0, .slice none 0 0]) ++ cellsL (.agg #[.bool s13, .slice a13 n13 c13, .slice d13 k13 e13])).toArray 40)).alloc (.cells (cellsL (.slice (some ⟨b11, 0, none⟩) 2 2) ++ cellsL (.slice (some ⟨w13.heap.size, 0, none⟩) 2 2)).toArray 30)) _
  have hM7 : MC (mk noY ((w13.alloc (.cells (cellsL (.agg #[.bool false, .slice none 0 0, .slice none 0 0]) ++ cellsL (.agg #[.bool s13, .slice a13 n13 c13, .slice d13 k13 e13])).toArray 40)).alloc (.cells (cellsL (.slice (some ⟨b11, 0, none⟩) 2 2) ++ cellsL (.slice (some ⟨w13.heap.size, 0, none⟩) 2 2)).toArray 30))) (.slice (some ⟨w13.heap.size + 1, 0, none⟩) 2 2) [[1, 0], [0, 1]] := by
    have e1 : ((1 : Int) : Rat) = 1 := by decide +kernel
    rw [e1] at hM
    simpa using hM
  obtain ⟨w15, hw15⟩ : ∃ w15, ((w13.alloc (.cells (cellsL (.agg #[.bool false, .slice none 0 0, .slice none 0 0]) ++ cellsL (.agg #[.bool s13, .slice a13 n13 c13, .slice d13 k13 e13])).toArray 40)).alloc (.cells (cellsL (.slice (some ⟨b11, 0, none⟩) 2 2) ++ cellsL (.slice (some ⟨w13.heap.size, 0, none⟩) 2 2)).toArray 30)) = w15 := ⟨_, rfl⟩
  rw [hw15] at hM7 hE15 ⊢
  clear hM hw15 hA hB hA14 hE14
  have hEe : Ext w8 w15 := (hE9.trans (hE10.trans (hE11.trans (hE12.trans hE13)))).trans hE15
  have hr15 : MC (mk noY w15) (.slice ao 2 ca) [[1, 0], [0, 1]] := ⟨ao, ca, rfl, hca, hsa.mono RC.mono (mk_ext hEe)⟩
  have hbm2 : BM 68719476736 [[1, 0], [0, 1]] := by
    intro r hr q hqm
    have h0 : hq 0 ≤ 68719476736 := Nat.le_trans (hq_small (z := 0) (by decide)) (by decide)
    have h1 : hq 1 ≤ 68719476736 := Nat.le_trans (hq_small (z := 1) (by decide)) (by decide)
    simp only [List.mem_cons, List.not_mem_nil, or_false] at hr
    rcases hr with rfl | rfl <;> simp only [List.mem_cons, List.not_mem_nil, or_false] at hqm <;> rcases hqm with rfl | rfl <;> assumption
  have hrl2 : ∀ r ∈ [[(1 : Rat), 0], [0, 1]], r.length ≤ 1099511627776 := by
    intro r hr
    simp only [List.mem_cons, List.not_mem_nil, or_false] at hr
    rcases hr with rfl | rfl <;> simp
  have hsl := rqsamelists noY w15 _ _ _ _ hr15 hM7 hbm2 (by simp) hrl2
  have hee : decide ([[(1 : Rat), 0], [0, 1]] = [[1, 0], [0, 1]]) = true := decide_eq_true rfl
  rw [hee] at hsl
  refine hsl.mono ?_
  rintro e w16 ⟨hE16, rfl⟩
  go_wp2_with fail
  go_ret
  exact ⟨hE07.trans (hE8.trans (hEe.trans hE16)), rfl⟩
end Go.Proofs.Ytjbhcniiioepgaa

namespace Go.Lin
open Go.Lim
theorem rank_null {m : Mat} {n k : Nat} (hs : Shp n k m) : (redP (nullL (ent (redP m k).1) (redP m k).2 k) k).2.length = (nullL (ent (redP m k).1) (redP m k).2 k).length := by
  obtain ⟨_, h2, _⟩ := redP_ok hs
  have hsh : Shp (nullL (ent (redP m k).1) (redP m k).2 k).length k (nullL (ent (redP m k).1) (redP m k).2 k) := ⟨rfl, fun r hr => by obtain ⟨j, _, rfl⟩ := List.mem_map.1 hr; simp⟩
  obtain ⟨_, h4, d, h5⟩ := redP_ok hsh
  exact (nullL_li _ _ _).full h4 h5
/-- All that the law asks. -/
theorem null_facts {n k : Nat} {m : Mat} (hn : n ≤ 4) (hk1 : 1 ≤ k) (hk4 : k ≤ 4) (hs : Shp n k m) (hm : Go.Rep.BM 2 m) :
    Tame m k ∧ (nullL (ent (redP m k).1) (redP m k).2 k).length + rankV m k = k ∧ Go.Rep.BM 3001250 (nullL (ent (redP m k).1) (redP m k).2 k) ∧ formedB (nullL (ent (redP m k).1) (redP m k).2 k) = true ∧ TameE (nullL (ent (redP m k).1) (redP m k).2 k) (colsL (nullL (ent (redP m k).1) (redP m k).2 k)) ∧ rankV (nullL (ent (redP m k).1) (redP m k).2 k) (colsL (nullL (ent (redP m k).1) (redP m k).2 k)) = (nullL (ent (redP m k).1) (redP m k).2 k).length ∧ ∀ l ∈ nullL (ent (redP m k).1) (redP m k).2 k, l.length = k ∧ appL m l = List.replicate n 0 := by
  have hmb := bm_hb hm (by decide)
  have h35 := pow35' hn
  have h35b := Nat.mul_le_mul_right 2 h35
  have hnl := null_main hs hmb
  obtain ⟨_, h2, _⟩ := redP_ok hs
  have hlen := nullL_len h2
  have hrn := rank_null hs
  have hle : (nullL (ent (redP m k).1) (redP m k).2 k).length ≤ k := nullK_le _ _ _ _
  have hp : (redP m k).2.length = rankV m k := rfl
  have hpk : (redP m k).2.length ≤ k := by
    have h7 : (redP m k).2.Nodup := (h2.pw).imp (fun h => Nat.ne_of_lt h)
    have h8 : (redP m k).2.length ≤ (List.range k).length := h7.length_le_of_subset fun x hx => by
      obtain ⟨i, hi, rfl⟩ := List.getElem_of_mem hx
      exact List.mem_range.2 (h2.lt i hi)
    rwa [List.length_range] at h8
  have hmm : ∀ l ∈ nullL (ent (redP m k).1) (redP m k).2 k, l.length = k ∧ appL m l = List.replicate n 0 := fun l hl => ⟨(hnl l hl).1, app_eq hs (by simp) fun i hi => by rw [(hnl l hl).2.2 i hi]; simp [List.getD_eq_getElem?_getD, hi]⟩
  obtain ⟨L, hL⟩ : ∃ L, nullL (ent (redP m k).1) (redP m k).2 k = L := ⟨_, rfl⟩
  rw [hL] at hnl hlen hrn hle hmm ⊢
  have hbl : Go.Rep.BM 3001250 L := fun l hl q hq => Nat.le_trans ((hnl l hl).2.1 q hq) (by omega)
  have hsh : Shp L.length k L := ⟨rfl, fun l hl => (hnl l hl).1⟩
  by_cases h0 : L.length = 0
  · have hnil : L = [] := List.eq_nil_of_length_eq_zero h0
    subst hnil
    refine ⟨tame_of hs hmb (by omega), by rw [← hp]; rw [List.length_nil] at hlen ⊢; omega, hbl, rfl, ⟨1, by decide, fun j hj => ?_⟩, rfl, hmm⟩
    rw [eN_nil]
    intro i q
    have : ent [] i q = 0 := rfl
    rw [this, hq_zero]
    exact Nat.le_refl _
  · have hc : colsL L = k := shpc hsh (by omega)
    have h5 : 5 ^ L.length ≤ 625 := Nat.le_trans (Nat.pow_le_pow_right (by omega) (show L.length ≤ 4 by omega)) (by decide)
    rw [hc]
    exact ⟨tame_of hs hmb (by omega), by rw [← hp]; omega, hbl, shpf hsh (by omega) hk1 (by omega), tamee_of hsh (bm_hb hbl (by decide)) (by have := Nat.mul_le_mul_right 3001250 h5; omega), hrn, hmm⟩
end Go.Lin
namespace Go.Rep
open Go.RowKit Go.Lim
theorem up_make {P : Program} {α : Type} {R : Mem → Value → α → Prop} {sz : Nat} {e : TypeId} {w : World} {a : Act} {Q : Exit → Act → World → Prop} {o : Oper} {K : Act → World → Prop} {t by_ : Nat} {z : Value} {kl kc : IntKind} {m : Int} (T : SliceT P t e sz by_ z) (hR : Elem R sz) (x0 : α) (hz : ∀ h, R h z x0) (X : Nat → Bool) (hX : ∀ k, X k = true → k < w.heap.size) (base : Nat) (hbase : base ≤ w.heap.size)
    (n : Nat) (hm : m = (n : Int)) (hroom : by_ * n ≤ 281474976710656) (hmax : n ≤ 9223372036854775807)
    (hK : ∀ ao w', OL R sz X base e w' ao n (List.replicate n x0) → Ext w w' → K (a.put o.dst (.slice ao n n)) w') :
    o.upon P a K Q ((Sem.run P (Instr.makeSlice t (.int kl m) (.int kc m)) w).andThen fun v w => .ok (.value v) w) := by
  subst hm
  obtain ⟨ao, w', hr, h2, h3⟩ := OL.run_make (P := P) T hR x0 hz hX hbase kl kc n hroom hmax
  rw [hr]
  exact hK ao w' h2 h3
end Go.Rep
namespace Go.Proofs.Ytjbhcniiioepgaa
open Go.RowKit Go.Rep Go.Lim Go.Lin

theorem natN {z : Int} (h : 0 ≤ z) : ∃ k : Nat, z = (k : Int) := Int.eq_ofNat_of_zero_le h

set_option maxRecDepth 100000 in
set_option maxHeartbeats 1600000 in
theorem basis_any (w : World) (d1 d2 : Int) (ao : Option Addr) (ra : List Int) (ca : Nat) (h1 : 0 ≤ d1) (h1' : d1 < 256) (h2 : 0 ≤ d2) (h2' : d2 < 256) (hsa : Sl (IntIn .i64) 1 (mk noY w) ao ra) (hra : ∀ x ∈ ra, -9223372036854775808 ≤ x ∧ x ≤ 9223372036854775807) :
    Calls Try.prog 3 #[.int .u8 d1, .int .u8 d2, .slice ao ra.length ca] w (BOut w true) := by
  have hX := HX.none w
  obtain ⟨n, hn⟩ := natN (show 0 ≤ 1 + d1 % 4 by omega)
  obtain ⟨k, hk⟩ := natN (show 0 ≤ 1 + d2 % 4 by omega)
  have hn1 : 1 ≤ n ∧ n ≤ 4 := by omega
  have hk1 : 1 ≤ k ∧ k ≤ 4 := by omega
  obtain ⟨m, hm⟩ : ∃ m, matL n k ra = m := ⟨_, rfl⟩
  have hsh : Shp n k m := by rw [← hm]; exact matL_shp n k ra
  have hbm : BM 2 m := by rw [← hm]; exact matL_bm n k ra
  have hf : formedB m = true := shpf hsh (by omega) (by omega) (by omega)
  have hcm : colsL m = k := shpc hsh (by omega)
  have big : ∀ {m : List (List Rat)} {B : Nat}, BM B m → B ≤ 68719476736 → BM 68719476736 m := fun h hB r hr q hq => Nat.le_trans (h r hr q hq) hB
  have hbm5 : BM 50000000 m := fun r hr q hq => Nat.le_trans (hbm r hr q hq) (by decide)
  have hM1 := matrix_any noY w n k ao ra ca hX hsa (by omega) (by omega) hra
  rw [hm] at hM1
  obtain ⟨tm, hsum, hbl, hfl, tl, hrl, hN⟩ := null_facts hn1.2 hk1.1 hk1.2 hsh hbm
  have hap := hid (fun w' u v x (hu : MC (mk noY w') u m) (hv : RC (mk noY w') v x) (hb : BR 50000000 x) (hl : x.length = k) => apply_ok noY w' u v m x 50000000 (HX.none w') (hu.mv (big hbm (by decide))) (hv.rv (fun q hq => Nat.le_trans (hb q hq) (by decide))) hf (by rw [hcm]; exact hl) hbm5 hb (by decide) (by decide))
  have hnu := hid (fun w' u (hu : MC (mk noY w') u m) => null_ok noY w' u m n k (HX.none w') (hu.mv (big hbm (by decide))) hf hsh.1 hcm tm)
  have hrm := hid (fun w' u (hu : MC (mk noY w') u m) => rank_ok noY w' u m (HX.none w') (hu.mv (big hbm (by decide))) hf (by rw [hcm]; exact tm.e))
  rw [hcm] at hrm
  obtain ⟨L, hL⟩ : ∃ L, nullL (ent (redP m k).1) (redP m k).2 k = L := ⟨_, rfl⟩
  obtain ⟨r, hr⟩ : ∃ r, rankV m k = r := ⟨_, rfl⟩
  rw [hL] at hsum hbl hfl tl hrl hN hnu
  rw [hr] at hsum hrm
  have hrk := hid (fun w' u (hu : MC (mk noY w') u L) => rank_ok noY w' u L (HX.none w') (hu.mv (big hbl (by decide))) hfl tl)
  rw [hrl] at hrk
  have hzb : BR 68719476736 (List.replicate n (0 : Rat)) := fun q hq => by rw [List.eq_of_mem_replicate hq, hq_zero]; decide
  have hsame := hid (fun w' u v (hu : RC (mk noY w') u (List.replicate n 0)) (hv : RC (mk noY w') v (List.replicate n 0)) => show Calls Try.prog 8 #[u, v] w' (BOut w' true) from by
    have := rqsamelist noY w' u v _ _ hu hv hzb (by rw [List.length_replicate]; omega)
    rwa [decide_eq_true (rfl : List.replicate n (0 : Rat) = List.replicate n 0)] at this)
  have hN' := hid hN
  have hbl' := hid hbl
  have hn' := hid hn
  have hk' := hid hk
  obtain ⟨nl, hnl⟩ : ∃ nl, L.length = nl := ⟨_, rfl⟩
  rw [hnl] at hsum hrk
  have hnl' := hid hnl
  clear big hsh hbm hf hcm hbm5 tm hbl hfl tl hrl hN hL hr hm hn hk hra hsa hnl hzb
  go_enter Try.func3, Try.ntmps3
  go_wp2_with fail
  rw [hn'.out, hk'.out]
  refine hM1.mono ?_
  rintro e w1 ⟨hE1, um, rfl, hum⟩
  clear h1 h1' h2 h2'
  go_wp2_with fail
  refine (hnu.out w1 _ hum).mono ?_
  rintro e w2 ⟨hE2, ul, rfl, hul⟩
  go_wp2_with fail
  refine (hrm.out w2 _ (mkx MC.mono hum hE2)).mono ?_
  rintro e w3 ⟨hE3, rfl⟩
  obtain ⟨la, lc, rfl, hlc, hla⟩ := hul
  have hul : MC (mk noY w2) (.slice la L.length lc) L := ⟨la, lc, rfl, hlc, hla⟩
  rw [hnl'.out] at hul ⊢
  go_wp2_with fail
  refine (hrk.out w3 _ (mkx MC.mono hul hE3)).mono ?_
  rintro e w4 ⟨hE4, rfl⟩
  have hhl : Hd la nl := by have := hla.hd; rw [hnl'.out] at this; exact this
  have hla4 := hla.mono RC.mono (mk_ext (hE3.trans hE4))
  have hum4 := mkx MC.mono hum (hE2.trans (hE3.trans hE4))
  have hE04 := hE1.trans (hE2.trans (hE3.trans hE4))
  have ew : wrap64 ((k : Int) - (r : Int)) = (nl : Int) := by rw [IntWalk.wrap64_in _ (by omega)]; omega
  have hkk : ((nl : Int) != (nl : Int)) = false := bneF rfl
  clear hul hla hum
  go_wp2_with fail
  go_loopw [16] (fun iv wr => ∃ (i : Nat), iv = .int .i64 i ∧ i ≤ nl ∧ Ext w4 wr) (fun iv _ => nl - (intOf iv).toNat)
  case atStart => exact ⟨0, rfl, Nat.zero_le _, ExtX.refl _⟩
  case round =>
    obtain ⟨i, rfl, hi, hE⟩ := hrel
    by_cases hlt : i < nl
    · have hiL : i < L.length := by rw [hnl'.out]; exact hlt
      obtain ⟨a1, c1, hX1, hc1, hcl1, hq1⟩ := (hla4.mono RC.mono (mk_ext hE)).row i hiL
      obtain ⟨hl1, hl2⟩ := hN'.out L[i] (List.getElem_mem _)
      have hbi := hbl'.out L[i] (List.getElem_mem _)
      have k00 := hc1.out noY wr (ExtX.refl _) rfl
      have hap1 := hap.out wr _ (.slice a1 L[i].length c1) L[i] (mkx MC.mono hum4 hE) ⟨a1, c1, rfl, hcl1, hq1⟩ (fun q hq => Nat.le_trans (hbi q hq) (by decide)) hl1
      rw [hl2, hl1] at hap1
      rw [hl1] at k00
      clear hc1 hq1 hl1 hl2 hbi
      go_wp2_with (with_reducible refine up_ix1 slRats (by omega) (by assumption) ?_)
      refine hap1.mono ?_
      rintro e w5 ⟨hE5, uv, rfl, huv⟩
      clear k00
      go_wp2_with (refine up_make (R := QC) slRat QC.elem (0 : Rat) (fun _ => QC.zero _) noY (HX.none w5) w5.heap.size (Nat.le_refl _) n rfl (by omega) (by omega) ?_; intro xo w6 hO6 hE6)
      have hxs := hO6.sl QC.elem
      have hxc := hO6.lenCap
      have hxr : RC (mk noY w6) (.slice xo n n) (List.replicate n 0) := ⟨xo, n, by rw [List.length_replicate], hxc, hxs⟩
      refine (hsame.out w6 _ _ (mkx RC.mono huv hE6) hxr).mono ?_
      rintro e w7 ⟨hE7, rfl⟩
      have hE17 := hE.trans (hE5.trans (hE6.trans hE7))
      go_wp2_with fail
      go_roundw
      case rel => exact ⟨i + 1, by go_num, by omega, hE17⟩
      case measure => simp [intOf]; omega
    · have hin : i = nl := by omega
      subst hin
      go_wp2_with fail
      refine (awake6_any wr).mono ?_
      rintro e w9 ⟨hE9, rfl⟩
      go_wp2_with fail
      go_ret
      exact ⟨hE04.trans (hE.trans hE9), rfl⟩
end Go.Proofs.Ytjbhcniiioepgaa

namespace Go.Proofs.Ytjbhcniiioepgaa
open Go.ChangeShapes Go.WideShapes Go.ChangeAt Go.RowKit Go.Rep Go.Deep

section
variable {H : Type} {enc : TypeId × Value → H} {w : World} {base : Nat} {spare : Nat → Bool} {held : Bool}

theorem adr_some {x : Addr} {v : Value} (h : w.cell? (x.add 0) = some v) : (∀ j, x.add j = adr (some x) j) ∧ ∃ b off, x = ⟨b, off, none⟩ := by
  have hs := World.cell?_spot h
  obtain ⟨b, off, spot⟩ := x
  have hspot : spot = none := by simpa [Addr.add] using hs
  subst hspot
  exact ⟨fun j => by rw [Addr.add_lit]; simp [adr], b, off, rfl⟩

theorem ints_of {fuel : Nat} {v : Value} {x : DataW H × List MemPlace} (h : DataW.trod enc Try.prog w base spare held fuel 22 [v] = some x) :
    ∃ (a : Option Addr) (l : List Int) (cap : Nat), v = .slice a l.length cap ∧ l.length ≤ cap ∧ l.length ≤ 9223372036854775807 ∧ Sl (IntIn .i64) 1 w.cell? a l := by
  rcases open_ints Try.underlying22 Try.underlying3 (by kernel_rfl) h with ⟨hcs, _⟩ | ⟨x, len, c, zs, hcs, _, hl, hm, hz, _, hcell, _⟩
  · refine ⟨none, [], 0, by simpa using hcs, by simp, by simp, Sl.nil _ _ _ _⟩
  · have hzl : len ≤ zs.length := by
      rw [hz]; split <;> omega
    have hlen : (zs.take len).length = len := by simp; omega
    have hmax : c ≤ 9223372036854775807 := by simpa [maxLen] using hm
    refine ⟨some x, zs.take len, c, by rw [hlen]; simpa using hcs, by omega, by omega, fun h0 => ?_, fun i hi => ?_⟩
    · obtain ⟨_, b, off, hx⟩ := adr_some (hcell 0 (by omega))
      exact ⟨b, off, by rw [hx]⟩
    · have hi' : i < zs.length := by omega
      refine ⟨.int .i64 (zs.take len)[i], rfl, fun j hj => ?_, rfl⟩
      have hj0 : j = 0 := by simp [Value.cells] at hj; exact hj
      subst hj0
      have h1 := hcell i hi'
      have h2 := (adr_some (hcell 0 (by omega))).1 i
      rw [h2] at h1
      simp only [Nat.mul_one, Nat.add_zero, List.getElem_take]
      rw [h1]
      simp [List.getD_eq_getElem?_getD, hi', Value.cells]

end
end Go.Proofs.Ytjbhcniiioepgaa
