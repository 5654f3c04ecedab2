/- Parts of a proof: each theorem states what it proves, and its conditions. -/
import Derived.Test.YtnnpfhoigmegcaaGreatFlL
namespace Go.Rep
open Go.RowKit Go.Lim
end Go.Rep
namespace Go.Proofs.YtnnpfhoigmegcaaGreat
open Go.RowKit Go.Rep Go.Lim
theorem nlist_eq {α : Type} {a b : List α} (h : a.length = b.length) (hp : ∀ i, (h1 : i < a.length) -> (h2 : i < b.length) -> a[i] = b[i]) : a = b := List.ext_getElem h hp
theorem nupto_succ {a b : List Nat} {i : Nat} (h : ∀ p, p < i -> ∀ (hp : p < a.length) (hq : p < b.length), a[p] = b[p]) (hn : ∀ (hp : i < a.length) (hq : i < b.length), a[i] = b[i]) : Hid (∀ p, p < i + 1 -> ∀ (hp : p < a.length) (hq : p < b.length), a[p] = b[p]) := hid fun p hp h1 h2 => by
  by_cases hpi : p = i
  · subst hpi; exact hn h1 h2
  · exact h p (by omega) h1 h2
theorem ndrewQ {w wr : World} (h : Hid (∃ m, wr = w.drewN m)) (n : Nat) : ∃ m, wr.drewN n = w.drewN m := by
  obtain ⟨m, rfl⟩ := h
  exact ⟨_, World.drewN_drewN _ _ _⟩
theorem rnsame (X : Nat -> Bool) (w : World) (u v : Value) (na nb : Nat) (hu : NC (mk X w) u na) (hv : NC (mk X w) v nb) (hn : lg na <= 1099511627776) : Calls Tryz.prog 115 #[u, v] w fun e w' => e = .returned (.bool (decide (na = nb))) /\ ∃ m, w' = w.drewN m := by
  obtain ⟨ao, ca, a, rfl, hca, hcan, hsa⟩ := hu
  obtain ⟨bo, cb, b, rfl, hcb, hcbn, hsb⟩ := hv
  have hla : a.length <= 1099511627776 := by rw [hcan.len]; exact hn
  have hha := hsa.hd
  have hhb := hsb.hd
  have hab : Hid (decide (na = nb) = (a == b)) := hid (by
    rw [Bool.eq_iff_iff]
    simp only [decide_eq_true_eq, beq_iff_eq]
    constructor
    · intro h; subst h; exact hcan.unique hcbn
    · intro h; subst h; exact hcan.2.2.symm.trans hcbn.2.2)
  clear hn hca hcb hcan hcbn
  by_cases hlen : a.length = b.length
  · have hbl : b.length <= a.length := by omega
    have hal : a.length <= b.length := by omega
    have hne : ((a.length : Int) != b.length) = false := bneF (by omega)
    have hlen' := hid hlen
    clear hlen
    go_enter Tryz.func115, Tryz.ntmps115
    go_wp2_with fail
    go_loopw [5] (fun c wr => ∃ i : Nat, c = .int .i64 i /\ i <= a.length /\ Hid (∀ p, p < i -> ∀ (hp : p < a.length) (hq : p < b.length), a[p] = b[p]) /\ ∃ m, wr = w.drewN m) (fun c _ => a.length - (intOf c).toNat)
    case atStart => exact ⟨0, rfl, Nat.zero_le _, hid fun p hp => by omega, 0, rfl⟩
    case round =>
      obtain ⟨i, rfl, hi, hok, hDr⟩ := hrel
      have hDq : Hid (∃ m, wr = w.drewN m) := hid hDr
      have hE : Ext w wr := by
        obtain ⟨m, hm⟩ := hDr
        rw [hm]; exact (ExtX.refl w).drewN m
      clear hDr
      by_cases hlt : i < a.length
      · have hlt2 : i < b.length := by omega
        have c1 := (hsa.mono (NatIn.mono _) (mk_ext hE)).nat i hlt
        have c2 := (hsb.mono (NatIn.mono _) (mk_ext hE)).nat i hlt2
        have i1 : ∀ W, (Instr.indexAt 37 (.slice ao a.length ca) (.int .i64 (i : Int))).run Tryz.prog W = .ok (.pointer (some (adr ao i))) W := run_ix1 slU32 ao a.length ca .i64 i hha (by omega) rfl
        have i2 : ∀ W, (Instr.indexAt 37 (.slice bo b.length cb) (.int .i64 (i : Int))).run Tryz.prog W = .ok (.pointer (some (adr bo i))) W := run_ix1 slU32 bo b.length cb .i64 i hhb (by omega) rfl
        obtain ⟨x, hx⟩ : ∃ x, a[i] = x := ⟨_, rfl⟩
        obtain ⟨y, hy⟩ : ∃ y, b[i] = y := ⟨_, rfl⟩
        rw [hx] at c1
        rw [hy] at c2
        have hx' := hid hx
        have hy' := hid hy
        clear hx hy
        by_cases hxy : x = y
        · have hn : Hid (∀ (hp : i < a.length) (hq : i < b.length), a[i] = b[i]) := hid fun _ _ => by rw [hx'.out, hy'.out, hxy]
          have hb : ((x : Int) != y) = false := bneF (by omega)
          clear hxy
          go_wp2_with fail
          go_quiet (fail)
          go_wp2_with fail
          go_roundw
          case rel => exact ⟨i + 1, by go_num, by omega, nupto_succ hok.out hn.out, ndrewQ hDq _⟩
          case measure => simp [intOf]; omega
        · have hv : Hid ((a == b) = false) := hid (by
            cases h : a == b
            · rfl
            · have := eq_of_beq h; subst this; exact absurd (hx'.out.symm.trans hy'.out) hxy)
          have hb : ((x : Int) != y) = true := bneT (by omega)
          clear hxy
          go_wp2_with fail
          go_quiet (fail)
          go_wp2_with fail
          go_ret
          exact ⟨ret_bool (hv.out.symm.trans hab.out.symm), ndrewQ hDq _⟩
      · have hv : Hid ((a == b) = true) := hid (by rw [nlist_eq hlen'.out fun p hp hq => hok.out p (by omega) hp hq]; simp)
        go_wp2_with fail
        go_ret
        exact ⟨ret_bool (hv.out.symm.trans hab.out.symm), hDq.out⟩
  · have hne : ((a.length : Int) != b.length) = true := bneT (by omega)
    have hv : Hid ((a == b) = false) := hid (by
      cases h : a == b
      · rfl
      · have := eq_of_beq h; subst this; exact absurd rfl hlen)
    clear hlen
    go_enter Tryz.func115, Tryz.ntmps115
    go_wp2_with fail
    go_ret
    exact ⟨ret_bool (hv.out.symm.trans hab.out.symm), 0, rfl⟩
end Go.Proofs.YtnnpfhoigmegcaaGreat
namespace Go.Rep
open Go.RowKit
section
variable {P : Program} {ops : Array Oper} {Q : Exit -> Act -> World -> Prop} {rest : List Oper} {a : Act} {w : World}
variable {d : Option Tmp} {ty : TypeId} {ps : String} {af : Array Edge}
theorem st_loadBox {t : TypeId} {x : Operand} {n b : Nat} {cs : Array Value} {T : TypeId} (hT : StructT P t n) (hx : a.eval x = .pointer (some ⟨b, 0, none⟩)) (hb : Bx w b cs T) (hcs : cs.size = n)
    (K : wpList P ops Q rest (a.put d (.agg cs)) w) :
    wpList P ops Q (⟨d, .load t x, ty, ps, af, none⟩ :: rest) a w := by
  refine wpList_plain rfl fun K' hK' => ?_
  have hl := run_loadBox (P := P) hT hb hcs
  unfold Oper.wp
  simp [execOp, hx, Instr.loadAt, Instr.sureAddr, hl, Result.andThen]
  exact hK' _ _ K
end
end Go.Rep
namespace Go.Proofs.YtnnpfhoigmegcaaGreat
open Go.RowKit Go.Rep Go.Lim
theorem risame (X : Nat -> Bool) (w : World) (u v : Value) (x y : Int) (hu : ZC (mk X w) u x) (hv : ZC (mk X w) v y) (hl : lg x.natAbs <= 1099511627776) : Calls Tryz.prog 114 #[u, v] w (BOut w (decide (x = y))) := by
  obtain ⟨s1, a1, c1, l1, rfl, h11, h12, h13⟩ := hu
  obtain ⟨s2, a2, c2, l2, rfl, h21, h22, h23⟩ := hv
  obtain ⟨W, hW, hE, b0, b1, hz⟩ := boxes2 w #[.bool s1, .slice a1 l1.length c1] #[.bool s2, .slice a2 l2.length c2] 39 39
  have hn1 : NC (mk X W) (.slice a1 l1.length c1) x.natAbs := ⟨a1, c1, l1, rfl, h11, h12.2, h13.mono (NatIn.mono _) (mk_ext hE)⟩
  have hn2 : NC (mk X W) (.slice a2 l2.length c2) y.natAbs := ⟨a2, c2, l2, rfl, h21, h22.2, h23.mono (NatIn.mono _) (mk_ext hE)⟩
  obtain ⟨b, hb⟩ : ∃ b, w.heap.size = b := ⟨_, rfl⟩
  rw [hb] at b0 b1 hz
  have k00 := b0.cell 0 rfl
  have k01 := b0.cell 1 rfl
  have k10 := b1.cell 0 rfl
  have k11 := b1.cell 1 rfl
  have hs1 := hid (sg_of h12)
  have hs2 := hid (sg_of h22)
  by_cases hss : s1 = s2
  · subst hss
    have hf : Hid (decide (x = y) = decide (x.natAbs = y.natAbs)) := hid (by
      rw [Bool.eq_iff_iff]
      simp only [decide_eq_true_eq]
      constructor
      · intro h; rw [h]
      · intro h; rw [<- hs1.out, <- hs2.out, h])
    have hl' := hid hl
    clear h12 h22 hl
    go_enter Tryz.func114, Tryz.ntmps114
    go_wp2_with fail
    refine (rnsame X W _ _ _ _ hn1 hn2 hl'.out).mono ?_
    rintro e w5 ⟨rfl, m, rfl⟩
    go_wp2_with fail
    go_ret
    exact ⟨hE.trans ((ExtX.refl W).drewN m), ret_bool hf.out.symm⟩
  · have hf : Hid (decide (x = y) = false) := hid (by
      rw [decide_eq_false_iff_not]
      intro h; subst h; exact hss (h12.1.trans h22.1.symm))
    have hne : (s1 == s2) = false := by simpa using hss
    clear h12 h22 hl hss
    go_enter Tryz.func114, Tryz.ntmps114
    go_wp2_with fail
    go_ret
    exact ⟨hE, ret_bool hf.out.symm⟩
end Go.Proofs.YtnnpfhoigmegcaaGreat
namespace Go.Proofs.YtnnpfhoigmegcaaGreat
open Go.RowKit Go.Rep Go.Lim
set_option maxRecDepth 100000 in
theorem rqsub (X : Nat -> Bool) (w : World) (u v : Value) (x y : Rat) (hX : HX X w) (hu : QV (mk X w) u x) (hv : QV (mk X w) v y) : Calls Tryz.prog 116 #[u, v] w (ROut X w QC (x - y)) := by
  have hlx := hid hu.hq
  have hly := hid hv.hq
  obtain ⟨s1, a1, n1, c1, d1, k1, e1, rfl⟩ := hu.shape
  obtain ⟨s2, a2, n2, c2, d2, k2, e2, rfl⟩ := hv.shape
  obtain ⟨W, hW, hE, b0, b1, b2, hz⟩ := boxes3 w #[.bool s1, .slice a1 n1 c1, .slice d1 k1 e1] #[.bool s2, .slice a2 n2 c2, .slice d2 k2 e2] #[.bool false, .slice none 0 0, .slice none 0 0] 41 41 41
  have hXW : HX (hidB X w.heap.size 3) W := hX.boxes hz
  have hu1 := QV.mono _ _ _ _ (le_boxes (nb := 3) hE) hu
  have hv1 := QV.mono _ _ _ _ (le_boxes (nb := 3) hE) hv
  obtain ⟨b, hb⟩ : ∃ b, w.heap.size = b := ⟨_, rfl⟩
  have hbw : w.heap.size <= b := by omega
  rw [hb] at b0 b1 b2 hz hXW hu1 hv1
  have hEd : Ext W W.drew := (ExtX.refl W).drew
  have hXd : HX (hidB X b 3) W.drew := hXW
  have hud : QV (mk (hidB X b 3) W.drew) (.agg #[.bool s1, .slice a1 n1 c1, .slice d1 k1 e1]) x := hu1
  have hvd : QV (mk (hidB X b 3) W.drew) (.agg #[.bool s2, .slice a2 n2 c2, .slice d2 k2 e2]) y := hv1
  have k00 := b0.cell 0 rfl
  have k01 := b0.cell 1 rfl
  have k02 := b0.cell 2 rfl
  have k10 := b1.cell 0 rfl
  have k11 := b1.cell 1 rfl
  have k12 := b1.cell 2 rfl
  clear hu hv
  have hB := hid (And.intro b0 b1)
  have hS : Hid (∀ W', Ext W.drew W' -> W'.cell? ⟨b, 0, none⟩ = some (.bool s1) /\ W'.cell? ⟨b, 1, none⟩ = some (.slice a1 n1 c1) /\ W'.cell? ⟨b, 2, none⟩ = some (.slice d1 k1 e1) /\ W'.cell? ⟨b + 1, 0, none⟩ = some (.bool s2) /\ W'.cell? ⟨b + 1, 1, none⟩ = some (.slice a2 n2 c2) /\ W'.cell? ⟨b + 1, 2, none⟩ = some (.slice d2 k2 e2)) :=
    hid fun W' h => ⟨(b0.ext0 (hEd.trans h)).cell 0 rfl, (b0.ext0 (hEd.trans h)).cell 1 rfl, (b0.ext0 (hEd.trans h)).cell 2 rfl, (b1.ext0 (hEd.trans h)).cell 0 rfl, (b1.ext0 (hEd.trans h)).cell 1 rfl, (b1.ext0 (hEd.trans h)).cell 2 rfl⟩
  have hny := hid (show hq (-y) <= 68719476736 by rw [hq_neg]; exact hly.out)
  have hsum : Hid (x + -y = x - y) := hid (Rat.sub_eq_add_neg x y).symm
  go_enter Tryz.func116, Tryz.ntmps116
  go_upto_region 1 with (fail)
  go_region_held3 (fun w' => w'.cell? ⟨b, 0, none⟩ = some (.bool s1) /\ w'.cell? ⟨b, 1, none⟩ = some (.slice a1 n1 c1) /\ w'.cell? ⟨b, 2, none⟩ = some (.slice d1 k1 e1) /\ w'.cell? ⟨b + 1, 0, none⟩ = some (.bool s2) /\ w'.cell? ⟨b + 1, 1, none⟩ = some (.slice a2 n2 c2) /\ w'.cell? ⟨b + 1, 2, none⟩ = some (.slice d2 k2 e2))
    (first | exact hS.out _ t1 | exact hS.out _ t2 | exact ⟨((hB.out.1.ext0 (hEd.trans t2)).ext (bb2.set3 _ _ _).2 (ob_other (by omega))).cell 0 rfl, ((hB.out.1.ext0 (hEd.trans t2)).ext (bb2.set3 _ _ _).2 (ob_other (by omega))).cell 1 rfl, ((hB.out.1.ext0 (hEd.trans t2)).ext (bb2.set3 _ _ _).2 (ob_other (by omega))).cell 2 rfl, ((hB.out.2.ext0 (hEd.trans t2)).ext (bb2.set3 _ _ _).2 (ob_other (by omega))).cell 0 rfl, ((hB.out.2.ext0 (hEd.trans t2)).ext (bb2.set3 _ _ _).2 (ob_other (by omega))).cell 1 rfl, ((hB.out.2.ext0 (hEd.trans t2)).ext (bb2.set3 _ _ _).2 (ob_other (by omega))).cell 2 rfl⟩ | go_keep)
    (first | (go_at_call 56; (with_reducible refine (rqneg (hidB X b 3) W.drew _ y hXd hvd).mono ?_); rintro ee w5 ⟨t1, u5, rfl, hu5⟩; have hX5 := HX.ext hXd t1; have hx5 := mkx QV.mono hud t1) | (go_at_call 48; (with_reducible refine (rqadd (hidB X b 3) w5 _ _ x (-y) hX5 hx5 (hu5.qv hny.out)).mono ?_); rintro ee w6 ⟨hE6, u6, rfl, hu6⟩; obtain ⟨s6, a6, n6, c6, d6, k6, e6, rfl⟩ := hu6.shape; have t2 := t1.trans hE6; have bb2 := b2.ext0 (hEd.trans t2); have g0 := bb2.cell 0 rfl; have g1 := bb2.cell 1 rfl; have g2 := bb2.cell 2 rfl; have f0 := bb2.frozen 0; have f1 := bb2.frozen 1; have f2 := bb2.frozen 2))
  rw [hsum.out] at hu6
  obtain ⟨q1, q2⟩ := bb2.set3 (.bool s6) (.slice a6 n6 c6) (.slice d6 k6 e6)
  have h7 := QC.mono _ _ _ _ le_unbox (QC.mono _ _ _ _ (le_store q2 (by omega) (by omega)) hu6)
  have hEf : Ext w _ := ExtX.box (hE.trans (hEd.trans t2)) q2 (by omega)
  clear g0 g1 g2 f0 f1 f2 k00 k01 k02 k10 k11 k12 hS hB
  go_wp2_with fail
  exact bodyPost_ret (results_box rfl rfl stRat q1 rfl) rfl ⟨hEf, _, rfl, h7⟩
set_option maxRecDepth 100000 in
theorem rqcompare (X : Nat -> Bool) (w : World) (u v : Value) (x y : Rat) (hX : HX X w) (hu : QV (mk X w) u x) (hv : QV (mk X w) v y) (hxy : hq (x - y) <= 68719476736) : Calls Tryz.prog 41 #[u, v] w (IntOut w (x - y).num.sign) := by
  have hlx := hid hu.hq
  have hly := hid hv.hq
  obtain ⟨s1, a1, n1, c1, d1, k1, e1, rfl⟩ := hu.shape
  obtain ⟨s2, a2, n2, c2, d2, k2, e2, rfl⟩ := hv.shape
  obtain ⟨W, hW, hE, b0, b1, hz⟩ := boxes2 w #[.bool s1, .slice a1 n1 c1, .slice d1 k1 e1] #[.bool s2, .slice a2 n2 c2, .slice d2 k2 e2] 41 41
  have hXW : HX (hidB X w.heap.size 2) W := hX.boxes hz
  have hu1 := QV.mono _ _ _ _ (le_boxes (nb := 2) hE) hu
  have hv1 := QV.mono _ _ _ _ (le_boxes (nb := 2) hE) hv
  obtain ⟨b, hb⟩ : ∃ b, w.heap.size = b := ⟨_, rfl⟩
  have hbw : w.heap.size <= b := by omega
  rw [hb] at b0 b1 hz hXW hu1 hv1
  have hEd : Ext W W.drew := (ExtX.refl W).drew
  have hXd : HX (hidB X b 2) W.drew := hXW
  have hud : QV (mk (hidB X b 2) W.drew) (.agg #[.bool s1, .slice a1 n1 c1, .slice d1 k1 e1]) x := hu1
  have hvd : QV (mk (hidB X b 2) W.drew) (.agg #[.bool s2, .slice a2 n2 c2, .slice d2 k2 e2]) y := hv1
  have k00 := b0.cell 0 rfl
  have k01 := b0.cell 1 rfl
  have k02 := b0.cell 2 rfl
  have k10 := b1.cell 0 rfl
  have k11 := b1.cell 1 rfl
  have k12 := b1.cell 2 rfl
  clear hu hv
  replace hxy := hid hxy
  obtain ⟨q, hq'⟩ : ∃ q : Rat, x - y = q := ⟨_, rfl⟩
  rw [hq'] at hxy |-
  have hq2 := hid hq'
  clear hq'
  go_enter Tryz.func41, Tryz.ntmps41
  go_wp2_with fail
  refine (rqsub (hidB X b 2) W _ _ x y hXW hu1 hv1).mono ?_
  rintro e w5 ⟨hE5, u5, rfl, hu5⟩
  rw [hq2.out] at hu5
  obtain ⟨s5, a5, n5, c5, d5, k5, e5, rfl⟩ := hu5.shape
  clear k00 k01 k02 k10 k11 k12
  go_wp2_with fail
  refine (rqsign (hidB X b 2) w5 _ q (hXW.ext hE5) (hu5.qv hxy.out)).mono ?_
  rintro e w6 ⟨hE6, rfl⟩
  go_wp2_with fail
  go_ret
  exact ⟨hE.trans (hE5.trans hE6), rfl⟩
end Go.Proofs.YtnnpfhoigmegcaaGreat
namespace Go.Lin
open Go.Lim
theorem br_get {l : List Rat} {B : Nat} (h : Go.Rep.BR B l) (hB : 1 <= B) (x : Nat) : hq (l.getD x 0) <= B := by
  by_cases hx : x < l.length
  · rw [List.getD_eq_getElem?_getD, List.getElem?_eq_getElem hx]; exact h _ (List.getElem_mem _)
  · rw [List.getD_eq_getElem?_getD, List.getElem?_eq_none (by omega)]
    show hq 0 <= B
    rw [hq_zero]; exact hB
end Go.Lin
namespace Go.Lin
open Go.Lim
theorem topS_more {l : List Rat} (hn : ∀ x ∈ l, 0 <= x) (m : Nat) : topS l m <= topS l (m + 1) := by
  by_cases h : l.length <= m
  · unfold topS
    rw [show l.length - (m + 1) = 0 by omega, show l.length - m = 0 by omega]; exact Rat.le_refl
  · unfold topS
    have hi : l.length - (m + 1) < (srt l).length := by rw [srt_len]; omega
    rw [List.drop_eq_getElem_cons hi, sumL_cons, show l.length - (m + 1) + 1 = l.length - m by omega]
    have := hn _ ((srt_perm l).mem_iff.1 (List.getElem_mem hi))
    grind
theorem share_nn (x : Mat) (c m : Nat) : 0 <= shareL x c m := (foldQ _ 0).1
end Go.Lin
namespace Go.Lin
open Go.Lim Go.Rep
theorem fn_hq {l : List Rat} {B : Nat} (h : BR B l) (hB : 1 <= B) (i : Nat) : hq (fn l i) <= B := br_get h hB i
end Go.Lin
namespace Go.Lin
open Go.Lim Go.Rep
end Go.Lin
namespace Go.Proofs.YtnnpfhoigmegcaaGreat
open Go.RowKit Go.Rep Go.Lim Go.Lin
set_option maxRecDepth 100000 in
theorem rqabs (X : Nat -> Bool) (w : World) (u : Value) (x : Rat) (hX : HX X w) (hu : QV (mk X w) u x) : Calls Tryz.prog 46 #[u] w (ROut X w QC (absR x)) := by
  have hlx := hid hu.hq
  obtain ⟨s1, a1, n1, c1, d1, k1, e1, rfl⟩ := hu.shape
  obtain ⟨W, hW, hE, b0, b1, hz⟩ := boxes2 w #[.bool s1, .slice a1 n1 c1, .slice d1 k1 e1] #[.bool false, .slice none 0 0, .slice none 0 0] 41 41
  have hXW : HX (hidB X w.heap.size 2) W := hX.boxes hz
  have hu1 := QV.mono _ _ _ _ (le_boxes (nb := 2) hE) hu
  obtain ⟨b, hb⟩ : ∃ b, w.heap.size = b := ⟨_, rfl⟩
  have hbw : w.heap.size <= b := by omega
  rw [hb] at b0 b1 hz hXW hu1
  have k00 := b0.cell 0 rfl
  have k01 := b0.cell 1 rfl
  have k02 := b0.cell 2 rfl
  have hsg := rqsign (hidB X b 2) W _ x hXW hu1
  have hneg := hid fun w' (h : Ext W w') => rqneg (hidB X b 2) w' _ x (hXW.ext h) (mkx QV.mono hu1 h)
  have htak := hid fun w' (h : Ext W w') => rqtake (hidB X b 2) w' _ x (hXW.ext h) (mkx QV.mono hu1 h)
  have ha1 := hid fun (h : x < 0) => (by unfold absR; rw [if_pos h] : absR x = -x)
  have ha2 := hid fun (h : ¬ x < 0) => (by unfold absR; rw [if_neg h] : absR x = x)
  clear hu hu1
  by_cases hx0 : x < 0
  · have hd := sgn_lt.2 hx0
    rw [ha1.out hx0]
    obtain ⟨sg, hsg'⟩ : ∃ sg, x.num.sign = sg := ⟨_, rfl⟩
    rw [hsg'] at hsg hd
    have hd' : decide (sg < 0) = true := decide_eq_true hd
    clear hsg' hx0 ha1 ha2
    go_enter Tryz.func46, Tryz.ntmps46
    go_wp2_with (first | (go_at_call 42; refine hsg.mono ?_; rintro ee w1 ⟨t1, rfl⟩; have bb0 := b0.ext0 t1; have l00 := bb0.cell 0 rfl; have l01 := bb0.cell 1 rfl; have l02 := bb0.cell 2 rfl) | (go_at_call 56; (with_reducible refine (hneg.out w1 t1).mono ?_); rintro ee w2 ⟨t2, u2, rfl, hu3⟩; obtain ⟨s2, a2, n2, c2, d2, k2, e2, rfl⟩ := hu3.shape; have bb1 := b1.ext0 (t1.trans t2)) | ((with_reducible show wpList _ _ _ (⟨_, .store 41 _ _, _, _, _, _⟩ :: _) _ _); refine st_storeBox stRat rfl rfl bb1 rfl rfl (one3 _ _ _ _ _ _ _) ?_; intro w7 r1 r2))
    have h7 := QC.mono _ _ _ _ le_unbox (QC.mono _ _ _ _ (le_store r2 (by omega) (by omega)) hu3)
    exact bodyPost_ret (results_box rfl rfl stRat r1 rfl) rfl ⟨ExtX.box (hE.trans (t1.trans t2)) r2 (by omega), _, rfl, h7⟩
  · have hd : ¬ x.num.sign < 0 := fun h => hx0 (sgn_lt.1 h)
    rw [ha2.out hx0]
    obtain ⟨sg, hsg'⟩ : ∃ sg, x.num.sign = sg := ⟨_, rfl⟩
    rw [hsg'] at hsg hd
    have hd' : decide (sg < 0) = false := decide_eq_false hd
    clear hsg' hx0 ha1 ha2
    go_enter Tryz.func46, Tryz.ntmps46
    go_wp2_with (first | (go_at_call 42; refine hsg.mono ?_; rintro ee w1 ⟨t1, rfl⟩; have bb0 := b0.ext0 t1; have l00 := bb0.cell 0 rfl; have l01 := bb0.cell 1 rfl; have l02 := bb0.cell 2 rfl) | (go_at_call 118; (with_reducible refine (htak.out w1 t1).mono ?_); rintro ee w2 ⟨t2, u2, rfl, hu3⟩; obtain ⟨s2, a2, n2, c2, d2, k2, e2, rfl⟩ := hu3.shape; have bb1 := b1.ext0 (t1.trans t2)) | ((with_reducible show wpList _ _ _ (⟨_, .store 41 _ _, _, _, _, _⟩ :: _) _ _); refine st_storeBox stRat rfl rfl bb1 rfl rfl (one3 _ _ _ _ _ _ _) ?_; intro w7 r1 r2))
    have h7 := QC.mono _ _ _ _ le_unbox (QC.mono _ _ _ _ (le_store r2 (by omega) (by omega)) hu3)
    exact bodyPost_ret (results_box rfl rfl stRat r1 rfl) rfl ⟨ExtX.box (hE.trans (t1.trans t2)) r2 (by omega), _, rfl, h7⟩
end Go.Proofs.YtnnpfhoigmegcaaGreat
namespace Go.Lin
open Go.Lim Go.Rep
theorem div_mono {a b q : Rat} (h : a <= b) (hq : 0 <= q) : a / q <= b / q := by
  rw [Rat.div_def, Rat.div_def]
  refine Rat.mul_le_mul_of_nonneg_right h ?_
  rcases Rat.le_iff_lt_or_eq.1 hq with h1 | h1
  · exact Rat.le_of_lt (Rat.inv_pos.2 h1)
  · rw [<- h1, Rat.inv_zero]; exact Rat.le_refl
theorem part_more (x : Mat) (c : Nat) (d : List Rat) (m : Nat) : partL x c d m <= partL x c d (m + 1) := div_mono (topS_more absP_nn m) (sumL_nn absP_nn)
theorem share_zero (x : Mat) (c : Nat) : shareL x c 0 = 0 := by
  refine Rat.le_antisymm (share_le Rat.le_refl fun d _ => by rw [part_zero]; exact Rat.le_refl) (share_nn x c 0)
theorem share_more (x : Mat) (c m : Nat) : shareL x c m <= shareL x c (m + 1) :=
  share_le (share_nn _ _ _) fun d hd => Rat.le_trans (part_more x c d m) (share_ge hd)
end Go.Lin
namespace Go.Lin
open Go.Lim Go.Rep
theorem absP_bd {n c B : Nat} {x : Mat} (hs : Shp n c x) (hc4 : c <= 4) (hB : BM B x) (hBB : B <= 1000) {d : List Rat} (hdB : BR 42875000 d) : BR 200004013 (absP x c d) := fun q hqm => by
  obtain ⟨r, hr, rfl⟩ := List.mem_map.1 hqm
  have hrl := hs.2 r hr
  have hbd := (dot_bd hrl hc4 (hB r hr) hdB (by decide) hBB).1 _ (Nat.le_refl _)
  rw [show dotN r d r.length = dotL r d from rfl, dot_row hrl] at hbd
  exact Nat.le_trans absR_hq hbd
def indF (C : List Nat) (A : List Rat) (i : Nat) : Rat := (if i ∈ C then 1 else 0) * A.getD i 0
def innP (C : List Nat) (A : List Rat) (j k : Nat) : Rat := sm j (indF C A) + (if j ∈ C.take k then A.getD j 0 else 0)
theorem innP_zero (C : List Nat) (A : List Rat) (j : Nat) : innP C A j 0 = sm j (indF C A) := by simp [innP, Rat.add_zero]
theorem innP_end {C : List Nat} {A : List Rat} {j k : Nat} (h : C.length <= k) : innP C A j k = sm (j + 1) (indF C A) := by
  unfold innP
  rw [List.take_of_length_le h]
  show _ = sm j (indF C A) + indF C A j
  unfold indF
  split
  · rw [Rat.one_mul]
  · rw [Rat.zero_mul]
theorem innP_hit {C : List Nat} {A : List Rat} {j k : Nat} (hC : C.Nodup) (hk : k < C.length) (h : C[k] = j) : innP C A j (k + 1) = innP C A j k + A.getD j 0 := by
  unfold innP
  have h1 : j ∈ C.take (k + 1) := by
    rw [List.take_succ_eq_append_getElem hk, h]; exact List.mem_append_right _ (List.mem_singleton.2 rfl)
  have h2 : ¬ j ∈ C.take k := fun hm => by
    obtain ⟨i, hi, he⟩ := List.getElem_of_mem hm
    rw [List.getElem_take] at he
    have hik : i < k := by rw [List.length_take] at hi; omega
    have hne := (List.pairwise_iff_getElem.1 hC) i k (by omega) hk hik
    exact hne (by rw [h]; exact he)
  rw [if_pos h1, if_neg h2, Rat.add_zero]
theorem innP_miss {C : List Nat} {A : List Rat} {j k : Nat} (h : ∀ hk : k < C.length, C[k] ≠ j) : innP C A j (k + 1) = innP C A j k := by
  unfold innP
  by_cases hk : k < C.length
  · have e : (j ∈ C.take (k + 1)) = (j ∈ C.take k) := by
      rw [List.take_succ_eq_append_getElem hk, List.mem_append, List.mem_singleton]
      exact propext ⟨fun h' => h'.elim id fun h'' => absurd h''.symm (h hk), Or.inl⟩
    simp only [e]
  · rw [List.take_of_length_le (show C.length <= k + 1 by omega), List.take_of_length_le (show C.length <= k by omega)]
theorem indF_hq {C : List Nat} {A : List Rat} {B i : Nat} (h : BR B A) (hB : 1 <= B) : hq (indF C A i) <= B := by
  unfold indF
  split
  · rw [Rat.one_mul]; exact br_get h hB i
  · rw [Rat.zero_mul, hq_zero]; exact hB
theorem innP_hq {C : List Nat} {A : List Rat} {j k : Nat} (h : BR 200004013 A) (hj : j <= 8) : hq (innP C A j k) <= 2000000000 := by
  have h1 := sm_hq (n := j) (f := indF C A) fun i _ => indF_hq h (by decide)
  have h2 : hq (if j ∈ C.take k then A.getD j 0 else 0) <= 200004013 := by
    split
    · exact br_get h (by decide) j
    · rw [hq_zero]; decide
  have h3 := hq_add (sm j (indF C A)) (if j ∈ C.take k then A.getD j 0 else 0)
  have h4 : j * (200004013 + 1) <= 8 * (200004013 + 1) := Nat.mul_le_mul_right _ hj
  unfold innP
  omega
theorem sumj_hq {A : List Rat} {j : Nat} (h : BR 200004013 A) (hj : j <= 8) : hq (sm j (fn A)) <= 2000000000 := by
  have h1 := sm_hq (n := j) (f := fn A) fun i _ => fn_hq h (by decide) i
  have h4 : j * (200004013 + 1) <= 8 * (200004013 + 1) := Nat.mul_le_mul_right _ hj
  omega
theorem chosen_nodup {n : Nat} {s : List Int} (hS : s.Pairwise (· < ·)) (hb : ∀ v ∈ s, 0 <= v /\ v < (n : Int)) (m : Nat) : ((s.map Int.toNat).take m).Nodup := by
  have h := (asc_toNat hS hb).1
  exact List.Nodup.sublist (List.take_sublist _ _) (h.imp fun hab => Nat.ne_of_lt hab)
theorem grt_law {n c : Nat} {x : Mat} {s : List Int} (hs : Shp n c x) (hc : 1 <= c) (hf : FullR x c) (hS : s.Pairwise (· < ·)) (hb : ∀ v ∈ s, 0 <= v /\ v < (x.length : Int)) (m : Nat) (d : List Rat) :
    sm x.length (indF ((s.map Int.toNat).take m) (absP x c d)) <= shareL x c m * sm x.length (fn (absP x c d)) := by
  have hbC : ∀ i ∈ (s.map Int.toNat).take m, i < x.length := fun i hi => (asc_toNat hS hb).2 i (List.mem_of_mem_take hi)
  have h := greatest hs hc hf m _ (chosen_nodup hS hb m) hbC (by rw [List.length_take]; exact Nat.min_le_left _ _) d
  rw [sm_ind _ _ (chosen_nodup hS hb m) (by rw [absP_len]; exact hbC)] at h
  rw [absP_len] at h
  unfold sumL at h
  rw [absP_len] at h
  exact h
theorem cmp_hq {a b s : Rat} (h1 : hq a <= 2000000000) (h2 : hq b <= 3300000000) (h3 : hq s <= 2000000000) : hq (a - b * s) <= 68719476736 /\ hq (b * s) <= 68719476736 := by
  have := hq_mul b s
  have := hq_sub a (b * s)
  omega
end Go.Lin
namespace Go.Proofs.YtnnpfhoigmegcaaGreat
open Go.RowKit Go.Rep Go.Lim Go.Lin
set_option maxRecDepth 100000 in
set_option maxHeartbeats 1600000 in
theorem rdot23_any (X : Nat -> Bool) (w : World) (u v : Value) (l m : List Rat) (hX : HX X w) (hu : RV (mk X w) u l) (hv : RV (mk X w) v m) (hn : l.length <= 1000000) (hml : m.length = l.length) (hb1 : ∀ k, k <= l.length -> hq (dotN l m k) <= 68719476736) (hb2 : ∀ k, k < l.length -> hq (l.getD k 0 * m.getD k 0) <= 68719476736) :
    Calls Tryz.prog 47 #[u, v] w (ROut X w QC (dotL l m)) := by
  obtain ⟨ao, ca, rfl, hca, hsa⟩ := hu
  obtain ⟨bo, cb, rfl, hcb, hsb⟩ := hv
  have hha := hsa.hd
  have hhb := hsb.hd
  obtain ⟨W, hW, hE, b0, b1, hz⟩ := boxes2 w #[.bool false, .slice none 0 0, .slice none 0 0] #[.bool false, .slice none 0 0, .slice none 0 0] 41 41
  have hXW : HX (hidB X w.heap.size 2) W := hX.boxes hz
  have h0 : QC (mk (hidB X w.heap.size 2) W) (.agg #[.bool false, .slice none 0 0, .slice none 0 0]) (dotN l m 0) := QC.zero _
  obtain ⟨n, hln⟩ : ∃ n, l.length = n := ⟨_, rfl⟩
  rw [hln] at hn hml hb1 hb2 hca hha |-
  rw [hml] at hcb hhb |-
  have hln' := hid hln
  have hml' := hid hml
  have hb1' := hid hb1
  have hb2' := hid hb2
  have hdot : Hid (dotN l m n = dotL l m) := hid (by unfold dotL; rw [hln])
  clear hln hml hb1 hb2
  go_enter Tryz.func47, Tryz.ntmps47
  go_wp2_with fail
  obtain ⟨b, hb⟩ : ∃ b, w.heap.size = b := ⟨_, rfl⟩
  have hle : Hid (∀ wr, Ext w wr -> Le (mk X w) (mk (hidB X b 2) wr)) := hid fun wr h => by rw [<- hb]; exact le_boxes h
  have hbw : w.heap.size <= b := by omega
  rw [hb] at b0 b1 hXW h0 |-
  clear hW
  go_loopw [9] (fun k wr => ∃ (i : Nat) (s : Bool) (a : Option Addr) (n' c' : Nat) (d : Option Addr) (kk e : Nat), k = .int .i64 i /\ i <= n /\ Bx wr b #[.bool false, .slice none 0 0, .slice none 0 0] 41 /\ Bx wr (b + 1) #[.bool s, .slice a n' c', .slice d kk e] 41 /\ QC (mk (hidB X b 2) wr) (.agg #[.bool s, .slice a n' c', .slice d kk e]) (dotN l m i) /\ HX (hidB X b 2) wr /\ Ext w wr) (fun k _ => n - (intOf k).toNat)
  case atStart => exact ⟨0, _, _, _, _, _, _, _, rfl, Nat.zero_le _, b0, b1, h0, hXW, hE⟩
  case round =>
    obtain ⟨i, s, a, n', c', d, kk, e, rfl, hi, b0, b1, hq, hXr, hEr⟩ := hrel
    by_cases hlt : i < n
    · have hil : i < l.length := by rw [hln'.out]; exact hlt
      have him : i < m.length := by rw [hml'.out]; exact hlt
      have hsr := hsa.mono QV.mono (hle.out wr hEr)
      have hsr2 := hsb.mono QV.mono (hle.out wr hEr)
      obtain ⟨g1, o1, s1, p1, n1, q1, d1, k1, e1, hg1, hX1, hc1, hq1⟩ := hsr.rat QV.shaped i hil
      obtain ⟨g2, o2, s2, p2, n2, q2, d2, k2, e2, hg2, hX2, hc2, hq2⟩ := hsr2.rat QV.shaped i him
      have gl : Hid (l.getD i 0 = l[i]) := hid (by simp [List.getD_eq_getElem?_getD, hil])
      have gm : Hid (m.getD i 0 = m[i]) := hid (by simp [List.getD_eq_getElem?_getD, him])
      have hst : Hid (dotN l m i + l[i] * m[i] = dotN l m (i + 1)) := hid (by rw [<- gl.out, <- gm.out]; rfl)
      have hbo := hid (hb1'.out i hi)
      have hbp := hid (hb2'.out i hlt)
      rw [gl.out, gm.out] at hbp
      obtain ⟨x, hx⟩ : ∃ x, l[i] = x := ⟨_, rfl⟩
      obtain ⟨y, hy⟩ : ∃ y, m[i] = y := ⟨_, rfl⟩
      rw [hx, hy] at hst hbp
      rw [hx] at hq1
      rw [hy] at hq2
      have i1 : ∀ W, (Instr.indexAt 26 (.slice ao n ca) (.int .i64 (i : Int))).run Tryz.prog W = .ok (.pointer (some ⟨g1, o1, none⟩)) W := by rw [<- hg1]; exact run_indexAt_adr slRat ao n ca .i64 i hha (by omega)
      have i2 : ∀ W, (Instr.indexAt 26 (.slice bo n cb) (.int .i64 (i : Int))).run Tryz.prog W = .ok (.pointer (some ⟨g2, o2, none⟩)) W := by rw [<- hg2]; exact run_indexAt_adr slRat bo n cb .i64 i hhb (by omega)
      obtain ⟨D, hD⟩ : ∃ D, dotN l m i = D := ⟨_, rfl⟩
      obtain ⟨D2, hD2⟩ : ∃ D2, dotN l m (i + 1) = D2 := ⟨_, rfl⟩
      rw [hD] at hq hst hbo
      rw [hD2] at hst
      have hD2' := hid hD2
      clear hx hy hg1 hg2 hD hD2
      have hE5d : Ext wr wr.drew := (ExtX.refl wr).drew
      have b05 := b0.ext0 hE5d
      have b15 := b1.ext0 hE5d
      have k00 := b15.cell 0 rfl
      have k01 := b15.cell 1 rfl
      have k02 := b15.cell 2 rfl
      obtain ⟨k10, k11, k12⟩ := hc1.out noY wr.drew hE5d rfl
      obtain ⟨k20, k21, k22⟩ := hc2.out noY wr.drew hE5d rfl
      have hXd := hXr.ext hE5d
      have hx5 : QV (mk (hidB X b 2) wr.drew) (.agg #[.bool s1, .slice p1 n1 q1, .slice d1 k1 e1]) x := mkx QV.mono hq1 hE5d
      have hy5 : QV (mk (hidB X b 2) wr.drew) (.agg #[.bool s2, .slice p2 n2 q2, .slice d2 k2 e2]) y := mkx QV.mono hq2 hE5d
      have hq5 : QV (mk (hidB X b 2) wr.drew) (.agg #[.bool s, .slice a n' c', .slice d kk e]) D := (mkx QC.mono hq hE5d).qv hbo.out
      clear hc1 hc2
      go_wp2_with fail
      go_region_with (first | (go_at_call 49; (with_reducible refine (rqmul (hidB X b 2) wr.drew _ _ _ _ hXd hx5 hy5).mono ?_); rintro ee w6 ⟨t1, u6, rfl, hu6⟩; obtain ⟨s6, a6, n6, c6, d6, k6, e6, rfl⟩ := hu6.shape; have hX6 := hXd.ext t1; have hq6 := mkx QV.mono hq5 t1; have hm6 := hu6.qv hbp.out; have b16 := b15.ext0 t1; have m0 := b16.cell 0 rfl; have m1 := b16.cell 1 rfl; have m2 := b16.cell 2 rfl) | (go_at_call 48; (with_reducible refine (rqadd (hidB X b 2) w6 _ _ _ _ hX6 hq6 hm6).mono ?_); rintro ee w7 ⟨t7, u7, rfl, hu7⟩; obtain ⟨s7, a7, n7, c7, d7, k7, e7, rfl⟩ := hu7.shape; rw [hst.out] at hu7; have b17 := b16.ext0 t7; have g0 := b17.cell 0 rfl; have g1' := b17.cell 1 rfl; have g2' := b17.cell 2 rfl; have f0 := b17.frozen 0; have f1 := b17.frozen 1; have f2 := b17.frozen 2))
      all_goals
        obtain ⟨z1, z2⟩ := b17.set3 (.bool s7) (.slice a7 n7 c7) (.slice d7 k7 e7)
        have h8 := QC.mono _ _ _ _ (le_store (lo := b) (nb := 2) z2 (by omega) (by omega)) hu7
        have b08 := ((b05.ext0 t1).ext0 t7).ext z2 (ob_other (by omega))
        have hE8 : Ext w _ := ExtX.box (hEr.trans (hE5d.trans (t1.trans t7))) z2 (by omega)
        have hX8 := (hX6.ext t7).ext z2
        rw [<- hD2'.out] at h8
        clear k00 k01 k02 k10 k11 k12 k20 k21 k22 m0 m1 m2 g0 g1' g2' f0 f1 f2 i1 i2
        go_wp2_with fail
        go_roundw
        case rel => exact ⟨i + 1, _, _, _, _, _, _, _, by go_num, by omega, b08, z1, h8, hX8, hE8⟩
        case measure => simp [intOf]; omega
    · have hin : i = n := by omega
      subst hin
      rw [hdot.out] at hq
      have k00 := b1.cell 0 rfl
      have k01 := b1.cell 1 rfl
      have k02 := b1.cell 2 rfl
      go_wp2_with ((with_reducible show wpList _ _ _ (⟨_, .store _ _ _, _, _, _, _⟩ :: _) _ _); refine st_storeBox stRat rfl rfl b0 rfl rfl (one3 _ _ _ _ _ _ _) ?_; intro w7 r1 r2)
      have h7 := QC.mono _ _ _ _ le_unbox (QC.mono _ _ _ _ (le_store r2 (by omega) (by omega)) hq)
      exact bodyPost_ret (results_box rfl rfl stRat r1 rfl) rfl ⟨ExtX.box hEr r2 (by omega), _, rfl, h7⟩
end Go.Proofs.YtnnpfhoigmegcaaGreat
namespace Go.Proofs.YtnnpfhoigmegcaaGreat
open Go.RowKit Go.Rep Go.Lim
set_option maxRecDepth 100000 in
theorem rqsame (X : Nat -> Bool) (w : World) (u v : Value) (x y : Rat) (hu : QC (mk X w) u x) (hv : QC (mk X w) v y) (hx : hq x <= 68719476736) : Calls Tryz.prog 40 #[u, v] w (BOut w (decide (x = y))) := by
  replace hx := hid hx
  obtain ⟨s1, a1, n1, c1, d1, k1, e1, rfl⟩ := hu.shape
  obtain ⟨s2, a2, n2, c2, d2, k2, e2, rfl⟩ := hv.shape
  obtain ⟨W, hW, hE, b0, b1, hz⟩ := boxes2 w #[.bool s1, .slice a1 n1 c1, .slice d1 k1 e1] #[.bool s2, .slice a2 n2 c2, .slice d2 k2 e2] 41 41
  have hu1 := mkx QC.mono hu hE
  have hv1 := mkx QC.mono hv hE
  obtain ⟨b, hb⟩ : ∃ b, w.heap.size = b := ⟨_, rfl⟩
  rw [hb] at b0 b1 hz
  have k00 := b0.cell 0 rfl
  have k01 := b0.cell 1 rfl
  have k02 := b0.cell 2 rfl
  have k10 := b1.cell 0 rfl
  have k11 := b1.cell 1 rfl
  have k12 := b1.cell 2 rfl
  clear hu hv
  obtain ⟨hxz, _, hxd⟩ := hu1.num
  obtain ⟨hyz, _, hyd⟩ := hv1.num
  have hl1 := hid (Nat.le_trans (hq_num x) (Nat.le_trans hx.out (by decide : (68719476736 : Nat) <= 1099511627776)))
  have hl2 := hid (Nat.le_trans (hq_dn x) (Nat.le_trans hx.out (by decide : (68719476736 : Nat) <= 1099511627776)))
  by_cases h1 : x.num = y.num
  · have hr : Hid (decide (dn x = dn y) = decide (x = y)) := hid (by
      rw [Bool.eq_iff_iff, decide_eq_true_eq, decide_eq_true_eq]
      constructor
      · intro h
        refine Rat.ext h1 ?_
        have := dn_zero x; have := dn_zero y
        unfold dn at h
        have := x.den_nz; have := y.den_nz
        split at h <;> split at h <;> omega
      · rintro rfl; rfl)
    have hd : Hid (decide (x.num = y.num) = true) := hid (decide_eq_true h1)
    clear h1
    go_enter Tryz.func40, Tryz.ntmps40
    go_wp2_with fail
    refine (risame X W _ _ _ _ hxz hyz hl1.out).mono ?_
    rintro e w5 ⟨hE5, rfl⟩
    rw [hd.out]
    have j02 := (b0.ext0 hE5).cell 2 rfl
    have j12 := (b1.ext0 hE5).cell 2 rfl
    clear k00 k01 k02 k10 k11 k12
    go_wp2_with fail
    refine (rnsame X w5 _ _ _ _ (mkx NC.mono hxd hE5) (mkx NC.mono hyd hE5) hl2.out).mono ?_
    rintro e w6 ⟨rfl, m, rfl⟩
    go_wp2_with fail
    go_ret
    exact ⟨(hE.trans hE5).drewN m, ret_bool hr.out⟩
  · have hr : Hid (false = decide (x = y)) := hid (decide_eq_false (by rintro rfl; exact h1 rfl)).symm
    have hd : Hid (decide (x.num = y.num) = false) := hid (decide_eq_false h1)
    clear h1
    go_enter Tryz.func40, Tryz.ntmps40
    go_wp2_with fail
    refine (risame X W _ _ _ _ hxz hyz hl1.out).mono ?_
    rintro e w5 ⟨hE5, rfl⟩
    rw [hd.out]
    clear k00 k01 k02 k10 k11 k12
    go_wp2_with fail
    go_ret
    exact ⟨hE.trans hE5, ret_bool hr.out⟩
end Go.Proofs.YtnnpfhoigmegcaaGreat
namespace Go.Lin
open Go.Lim Go.Rep
theorem share_hq {n c B : Nat} {x : Mat} (hs : Shp n c x) (hn8 : n <= 8) (hc1 : 1 <= c) (hc4 : c <= 4) (hB : BM B x) (hB1 : 1 <= B) (hBB : B <= 1000) (m : Nat) : hq (shareL x c m) <= 3300000000 := by
  unfold shareL
  rcases (foldQ ((raysL x c).map fun d => partL x c d m) 0).2.2 with e | e
  · rw [e, hq_zero]; decide
  · obtain ⟨d, hd, e2⟩ := List.mem_map.1 e
    rw [<- e2]
    have hd2 := (rays_mem (B := B) (d := d) hs hs.1 hc1 hc4 (bm_hb hB hB1) hBB hd).2
    exact part_hq hs hn8 hc4 hB hBB (fun q hq => Nat.le_trans (hd2 q hq) (by have := Nat.mul_le_mul_left 42875 hBB; omega)) m
theorem shE_is {x : Mat} {n c : Nat} (hd : dsgB x = true) (hcol : colsL x = c) (hn : x.length = n) {m : Int} (h0 : 0 <= m) (h1 : m <= n) : shE x m = if (redP x c).2.length = c then 0 else 7 := by
  unfold shE
  rw [hd, hcol, if_neg (by decide), if_neg (by omega)]
theorem sign_npz {x y : Rat} (h : x <= y) : (x - y).num.sign <= 0 := by
  have h0 : x - y <= 0 := by grind
  rcases Int.lt_trichotomy (x - y).num 0 with h1 | h1 | h1
  · rw [Int.sign_eq_neg_one_of_neg h1]; decide
  · rw [h1]; decide
  · have h2 : 0 <= x - y := Rat.num_nonneg.1 (by omega)
    rw [Rat.le_antisymm h0 h2] at h1
    exact absurd h1 (by decide)
end Go.Lin
namespace Go.Proofs.YtnnpfhoigmegcaaGreat
open Go.RowKit Go.Rep Go.Lim Go.Lin
set_option maxRecDepth 100000 in
set_option maxHeartbeats 1600000 in
theorem rof35 (X : Nat -> Bool) (w : World) (v : Int) (hX : HX X w) (h1 : -9223372036854775808 <= v) (h2 : v <= 9223372036854775807) : Calls Tryz.prog 43 #[.int .i64 v] w (ROut X w QC v) := by
  obtain ⟨W, hW, hE, b0, hz⟩ := boxes1 w #[.bool false, .slice none 0 0, .slice none 0 0] 41
  have hXW : HX (hidB X w.heap.size 1) W := hX.boxes hz
  obtain ⟨b, hb⟩ : ∃ b, w.heap.size = b := ⟨_, rfl⟩
  have hbw : w.heap.size <= b := by omega
  rw [hb] at b0 hz hXW
  have h1' := hid h1
  have h2' := hid h2
  clear h1 h2
  go_enter Tryz.func43, Tryz.ntmps43
  go_wp2_with fail
  refine (rqfrom (hidB X b 1) W v hXW h1'.out h2'.out).mono ?_
  rintro e1 w1 ⟨hE1, u1, rfl, hu1⟩
  obtain ⟨s6, a6, n6, c6, d6, k6, e6, rfl⟩ := hu1.shape
  have b1' := b0.ext0 hE1
  go_wp2_with ((with_reducible show wpList _ _ _ (⟨_, .store 41 _ _, _, _, _, _⟩ :: _) _ _); refine st_storeBox stRat rfl rfl b1' rfl rfl (one3 _ _ _ _ _ _ _) ?_; intro w7 r1 r2)
  have h7 := QC.mono _ _ _ _ le_unbox (QC.mono _ _ _ _ (le_store r2 (by omega) (by omega)) hu1)
  exact bodyPost_ret (results_box rfl rfl stRat r1 rfl) rfl ⟨ExtX.box (hE.trans hE1) r2 (by omega), _, rfl, h7⟩
set_option maxRecDepth 100000 in
set_option maxHeartbeats 3200000 in
theorem grt_any (lo : Option Addr) (l : List Int) (cl : Nat) (w : World) (hl : Sl (IntIn .i64) 1 w.cell? lo l) (hcl : l.length <= cl) (hlb : l.length <= 9223372036854775807) :
    Calls Tryz.prog 6 #[.slice lo l.length cl] w (BOut w true) := by
  go_enter Tryz.func6, Tryz.ntmps6
  go_wp2_with fail
  refine (tnew_any lo l cl w hl hcl hlb).mono ?_
  rintro e w1 ⟨rfl, hE1, ht1, hsz1⟩
  obtain ⟨tb, htb⟩ : ∃ tb, w.heap.size = tb := ⟨_, rfl⟩
  have hX1 : HX (tbm tb) w1 := fun k hk => by
    have : k = tb := by simpa [tbm] using hk
    omega
  have hfin := hid (fun w2 (h : ExtX (tbm tb) w1 w2) => bf_ext htb hE1 h)
  rw [htb] at ht1 |-
  clear hE1 hsz1 htb hl
  go_wp2_with fail
  refine (tdesign_any (tbm tb) tb 7 3 w1 ht1 hX1 (by decide) (by decide) (by decide) (by decide)).mono ?_
  rintro e w2 ⟨hE2, ht2, vx, vy, x, y, c, rfl, hx, _, hn1, hn7, hc1, hc3, hrow, _, hxB, _⟩
  have hX2 := hX1.ext hE2
  have hsh : Shp x.length c x := ⟨rfl, hrow⟩
  obtain ⟨hd, hcol⟩ := dsg_of hsh hn1 (by omega) hc1 (by omega)
  have hxB4' : BM 4 x := fun r hr q hq => Nat.le_trans (hxB r hr q hq) (by decide)
  have hxB4 := hid hxB4'
  have hxB2 := hid hxB
  have hshq := hid fun m => share_hq hsh (by omega) hc1 (by omega) hxB4' (by decide) (by decide) m
  have hshe := hid fun (m : Nat) (h : m <= x.length) => shE_is hd hcol rfl (m := m) (by omega) (by omega)
  have hsh' := hid hsh
  obtain ⟨ua, uc, rfl, huc, hus⟩ := hx
  have hhu := hus.hd
  have hx := hid fun w' (h : ExtX (tbm tb) w2 w') => (⟨ua, uc, rfl, huc, hus.mono RV.mono (mk_mono h (fun _ h => h))⟩ : MV (mk (tbm tb) w') (.slice ua x.length uc) x)
  obtain ⟨a0, c0, hX0, hc0, hcl0, hq0⟩ := hus.row 0 (by omega)
  rw [hrow (x[0]'(by omega)) (List.getElem_mem _)] at hc0
  have hk0 := hid (fun w' (h : ExtX (tbm tb) w2 w') => hc0.out (tbm tb) w' h hX0)
  have hrow' := hid hrow
  have hbs := hid fun w' (m : Nat) (h : ExtX (tbm tb) w2 w') => (by
    have h1 := bshare (tbm tb) w' _ x (m : Int) 4 (hX2.ext h) (hx.out w' h) (by omega) hxB4' (by decide) (by decide)
    rw [hcol] at h1
    exact h1 : Calls Tryz.prog 38 #[.slice ua x.length uc, .int .i64 (m : Int)] w' (ShOutB (tbm tb) w' (shE x m) (shareL x c (m : Int).toNat)))
  obtain ⟨n, hn⟩ : ∃ n, x.length = n := ⟨_, rfl⟩
  have hn' := hid hn
  rw [hn] at huc hn1 hn7 hhu hx hbs hshe |-
  have hF2 := hid hE2
  clear hq0 hcl0 hc0 hX0 hrow hn hxB hxB4' hd hcol hsh hE2 ht1 hX1 huc hus
  go_wp2_with fail
  refine (next_any (tbm tb) tb (n : Int) w2 ht2 (by omega)).mono ?_
  rintro e w3 ⟨hE3, ht3, m, rfl, hm⟩
  have hmn : m < n := by omega
  have hm1 : IntKind.i64.wrap ((m : Int) + 1) = ((m + 1 : Nat) : Int) := by rw [IntWalk.i64_in _ (by omega)]; omega
  have hs3 := hbs.out w3 m hE3
  rw [hshe.out m (by omega)] at hs3
  clear hm
  by_cases hrk : (redP x c).2.length = c
  · rw [if_pos hrk] at hs3
    go_wp2_with fail
    refine hs3.mono ?_
    rintro e w4 ⟨hE4, u4, rfl, hq4⟩
    rw [if_pos rfl] at hq4
    obtain ⟨s1, a1, n1, c1, d1, k1, e1, rfl⟩ := hq4.shape
    have bx4 := Bx.new w4 #[.bool false, .slice none 0 0, .slice none 0 0] 41
    go_wp2_with ((with_reducible show wpList _ _ _ (⟨_, .store 41 _ _, _, _, _, _⟩ :: _) _ _); refine st_storeBox stRat rfl rfl bx4 rfl rfl (one3 _ _ _ _ _ _ _) ?_; intro w5 r5 y5)
    have hE5 : Ext w4 w5 := ExtX.box ((ExtX.refl w4).alloc _) y5 (Nat.le_refl _)
    have hG5 := hE3.trans (ExtX.of (hE4.trans hE5))
    have hs5 := hbs.out w5 (m + 1) hG5
    rw [hshe.out (m + 1) (by omega), if_pos hrk] at hs5
    refine hs5.mono ?_
    rintro e w6 ⟨hE6, u6, rfl, hq6⟩
    rw [if_pos rfl] at hq6
    obtain ⟨s2, a2, n2, c2, d2, k2, e2, rfl⟩ := hq6.shape
    have bx6 := Bx.new w6 #[.bool false, .slice none 0 0, .slice none 0 0] 41
    go_wp2_with ((with_reducible show wpList _ _ _ (⟨_, .store 41 _ _, _, _, _, _⟩ :: _) _ _); refine st_storeBox stRat rfl rfl bx6 rfl rfl (one3 _ _ _ _ _ _ _) ?_; intro w7 r7 y7)
    have hE7 : Ext w6 w7 := ExtX.box ((ExtX.refl w6).alloc _) y7 (Nat.le_refl _)
    have hG7 := hG5.trans (ExtX.of (hE6.trans hE7))
    have hs7 := hbs.out w7 (0) hG7
    rw [hshe.out (0) (by omega), if_pos hrk] at hs7
    refine hs7.mono ?_
    rintro e w8 ⟨hE8, u8, rfl, hq8⟩
    rw [if_pos rfl] at hq8
    obtain ⟨s3, a3, n3, c3, d3, k3, e3, rfl⟩ := hq8.shape
    have bx8 := Bx.new w8 #[.bool false, .slice none 0 0, .slice none 0 0] 41
    go_wp2_with ((with_reducible show wpList _ _ _ (⟨_, .store 41 _ _, _, _, _, _⟩ :: _) _ _); refine st_storeBox stRat rfl rfl bx8 rfl rfl (one3 _ _ _ _ _ _ _) ?_; intro w9 r9 y9)
    have hE9 : Ext w8 w9 := ExtX.box ((ExtX.refl w8).alloc _) y9 (Nat.le_refl _)
    have hG9 := hG7.trans (ExtX.of (hE8.trans hE9))
    have hs9 := hbs.out w9 (n) hG9
    rw [hshe.out (n) (by omega), if_pos hrk] at hs9
    refine hs9.mono ?_
    rintro e w10 ⟨hE10, u10, rfl, hq10⟩
    rw [if_pos rfl] at hq10
    obtain ⟨s4, a4, n4, c4, d4, k4, e4, rfl⟩ := hq10.shape
    have bx10 := Bx.new w10 #[.bool false, .slice none 0 0, .slice none 0 0] 41
    go_wp2_with ((with_reducible show wpList _ _ _ (⟨_, .store 41 _ _, _, _, _, _⟩ :: _) _ _); refine st_storeBox stRat rfl rfl bx10 rfl rfl (one3 _ _ _ _ _ _ _) ?_; intro w11 r11 y11)
    have hE11 : Ext w10 w11 := ExtX.box ((ExtX.refl w10).alloc _) y11 (Nat.le_refl _)
    have hG11 := hG9.trans (ExtX.of (hE10.trans hE11))
    have hE5b := hE6.trans hE7
    have hE7b := hE8.trans hE9
    have hE9b := hE10.trans hE11
    have z1 := ((r5.ext0 hE5b).ext0 hE7b).ext0 hE9b
    have z2 := (r7.ext0 hE7b).ext0 hE9b
    have z3 := r9.ext0 hE9b
    have z4 := r11
    have q1 := mkx QC.mono hq4 (hE5.trans (hE5b.trans (hE7b.trans hE9b)))
    have q2 := mkx QC.mono hq6 (hE7.trans (hE7b.trans hE9b))
    have q3 := mkx QC.mono hq8 (hE9.trans hE9b)
    have q4 := mkx QC.mono hq10 hE11
    obtain ⟨g1, hg1⟩ : ∃ g, w4.heap.size = g := ⟨_, rfl⟩
    obtain ⟨g2, hg2⟩ : ∃ g, w6.heap.size = g := ⟨_, rfl⟩
    obtain ⟨g3, hg3⟩ : ∃ g, w8.heap.size = g := ⟨_, rfl⟩
    obtain ⟨g4, hg4⟩ : ∃ g, w10.heap.size = g := ⟨_, rfl⟩
    have hg1w : w3.heap.size <= g1 := by rw [<- hg1]; exact hE4.size
    rw [hg1] at z1
    rw [hg2] at z2
    rw [hg3] at z3
    rw [hg4] at z4
    rw [hg1, hg2, hg3, hg4]
    have hi0 : ((0 : Nat) : Int).toNat = 0 := rfl
    have hfull := hid (full_of hsh'.out (by rw [hrk]; omega))
    have v3 : shareL x c ((0 : Nat) : Int).toNat = 0 := share_zero x c
    have v4 : shareL x c ((n : Nat) : Int).toNat = 1 := by
      rw [Int.toNat_natCast, <- hn'.out]
      exact share_all hsh'.out hc1 hfull.out
    rw [v3] at q3
    rw [v4] at q4
    rw [Int.toNat_natCast] at q1 q2
    obtain ⟨σ, hσ⟩ : ∃ σ, (shareL x c m - shareL x c (m + 1)).num.sign = σ := ⟨_, rfl⟩
    have hσ0 : σ <= 0 := by rw [<- hσ]; exact sign_npz (share_more x c m)
    have hb1 := hid (hshq.out m)
    have hb2 := hid (hshq.out (m + 1))
    have hb12 := hid (show hq (shareL x c m - shareL x c (m + 1)) <= 68719476736 from by have := hq_sub (shareL x c m) (shareL x c (m + 1)); have := hb1.out; have := hb2.out; omega)
    have hσ' := hid hσ
    have hgt : decide (σ > 0) = false := decide_eq_false (by omega)
    have hgt2 : decide (0 < σ) = false := decide_eq_false (by omega)
    have hone : Hid ((((1 : Int) : Rat)) = 1) := hid (by decide +kernel)
    have hh1 : Hid (hq (1 : Rat) <= 68719476736) := hid (by decide +kernel)
    have hEd : Ext w11 w11.drew := (ExtX.refl w11).drew
    have hS0 := hid fun w' (h : Ext w11 w') => (⟨(z1.ext0 h).cell 0 rfl, (z1.ext0 h).cell 1 rfl, (z1.ext0 h).cell 2 rfl, (z2.ext0 h).cell 0 rfl, (z2.ext0 h).cell 1 rfl, (z2.ext0 h).cell 2 rfl, (z3.ext0 h).cell 0 rfl, (z3.ext0 h).cell 1 rfl, (z3.ext0 h).cell 2 rfl, (z4.ext0 h).cell 0 rfl, (z4.ext0 h).cell 1 rfl, (z4.ext0 h).cell 2 rfl⟩ : w'.cell? ⟨g1, 0, none⟩ = some (.bool s1) /\ w'.cell? ⟨g1, 1, none⟩ = some (.slice a1 n1 c1) /\ w'.cell? ⟨g1, 2, none⟩ = some (.slice d1 k1 e1) /\ w'.cell? ⟨g2, 0, none⟩ = some (.bool s2) /\ w'.cell? ⟨g2, 1, none⟩ = some (.slice a2 n2 c2) /\ w'.cell? ⟨g2, 2, none⟩ = some (.slice d2 k2 e2) /\ w'.cell? ⟨g3, 0, none⟩ = some (.bool s3) /\ w'.cell? ⟨g3, 1, none⟩ = some (.slice a3 n3 c3) /\ w'.cell? ⟨g3, 2, none⟩ = some (.slice d3 k3 e3) /\ w'.cell? ⟨g4, 0, none⟩ = some (.bool s4) /\ w'.cell? ⟨g4, 1, none⟩ = some (.slice a4 n4 c4) /\ w'.cell? ⟨g4, 2, none⟩ = some (.slice d4 k4 e4))
    have hE4b := hE4
    have ht11 := ht3.ext (hE4b.trans (hE5.trans (hE5b.trans (hE7b.trans hE9b))))
    have hXr := hX2.ext (hG11.trans (.of hEd))
    have p1 := hid (mkx QC.mono q1 hEd)
    have p2 := hid (mkx QC.mono q2 hEd)
    have p3 := hid (mkx QC.mono q3 hEd)
    have p4 := hid (mkx QC.mono q4 hEd)
    clear v3 v4 hσ hs3 hs5 hs7 hs9 hq4 hq6 hq8 hq10 r5 r7 r9 r11 y5 y7 y9 y11 bx4 bx6 bx8 bx10 hg1 hg2 hg3 hg4 hE4 hE5 hE6 hE7 hE8 hE9 hE10 hE11 hE5b hE7b hE9b hG5 hG7 hG9 q2 q3 q4 z2 z3 z4
    (try simp only [Act.put])
    refine wp_region_K 26 (fun w' => w'.cell? ⟨g1, 0, none⟩ = some (.bool s1) /\ w'.cell? ⟨g1, 1, none⟩ = some (.slice a1 n1 c1) /\ w'.cell? ⟨g1, 2, none⟩ = some (.slice d1 k1 e1) /\ w'.cell? ⟨g2, 0, none⟩ = some (.bool s2) /\ w'.cell? ⟨g2, 1, none⟩ = some (.slice a2 n2 c2) /\ w'.cell? ⟨g2, 2, none⟩ = some (.slice d2 k2 e2) /\ w'.cell? ⟨g3, 0, none⟩ = some (.bool s3) /\ w'.cell? ⟨g3, 1, none⟩ = some (.slice a3 n3 c3) /\ w'.cell? ⟨g3, 2, none⟩ = some (.slice d3 k3 e3) /\ w'.cell? ⟨g4, 0, none⟩ = some (.bool s4) /\ w'.cell? ⟨g4, 1, none⟩ = some (.slice a4 n4 c4) /\ w'.cell? ⟨g4, 2, none⟩ = some (.slice d4 k4 e4)) (by kernel_rfl) (by kernel_rfl) (hS0.out _ hEd) (fun hHeld hOnce => ?_)
    obtain ⟨W0, hW0⟩ : ∃ W0, w11.drew = W0 := ⟨_, rfl⟩
    rw [hW0] at hHeld hEd hXr p1 p2 p3 p4 |-
    refine kt 0 hOnce ?_
    refine kt 1 hOnce ?_
    refine kt 2 hOnce ?_
    refine kt 3 hOnce ?_
    refine kt 4 hOnce ?_
    refine kt 5 hOnce ?_
    refine kt 6 hOnce ?_
    refine kt 7 hOnce ?_
    refine kt 8 hOnce ?_
    refine kt 9 hOnce ?_
    refine kt 10 hOnce ?_
    refine kt 11 hOnce ?_
    refine kt 12 hOnce ?_
    refine ks 13 (fun K hK => ?_)
    go_simp
    ((with_reducible refine (rqcompare (tbm tb) W0 _ _ _ _ hXr (p1.out.qv (Nat.le_trans hb1.out (by decide))) (p2.out.qv (Nat.le_trans hb2.out (by decide))) hb12.out).mono ?_); rintro ee wa ⟨ga, rfl⟩; rw [hσ'.out])
    refine kcn hK (hS0.out _ (hEd.trans ga)) (fun hHeld => ?_)
    clear hK K
    refine kt 14 hOnce ?_
    refine kt 15 hOnce ?_
    refine kt 16 hOnce ?_
    refine kt 17 hOnce ?_
    refine ks 18 (fun K hK => ?_)
    go_simp
    ((with_reducible refine (rqsign (tbm tb) wa _ _ (hXr.ext ga) ((mkx QC.mono p3.out ga).qv (by rw [hq_zero]; decide))).mono ?_); rintro ee wb ⟨gb, rfl⟩)
    refine kcn hK (hS0.out _ (hEd.trans (ga.trans gb))) (fun hHeld => ?_)
    clear hK K
    refine kt 19 hOnce ?_
    refine kt 20 hOnce ?_
    refine kt 21 hOnce ?_
    refine kt 22 hOnce ?_
    refine ks 23 (fun K hK => ?_)
    go_simp
    ((with_reducible refine (rof35 (tbm tb) wb 1 ((hXr.ext ga).ext gb) (by decide) (by decide)).mono ?_); rintro ee wc ⟨gc, u5, rfl, hu5⟩; rw [hone.out] at hu5; obtain ⟨s5, a5, n5, c5, d5, k5, e5, rfl⟩ := hu5.shape)
    refine kcn hK (hS0.out _ (hEd.trans (ga.trans (gb.trans gc)))) (fun hHeld => ?_)
    clear hK K
    refine ks 24 (fun K hK => ?_)
    go_simp
    ((with_reducible refine (rqsame (tbm tb) wc _ _ 1 1 (mkx QC.mono p4.out (ga.trans (gb.trans gc))) hu5 hh1.out).mono ?_); rintro ee wd ⟨gd, rfl⟩)
    refine kcn hK (hS0.out _ (hEd.trans (ga.trans (gb.trans (gc.trans gd))))) (fun hHeld => ?_)
    clear hK K
    refine kt 25 hOnce ?_
    refine kl 26 (fun K hK => ?_)
    go_simp
    refine hK.out _ _ ?_
    clear hK K
    have hEwd : Ext w11 wd := hEd.trans (ga.trans (gb.trans (gc.trans gd)))
    have hGa := hG11.trans (ExtX.of hEwd)
    have htA := ht11.ext hEwd
    have zA := z1.ext0 hEwd
    have hg1t : g1 ≠ tb := by have := ht3.lt; omega
    have qA := mkx QC.mono q1 hEwd
    have hXA := hX2.ext hGa
    have hfin2 := hid fun w2' (h : ExtX (tbm tb) wd w2') => hfin.out w2' (hF2.out.trans (hGa.trans h))
    clear ht2 hX2 hE3 ht3 hE4b ht11 hXr p1 p2 p3 p4 hS0 hσ' hgt hgt2 hσ0 hb12 hb2 hone hh1 hu5 q1 z1 ga gb gc gd hEd hEwd hW0 hG11 hbs hshe hshq hF2 hfin hOnce hi0
    go_wp2_with fail
    go_loopw [15] (fun s wr => ∃ i : Nat, s = .int .i64 i /\ i <= 5 /\ TapeR (tbm tb) tb wr /\ ExtX (tbm tb) wd wr) (fun s _ => 5 - (intOf s).toNat)
    case atStart => exact ⟨0, rfl, by decide, htA, ExtX.refl _⟩
    case round =>
      obtain ⟨i, rfl, hi, htr, hE⟩ := hrel
      have hXr := hXA.ext hE
      by_cases hlt : i < 5
      · have hGr := hGa.trans hE
        have kc := hk0.out wr hGr
        go_wp2_with (with_reducible refine up_ix1 slRats (by omega) (by assumption) ?_)
        refine (trow_any (tbm tb) tb c wr htr hXr (by omega)).mono ?_
        rintro e w5 ⟨hE5, po, dl, pc, rfl, hdl, hdc, hdB, htd, hOd⟩
        have ht5 := htd.unX htr.1
        have hX5 := hXr.ext hE5
        have hG5 := hGr.trans hE5
        have hD5 : RV (mk (tbm tb) w5) (.slice po c pc) dl := ⟨po, pc, by rw [hdl], by rw [hdl]; exact hdc, (hOd.sl QC.elem).qv (fun q hq => Nat.le_trans (hdB q hq) (by decide))⟩
        have hx5 : MV (mk (tbm tb) w5) (.slice ua n uc) x := by
          obtain ⟨a', c', e1', e2', e3'⟩ := hx.out w5 hG5
          exact ⟨a', c', by rw [hn'.out]; exact e1', by rw [hn'.out]; exact e2', e3'⟩
        have qA5 := QC.mono _ _ _ _ (mk_mono (hE.trans hE5) (fun _ h => h)) qA
        have zA5 := (zA.ext hE (tbm_ne hg1t)).ext hE5 (tbm_ne hg1t)
        have hFd := hE.trans hE5
        obtain ⟨W6, hW6, hE6, b16, b26, hz6⟩ := boxes2 w5 #[.bool false, .slice none 0 0, .slice none 0 0] #[.bool false, .slice none 0 0, .slice none 0 0] 41 41
        have hX6 := hX5.boxes hz6
        have ht6 : TapeR (hidB (tbm tb) w5.heap.size 2) tb W6 := ht5.box hE6
        have hD6 := RV.mono _ _ _ _ (le_boxes (nb := 2) hE6) hD5
        have hx6 := MV.mono _ _ _ _ (le_boxes (nb := 2) hE6) hx5
        have qA6 := QC.mono _ _ _ _ (le_boxes (nb := 2) hE6) qA5
        have zA6 := zA5.ext0 hE6
        have htb5 := ht5.lt
        have hwd5 := hFd.size
        have hg15 := zA5.lt
        obtain ⟨b, hb⟩ : ∃ b, w5.heap.size = b := ⟨_, rfl⟩
        rw [hb] at hX6 ht6 hD6 hx6 qA6 b16 b26 htb5 hwd5 hg15
        clear htd hOd hD5 hx5 qA5 zA5 hG5 hGr kc hX5 ht5
        go_wp2_with fail
        refine (tsubset_any (hidB (tbm tb) b 2) tb n W6 ht6 hX6 hn1 (by omega)).mono ?_
        rintro e w7 ⟨hE7, so, S, sc, rfl, hsc, hS1, hSp, hSb, hts, hOS⟩
        have hsub : ∀ k, tbm tb k = true -> (hidB (tbm tb) b 2) k = true := fun k h => hidB_X h
        have ht7 := hts.unX ht6.1
        have hX7 := hX6.ext hE7
        have hs7 := hOS.sl (IntIn.elem .i64)
        have hD7 := RV.mono _ _ _ _ (mk_mono hE7 hsub) hD6
        have hx7 := MV.mono _ _ _ _ (mk_mono hE7 hsub) hx6
        have qA7 := QC.mono _ _ _ _ (mk_mono hE7 hsub) qA6
        have zA7 := zA6.ext hE7 (tbm_ne hg1t)
        have b17 := b16.ext hE7 (tbm_ne (by omega))
        have b27 := b26.ext hE7 (tbm_ne (by omega))
        have hF7 := hFd.trans ((ExtX.of hE6).trans hE7)
        have hkn := asc_len hSp hSb
        have hA := absP_bd hsh'.out (by omega) hxB4.out (by decide) (d := dl) (fun q hq => Nat.le_trans (hdB q hq) (by decide))
        have hAl : (absP x c dl).length = n := by rw [absP_len, hn'.out]
        have hlw := hid (grt_law hsh'.out hc1 hfull.out hSp (by rw [hn'.out]; exact hSb) m dl)
        have hCn := hid (chosen_nodup hSp hSb m)
        obtain ⟨C, hC⟩ : ∃ C, (S.map Int.toNat).take m = C := ⟨_, rfl⟩
        have hCl : C.length <= S.length := by rw [<- hC, List.length_take, List.length_map]; exact Nat.min_le_right _ _
        have hCg := hid (show ∀ k (h1 : k < S.length) (q : Nat), S[k] = (q : Int) -> (k < m -> ∃ h2 : k < C.length, C[k] = q) /\ (¬ k < m -> C.length <= k) from fun k h1 q h => by
          subst hC
          refine ⟨fun hk => ⟨by rw [List.length_take, List.length_map]; omega, ?_⟩, fun hk => by rw [List.length_take]; omega⟩
          rw [List.getElem_take, List.getElem_map, h]; rfl)
        rw [hC] at hlw hCn
        have hAv := hid (show ∀ j (hj : j < x.length), (absP x c dl).getD j 0 = absR (dotL (x[j]) dl) from fun j hj => by
          have e : (absP x c dl)[j]? = some (absR (dot c (vec dl) (vec x[j]))) := by simp [absP, hj]
          rw [List.getD_eq_getElem?_getD, e, Option.getD_some, dot_row (hrow'.out _ (List.getElem_mem _))])
        obtain ⟨A, hAA⟩ : ∃ A, absP x c dl = A := ⟨_, rfl⟩
        rw [hAA] at hA hAl hlw hAv
        have hA' := hid hA
        obtain ⟨ux, cx, ex, hcx, hsx⟩ := hx7
        have ex' := ex
        simp only [Value.slice.injEq] at ex'
        have hu1 := ex'.1
        have hu3 := ex'.2.2
        clear ex ex'
        subst hu1 hu3
        rw [hn'.out] at hcx
        have hhs := hs7.hd
        obtain ⟨sLn, hks⟩ : ∃ sLn, S.length = sLn := ⟨_, rfl⟩
        have hks' := hid hks
        rw [hks] at hkn hhs hsc hS1 hCl |-
        have hb' := hid hSb
        have hdB' := hid hdB
        have hdl' := hid hdl
        have hZt : (hidB noY b 2) tb = false := by simp [hidB, noY]; omega
        have hZY : ∀ k, (hidB noY b 2) k = true -> (hidB (tbm tb) b 2) k = true := fun k hk => by
          simp only [hidB, noY, Bool.false_or] at hk
          simp [hidB, hk]
        have hZb : (hidB noY b 2) b = true := hidB_in (by omega) (by omega)
        have hZb1 : (hidB noY b 2) (b + 1) = true := hidB_in (by omega) (by omega)
        have hZlt := hid (show ∀ k, k < b -> (hidB noY b 2) k = false from fun k hk => by simp [hidB, noY]; omega)
        have hob := hid (show ∀ k, ob (some ⟨b, 0, none⟩) k = true -> (hidB noY b 2) k = true from fun k hk => by
          have : b = k := by simpa [ob] using hk
          rw [<- this]; exact hidB_in (by omega) (by omega))
        have hob1 := hid (show ∀ k, ob (some ⟨b + 1, 0, none⟩) k = true -> (hidB noY b 2) k = true from fun k hk => by
          have : b + 1 = k := by simpa [ob] using hk
          rw [<- this]; exact hidB_in (by omega) (by omega))
        clear hx6 qA6 zA6 b16 b26 hD6 hX6 ht6 hts hOS hE5 hE6 hE7 hE hSp hSb hW6 hz6 hdB hdl hdc hAA hC hks
        go_wp2_with fail
        go_loopw [111] (fun s wq => ∃ (j : Nat) (s6 : Bool) (a6 : Option Addr) (n6 c6 : Nat) (d6 : Option Addr) (k6 e6 : Nat) (s7 : Bool) (a7 : Option Addr) (n7 c7 : Nat) (d7 : Option Addr) (k7 e7 : Nat), s = .int .i64 j /\ j <= n /\ ExtX (hidB noY b 2) w7 wq /\ Bx wq b #[.bool s6, .slice a6 n6 c6, .slice d6 k6 e6] 41 /\ Bx wq (b + 1) #[.bool s7, .slice a7 n7 c7, .slice d7 k7 e7] 41 /\ QC (mk (hidB (tbm tb) b 2) wq) (.agg #[.bool s6, .slice a6 n6 c6, .slice d6 k6 e6]) (sm j (fn A)) /\ QC (mk (hidB (tbm tb) b 2) wq) (.agg #[.bool s7, .slice a7 n7 c7, .slice d7 k7 e7]) (sm j (indF C A))) (fun s _ => n - (intOf s).toNat)
        case atStart => exact ⟨0, false, none, 0, 0, none, 0, 0, false, none, 0, 0, none, 0, 0, rfl, Nat.zero_le _, ExtX.refl _, b17, b27, QC.zero _, QC.zero _⟩
        case round =>
          obtain ⟨j, s6, a6, n6, c6, d6, k6, e6, s7, a7, n7, c7, d7, k7, e7, rfl, hj, hE, f6, f7, q6, q7⟩ := hrel
          have hXq := hX7.ext hE
          have hxq : Sl RV 1 (mk (hidB (tbm tb) b 2) wr) ua x := hsx.mono RV.mono (mk_mono hE hZY)
          have hDq := RV.mono _ _ _ _ (mk_mono hE hZY) hD7
          by_cases hlj : j < n
          · have hjz : j < x.length := by rw [hn'.out]; exact hlj
            obtain ⟨a8, c8, hX8, hc8, hcl8, hq8⟩ := hxq.row j hjz
            have hRw : RV (mk (hidB (tbm tb) b 2) wr) (.slice a8 x[j].length c8) x[j] := ⟨a8, c8, rfl, hcl8, hq8⟩
            have hrl := hrow'.out x[j] (List.getElem_mem _)
            have hAj := hAv.out j hjz
            have hxh := hxq.hd
            rw [hn'.out] at hxh
            have k00 := hc8.out noY wr (ExtX.refl _) rfl
            obtain ⟨r, hr⟩ : ∃ r, x[j] = r := ⟨_, rfl⟩
            have hrB : BR 4 r := hr ▸ hxB4.out x[j] (List.getElem_mem _)
            rw [hr] at hRw hrl hAj k00
            rw [hrl] at k00 hRw
            have hdot := hid (dot_bd hrl (by omega) hrB hdB'.out (by decide) (by decide))
            have hDt := hid fun w' (hX : HX (hidB (tbm tb) b 2) w') (hu : RV (mk (hidB (tbm tb) b 2) w') (.slice a8 c c8) r) (hv : RV (mk (hidB (tbm tb) b 2) w') (.slice po c pc) dl) => rdot23_any (hidB (tbm tb) b 2) w' _ _ r dl hX hu hv (by omega) (by rw [hdl'.out, hrl]) (fun k hk => Nat.le_trans (hdot.out.1 k hk) (by decide)) (fun k hk => Nat.le_trans (hdot.out.2 k hk) (by decide))
            have hdb := hid (show hq (dotL r dl) <= 68719476736 from Nat.le_trans (hdot.out.1 _ (Nat.le_refl _)) (by decide))
            have hsb := hid (show hq (sm j (fn A)) <= 68719476736 from Nat.le_trans (sumj_hq hA'.out (by omega)) (by decide))
            have hVb := hid (show hq (A.getD j 0) <= 68719476736 from Nat.le_trans (br_get hA'.out (by decide) j) (by decide))
            have hsm := hid (show sm (j + 1) (fn A) = sm j (fn A) + A.getD j 0 from rfl)
            obtain ⟨V, hV⟩ : ∃ V, A.getD j 0 = V := ⟨_, rfl⟩
            rw [hV] at hAj hVb hsm
            have hAj' := hid hAj
            have hV' := hid hV
            have hb1w := b27.lt
            have hw7 := hE.size
            clear hc8 hcl8 hq8 hr hAj hV hrB
            go_wp2_with (first
              | (with_reducible refine up_ix1 slRats (by omega) (by assumption) ?_)
              | (go_at_call 47; refine (hDt.out _ hXq hRw hDq).mono ?_; rintro ee va ⟨hEa, ua', rfl, hua⟩; obtain ⟨s11, a11, n11, c11, d11, k11, e11, rfl⟩ := hua.shape)
              | (go_at_call 46; refine (rqabs (hidB (tbm tb) b 2) va _ _ (hXq.ext hEa) (hua.qv hdb.out)).mono ?_; rintro ee vb ⟨hEb, ub', rfl, hub⟩; rw [<- hAj'.out] at hub; obtain ⟨s12, a12, n12, c12, d12, k12, e12, rfl⟩ := hub.shape; have bx12 := Bx.new vb #[.bool false, .slice none 0 0, .slice none 0 0] 41)
              | ((with_reducible show wpList _ _ _ (⟨_, .store 41 _ _, _, _, _, _⟩ :: _) _ _); refine st_storeBox stRat rfl rfl bx12 rfl rfl (one3 _ _ _ _ _ _ _) ?_; intro v9 r9 y9; have hE9 : Ext vb v9 := ExtX.box ((ExtX.refl vb).alloc _) y9 (Nat.le_refl _); have hE19 := hEa.trans (hEb.trans hE9); have f69 := f6.ext0 hE19; clear bx12)
              | ((with_reducible show wpList _ _ _ (⟨_, .load 41 _, _, _, _, _⟩ :: _) _ _); refine st_loadBox stRat rfl f69 rfl ?_)
              | ((with_reducible show wpList _ _ _ (⟨_, .load 41 _, _, _, _, _⟩ :: _) _ _); refine st_loadBox stRat rfl r9 rfl ?_)
              | (go_at_call 48; refine (rqadd (hidB (tbm tb) b 2) v9 _ _ _ _ (hXq.ext hE19) ((mkx QC.mono q6 hE19).qv hsb.out) ((mkx QC.mono hub hE9).qv hVb.out)).mono ?_; rintro ee vc ⟨hEc, uc', rfl, huc⟩; obtain ⟨s13, a13, n13, c13, d13, k13, e13, rfl⟩ := huc.shape; have f6c := f69.ext0 hEc)
              | ((with_reducible show wpList _ _ _ (⟨_, .store 41 _ _, _, _, _, _⟩ :: _) _ _); refine st_storeBox stRat rfl rfl f6c rfl rfl (one3 _ _ _ _ _ _ _) ?_; intro v10 r10 y10))
            have hy10 : ExtX (hidB noY b 2) vc v10 := y10.weaken (fun k _ hz => by
              cases ho : ob (some ⟨b, 0, none⟩) k
              · rfl
              · rw [hob.out k ho] at hz; cases hz)
            have hvb : w7.heap.size <= vb.heap.size := by have := hEa.size; have := hEb.size; omega
            obtain ⟨g22, hg22⟩ : ∃ g, vb.heap.size = g := ⟨_, rfl⟩
            rw [hg22] at r9 hvb
            (try rw [hg22])
            have r10c : Bx v10 g22 #[.bool s12, .slice a12 n12 c12, .slice d12 k12 e12] 41 := (r9.ext0 hEc).ext y10 (ob_other (by omega))
            have f710 : Bx v10 (b + 1) #[.bool s7, .slice a7 n7 c7, .slice d7 k7 e7] 41 := ((f7.ext0 hE19).ext0 hEc).ext y10 (ob_other (by omega))
            have hG10 : ExtX (hidB noY b 2) w7 v10 := hE.trans ((ExtX.of (hE19.trans hEc)).trans hy10)
            have hV10 := QC.mono _ _ _ _ (mk_mono hy10 hZY) (mkx QC.mono (mkx QC.mono hub hE9) hEc)
            have hs10 := QC.mono _ _ _ _ (mk_mono hy10 hZY) huc
            have hp10 := QC.mono _ _ _ _ (mk_mono hy10 hZY) (mkx QC.mono (mkx QC.mono q7 hE19) hEc)
            rw [<- hsm.out] at hs10
            rw [<- innP_zero C A j] at hp10
            have hX10 := hX7.ext hG10
            have hs710 : Sl (IntIn .i64) 1 (mk (hidB (tbm tb) b 2) v10) so S := hs7.mono (IntIn.mono _) (mk_mono hG10 hZY)
            clear hua hub huc hEa hEb hE9 hEc hE19 y9 y10 r9 f69 f6c f6 f7 q6 q7 hXq hxq hDq hE hRw k00 hxh hDt hdb hsb hsm hdot hg22
            go_loopw [125] (fun s wz => ∃ (k : Nat) (s14 : Bool) (a14 : Option Addr) (n14 c14 : Nat) (d14 : Option Addr) (k14 e14 : Nat), s = .int .i64 k /\ k <= sLn /\ ExtX (ob (some ⟨b + 1, 0, none⟩)) v10 wz /\ Bx wz (b + 1) #[.bool s14, .slice a14 n14 c14, .slice d14 k14 e14] 41 /\ QC (mk (hidB (tbm tb) b 2) wz) (.agg #[.bool s14, .slice a14 n14 c14, .slice d14 k14 e14]) (innP C A j k)) (fun s _ => sLn - (intOf s).toNat)
            case atStart => exact ⟨0, s7, a7, n7, c7, d7, k7, e7, rfl, Nat.zero_le _, ExtX.refl _, f710, hp10⟩
            case round =>
              obtain ⟨k, s14, a14, n14, c14, d14, k14, e14, rfl, hk, hE, f14, q14⟩ := hrel
              have hEZ : ExtX (hidB noY b 2) v10 wr := hE.weaken (fun k _ hz => by
                cases ho : (ob (some ⟨b + 1, 0, none⟩)) k
                · rfl
                · rw [hob1.out k ho] at hz; cases hz)
              have r22 : Bx wr g22 #[.bool s12, .slice a12 n12 c12, .slice d12 k12 e12] 41 := r10c.ext hE (ob_other (by omega))
              by_cases hlk : k < sLn
              · have his : k < S.length := by rw [hks'.out]; exact hlk
                have hcc := (hs710.mono (IntIn.mono _) (mk_mono hEZ hZY)).int k his
                obtain ⟨h1, h2⟩ := hb'.out S[k] (List.getElem_mem _)
                obtain ⟨q, hq⟩ := Int.eq_ofNat_of_zero_le h1
                have hcg := hCg.out k his q hq
                rw [hq] at hcc
                clear h1 h2 hq
                have hVr := QC.mono _ _ _ _ (mk_mono hEZ hZY) hV10
                have hXz := hX10.ext hEZ
                have hpb := hid (show hq (innP C A j k) <= 68719476736 from Nat.le_trans (innP_hq hA'.out (by omega)) (by decide))
                by_cases hqj : q = j
                · subst hqj
                  by_cases hkm : k < m
                  · obtain ⟨hkC, hCk⟩ := hcg.1 hkm
                    have hin := hid (innP_hit (A := A) hCn.out hkC hCk)
                    go_wp2_with (first
                      | (with_reducible refine up_ix1 slInt (by omega) (by assumption) ?_)
                      | ((with_reducible show wpList _ _ _ (⟨_, .load 41 _, _, _, _, _⟩ :: _) _ _); refine st_loadBox stRat rfl f14 rfl ?_)
                      | ((with_reducible show wpList _ _ _ (⟨_, .load 41 _, _, _, _, _⟩ :: _) _ _); refine st_loadBox stRat rfl r22 rfl ?_)
                      | (go_at_call 48; refine (rqadd (hidB (tbm tb) b 2) wr _ _ _ _ hXz (q14.qv hpb.out) (hVr.qv hVb.out)).mono ?_; rintro ee vd ⟨hEd, ud', rfl, hud⟩; obtain ⟨s15, a15, n15, c15, d15, k15, e15, rfl⟩ := hud.shape; have f14d := f14.ext0 hEd)
                      | ((with_reducible show wpList _ _ _ (⟨_, .store 41 _ _, _, _, _, _⟩ :: _) _ _); refine st_storeBox stRat rfl rfl f14d rfl rfl (one3 _ _ _ _ _ _ _) ?_; intro ve r15 y15))
                    have hEe : ExtX (hidB noY b 2) vd ve := y15.weaken (fun k _ hz => by
                      cases ho : (ob (some ⟨b + 1, 0, none⟩)) k
                      · rfl
                      · rw [hob1.out k ho] at hz; cases hz)
                    have h15 := QC.mono _ _ _ _ (mk_mono hEe hZY) hud
                    rw [<- hV'.out, <- hin.out] at h15
                    go_roundw
                    case rel => exact ⟨k + 1, s15, a15, n15, c15, d15, k15, e15, by go_num, by omega, hE.trans ((ExtX.of hEd).trans y15), r15, h15⟩
                    case measure => simp [intOf]; omega
                  · have hin := innP_miss (C := C) (A := A) (j := q) (k := k) (fun h => absurd h (by have := hcg.2 hkm; omega))
                    rw [<- hin] at q14
                    go_wp2_with (first | (with_reducible refine up_ix1 slInt (by omega) (by assumption) ?_))
                    go_roundw
                    case rel => exact ⟨k + 1, s14, a14, n14, c14, d14, k14, e14, by go_num, by omega, hE, f14, q14⟩
                    case measure => simp [intOf]; omega
                · have hin := innP_miss (C := C) (A := A) (j := j) (k := k) (fun h => by
                    by_cases hkm : k < m
                    · obtain ⟨h3, h4⟩ := hcg.1 hkm
                      rw [h4]; exact hqj
                    · have := hcg.2 hkm; omega)
                  rw [<- hin] at q14
                  have hbq : ((q : Int) == (j : Int)) = false := beqF (by omega)
                  go_wp2_with (first | (with_reducible refine up_ix1 slInt (by omega) (by assumption) ?_))
                  go_roundw
                  case rel => exact ⟨k + 1, s14, a14, n14, c14, d14, k14, e14, by go_num, by omega, hE, f14, q14⟩
                  case measure => simp [intOf]; omega
              · obtain rfl : k = sLn := by omega
                rw [innP_end hCl] at q14
                have hsw := QC.mono _ _ _ _ (mk_mono hEZ hZY) hs10
                have f6z := r10.ext hE (ob_other (by omega))
                go_wp2_with fail
                go_roundw
                case rel => exact ⟨j + 1, s13, a13, n13, c13, d13, k13, e13, s14, a14, n14, c14, d14, k14, e14, by go_num, by omega, hG10.trans hEZ, f6z, f14, hsw, q14⟩
                case measure => simp [intOf]; omega
          · obtain rfl : j = n := by omega
            have zq := zA7.ext hE (hZlt.out g1 hg15)
            have qa := QC.mono _ _ _ _ (mk_mono hE hZY) qA7
            have hlwo := hlw.out
            rw [hn'.out] at hlwo
            obtain ⟨hcm1, hcm2⟩ := cmp_hq (a := sm j (indF C A)) (b := shareL x c m) (s := sm j (fn A)) (by rw [<- innP_zero]; exact innP_hq hA'.out (by omega)) hb1.out (sumj_hq hA'.out (by omega))
            have hp1 := hid (show hq (sm j (indF C A)) <= 68719476736 from by rw [<- innP_zero]; exact Nat.le_trans (innP_hq hA'.out (by omega)) (by decide))
            have hp2 := hid (show hq (sm j (fn A)) <= 68719476736 from Nat.le_trans (sumj_hq hA'.out (by omega)) (by decide))
            have hc1' := hid hcm1
            have hc2' := hid hcm2
            obtain ⟨τ, hτ⟩ : ∃ τ, (sm j (indF C A) - shareL x c m * sm j (fn A)).num.sign = τ := ⟨_, rfl⟩
            have hτ0 : τ <= 0 := by rw [<- hτ]; exact sign_npz hlwo
            have hτ' := hid hτ
            have hgt : decide (τ > 0) = false := decide_eq_false (by omega)
            have hgt2 : decide (0 < τ) = false := decide_eq_false (by omega)
            have hEd : Ext wr wr.drew := (ExtX.refl wr).drew
            have hS0 := hid fun w' (h : Ext wr w') => (⟨(f7.ext0 h).cell 0 rfl, (f7.ext0 h).cell 1 rfl, (f7.ext0 h).cell 2 rfl, (zq.ext0 h).cell 0 rfl, (zq.ext0 h).cell 1 rfl, (zq.ext0 h).cell 2 rfl, (f6.ext0 h).cell 0 rfl, (f6.ext0 h).cell 1 rfl, (f6.ext0 h).cell 2 rfl⟩ : w'.cell? ⟨b + 1, 0, none⟩ = some (.bool s7) /\ w'.cell? ⟨b + 1, 1, none⟩ = some (.slice a7 n7 c7) /\ w'.cell? ⟨b + 1, 2, none⟩ = some (.slice d7 k7 e7) /\ w'.cell? ⟨g1, 0, none⟩ = some (.bool s1) /\ w'.cell? ⟨g1, 1, none⟩ = some (.slice a1 n1 c1) /\ w'.cell? ⟨g1, 2, none⟩ = some (.slice d1 k1 e1) /\ w'.cell? ⟨b, 0, none⟩ = some (.bool s6) /\ w'.cell? ⟨b, 1, none⟩ = some (.slice a6 n6 c6) /\ w'.cell? ⟨b, 2, none⟩ = some (.slice d6 k6 e6))
            have u1 := hid (mkx QC.mono q7 hEd)
            have u2 := hid (mkx QC.mono qa hEd)
            have u3 := hid (mkx QC.mono q6 hEd)
            have hXd := hXq.ext hEd
            clear hτ hlwo hcm1 hcm2 q6 q7 qa f6 f7 zq hxq hDq
            go_upto_region 30 with fail
            (try simp only [Act.put])
            refine wp_region_K 5 (fun w' => w'.cell? ⟨b + 1, 0, none⟩ = some (.bool s7) /\ w'.cell? ⟨b + 1, 1, none⟩ = some (.slice a7 n7 c7) /\ w'.cell? ⟨b + 1, 2, none⟩ = some (.slice d7 k7 e7) /\ w'.cell? ⟨g1, 0, none⟩ = some (.bool s1) /\ w'.cell? ⟨g1, 1, none⟩ = some (.slice a1 n1 c1) /\ w'.cell? ⟨g1, 2, none⟩ = some (.slice d1 k1 e1) /\ w'.cell? ⟨b, 0, none⟩ = some (.bool s6) /\ w'.cell? ⟨b, 1, none⟩ = some (.slice a6 n6 c6) /\ w'.cell? ⟨b, 2, none⟩ = some (.slice d6 k6 e6)) (by kernel_rfl) (by kernel_rfl) (hS0.out _ hEd) (fun hHeld hOnce => ?_)
            obtain ⟨V0, hV0⟩ : ∃ V0, wr.drew = V0 := ⟨_, rfl⟩
            rw [hV0] at hHeld hEd hXd u1 u2 u3 |-
            refine kt 0 hOnce ?_
            refine kt 1 hOnce ?_
            refine kt 2 hOnce ?_
            refine ks 3 (fun K hK => ?_)
            go_simp
            ((with_reducible refine (rqmul (hidB (tbm tb) b 2) V0 _ _ _ _ hXd (u2.out.qv (Nat.le_trans hb1.out (by decide))) (u3.out.qv hp2.out)).mono ?_); rintro ee vd ⟨gd, ud', rfl, hud⟩; obtain ⟨s15, a15, n15, c15, d15, k15, e15, rfl⟩ := hud.shape)
            refine kcn hK (hS0.out _ (hEd.trans gd)) (fun hHeld => ?_)
            clear hK K
            refine ks 4 (fun K hK => ?_)
            go_simp
            ((with_reducible refine (rqcompare (hidB (tbm tb) b 2) vd _ _ _ _ (hXd.ext gd) ((mkx QC.mono u1.out gd).qv hp1.out) (hud.qv hc2'.out) hc1'.out).mono ?_); rintro ee ve ⟨ge, rfl⟩; rw [hτ'.out])
            refine kcn hK (hS0.out _ (hEd.trans (gd.trans ge))) (fun hHeld => ?_)
            clear hK K
            refine kl 5 (fun K hK => ?_)
            go_simp
            refine hK.out _ _ ?_
            clear hK K
            have hEe := hEd.trans (gd.trans ge)
            have htz := ((ht7.extY hE hZY hZt).ext hEe).unbox htr.1
            have hFz := (hF7.then_ hE (fun i hi _ => hZlt.out i (by omega))).trans (ExtX.of hEe)
            go_wp2_with fail
            go_roundw
            case rel => exact ⟨i + 1, by go_num, by omega, htz, hFz⟩
            case measure => simp [intOf]; omega
      · have hlast := awake35_any wr
        go_wp2_with (first | (go_at_call 33; refine hlast.mono ?_; rintro ee w6 ⟨hE6, rfl⟩))
        go_ret
        exact ⟨hfin2.out _ (hE.trans (.of hE6)), rfl⟩
  · rw [if_neg hrk] at hs3
    go_wp2_with fail
    refine hs3.mono ?_
    rintro e w4 ⟨hE4, u4, rfl, hq4⟩
    obtain ⟨s1, a1, n1, c1, d1, k1, e1, rfl⟩ := hq4.shape
    have bx := Bx.new w4 #[.bool false, .slice none 0 0, .slice none 0 0] 41
    have hlast := hid fun w' => awake35_any w'
    have hE24 : ExtX (tbm tb) w2 w4 := hE3.trans (.of hE4)
    go_wp2_with (first
      | ((with_reducible show wpList _ _ _ (⟨_, .store 41 _ _, _, _, _, _⟩ :: _) _ _); refine st_storeBox stRat rfl rfl bx rfl rfl (one3 _ _ _ _ _ _ _) ?_; intro w5 r5 y5)
      | (go_at_call 33; refine (hlast.out _).mono ?_; rintro ee w6 ⟨hE6, rfl⟩))
    go_ret
    have hE5 : Ext w4 w5 := ExtX.box ((ExtX.refl w4).alloc _) y5 (Nat.le_refl _)
    exact ⟨hfin.out _ (hF2.out.trans (hE24.trans (.of (hE5.trans hE6)))), rfl⟩
end Go.Proofs.YtnnpfhoigmegcaaGreat
