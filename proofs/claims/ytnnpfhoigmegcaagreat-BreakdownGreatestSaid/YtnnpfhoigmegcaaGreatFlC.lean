/- Parts of a proof: each theorem states what it proves, and its conditions. -/
import Derived.Test.YtnnpfhoigmegcaaGreatFlB
import Derived.Deep.QuietTactic
import Derived.BigQuiet
import Derived.Laws.Bits64b
namespace Go.Proofs.YtnnpfhoigmegcaaGreat
open Go.RowKit Go.Rep Go.Lim
theorem valid_any (X : Nat -> Bool) (ao : Option Addr) (l : List Nat) (cap : Nat) (w : World) (hs : Sl (NatIn .u32) 1 (mk X w) ao l) (hl : l.length <= 4398046511104) :
    Calls Tryz.prog 297 #[.slice ao l.length cap] w fun e w' => w = w' /\ e = .returned (.bool (validL l)) := by
  have hh := hs.hd
  by_cases h0 : l.length = 0
  · have hl0 : l = [] := List.eq_nil_of_length_eq_zero h0
    subst hl0
    clear hs hh hl h0
    simp only [List.length_nil]
    go_enter Tryz.func297, Tryz.ntmps297
    go_wp2_with fail
    go_ret
    exact ⟨rfl, rfl⟩
  · have hc := hs.nat (l.length - 1) (by omega)
    have hv := hid (validL_last (l := l) (by omega))
    have hz : ((l.length : Int) == 0) = false := beqF (by omega)
    go_enter Tryz.func297, Tryz.ntmps297
    go_wp2_with (with_reducible refine up_ix1 slU32 (by omega) (by assumption) ?_)
    go_ret
    exact ⟨rfl, ret_bool (by rw [hv.out]; exact cast_bne0 _)⟩
def NatOut (X : Nat -> Bool) (w : World) (n : Nat) (e : Ending) (w' : World) : Prop :=
  Ext w w' /\ ∃ ao cap l, e = .returned (.slice ao l.length cap) /\ l.length <= cap /\ Canon l n /\ Sl (NatIn .u32) 1 (mk X w') ao l
def TrimOut (X : Nat -> Bool) (w : World) (ao : Option Addr) (l : List Nat) (cap : Nat) (e : Ending) (w' : World) : Prop :=
  w = w' /\ ∃ l', e = .returned (.slice ao l'.length cap) /\ l'.length <= l.length /\ Canon l' (nv l) /\ Sl (NatIn .u32) 1 (mk X w) ao l'
def ValOut (X : Nat -> Bool) (w : World) (l : List Nat) (e : Ending) (w' : World) : Prop :=
  w = w' /\ ∃ ao cap l', e = .returned (.slice ao l'.length cap) /\ l'.length <= cap /\ l'.length <= l.length /\ Canon l' (val l) /\ Sl (NatIn .u32) 1 (mk X w) ao l'
theorem trimmed_any (X : Nat -> Bool) (ao : Option Addr) (l : List Nat) (cap : Nat) (w : World) (hs : Sl (NatIn .u32) 1 (mk X w) ao l) (hd : Dig l) (hl : l.length <= 4398046511104) (hcap : l.length <= cap) :
    Calls Tryz.prog 243 #[.slice ao l.length cap] w (TrimOut X w ao l cap) := by
  have hh := hs.hd
  go_enter Tryz.func243, Tryz.ntmps243
  go_wp2_with fail
  go_loop [3] (fun n => ∃ k : Nat, n = .int .i64 k /\ Cut l k) (fun n => (intOf n).toNat)
  case atStart => exact ⟨_, rfl, Cut.all l⟩
  case round =>
    obtain ⟨k, rfl, hk⟩ := hrel
    have hkl := hk.1
    by_cases hlt : 0 < k
    · have hc := hs.nat (k - 1) (by omega)
      by_cases hz : l[k - 1] = 0
      · have hk' := hk.less hlt hz
        have hz' := hid hz
        rw [hz] at hc
        clear hz
        go_wp2_with (with_reducible refine up_ix1 slU32 (by omega) (by assumption) ?_)
        go_round
        case rel => exact ⟨k - 1, by go_num, hk'⟩
        case measure => simp [intOf]; omega
      · have hcn := hk.canon hd (.inr ⟨by omega, hz⟩)
        have hz' : ((l[k - 1] : Int) == 0) = false := beqF (by omega)
        go_wp2_with (with_reducible refine up_ix1 slU32 (by omega) (by assumption) ?_)
        go_ret
        exact ⟨rfl, l.take k, ret_slice (by simp; omega), by simp; omega, hcn, hs.take k⟩
    · have hcn := hk.canon hd (.inl (by omega))
      go_wp2_with fail
      go_ret
      exact ⟨rfl, l.take k, ret_slice (by simp; omega), by simp; omega, hcn, hs.take k⟩
theorem value_any (X : Nat -> Bool) (ao : Option Addr) (l : List Nat) (cap : Nat) (w : World) (hs : Sl (NatIn .u32) 1 (mk X w) ao l) (hd : Dig l) (hl : l.length <= 4398046511104) (hcap : l.length <= cap) :
    Calls Tryz.prog 241 #[.slice ao l.length cap] w (ValOut X w l) := by
  cases hv : validL l
  · have hv' := hid hv
    go_enter Tryz.func241, Tryz.ntmps241
    go_wp2_with (go_at_call 297; refine (valid_any X _ _ _ _ hs hl).mono ?_; rintro e w' ⟨rfl, rfl⟩)
    go_ret
    have : vl l = [] := by unfold vl; rw [hv]; rfl
    exact ⟨rfl, none, 0, [], rfl, by simp, by simp, this ▸ vl_canon hd, Sl.nil _ _ _ _⟩
  · have hv' := hid hv
    go_enter Tryz.func241, Tryz.ntmps241
    go_wp2_with (go_at_call 297; refine (valid_any X _ _ _ _ hs hl).mono ?_; rintro e w' ⟨rfl, rfl⟩)
    go_ret
    have : vl l = l := by unfold vl; rw [hv]; rfl
    have hc := vl_canon hd
    rw [this] at hc
    exact ⟨rfl, ao, cap, l, rfl, hcap, Nat.le_refl _, hc, hs⟩
theorem fromUint_any (X : Nat -> Bool) (n : Nat) (w : World) (hn : n < 18446744073709551616) (hX : ∀ k, X k = true -> k < w.heap.size) :
    Calls Tryz.prog 244 #[.int .u64 n] w (NatOut X w n) := by
  have hO : OL (NatIn .u32) 1 X w.heap.size 110 (w.alloc (.cells #[.int .u32 ((n : Int) % 4294967296), .int .u32 ((n : Int) / 4294967296)] 110)) (some ⟨w.heap.size, 0, none⟩) 2 [n % 4294967296, n / 4294967296] :=
    OL.lit (NatIn.elem .u32) hX (Nat.le_refl _) [.int .u32 ((n % 4294967296 : Nat) : Int), .int .u32 ((n / 4294967296 : Nat) : Int)] [n % 4294967296, n / 4294967296] _ (by simp [cellsL, Value.cells]) rfl
      (fun i hi _ => by match i, hi with
                        | 0, _ => rfl
                        | 1, _ => rfl) (by simp)
  go_enter Tryz.func244, Tryz.ntmps244
  go_wp2_with fail
  refine (trimmed_any X _ [n % 4294967296, n / 4294967296] _ _ (hO.sl (NatIn.elem .u32)) (Dig.cons (by rw [B_eq]; exact Nat.mod_lt _ (by decide)) (Dig.cons (by rw [B_eq]; omega) Dig.nil)) (by simp) (by simp)).mono ?_
  rintro e w' ⟨rfl, l', rfl, hl', hc, hs'⟩
  go_wp2_with fail
  go_ret
  have hv : nv [n % 4294967296, n / 4294967296] = n := by simp only [nv, B_eq]; omega
  rw [hv] at hc
  exact ⟨(ExtX.refl w).alloc _, _, 2, _, rfl, by simpa using hl', hc, hs'⟩
theorem add32_any (x y c : Nat) (w : World) (hx : x < 4294967296) (hy : y < 4294967296) (hc : c <= 1) :
    Calls Tryz.prog 242 #[.int .u32 x, .int .u32 y, .int .u32 c] w fun e w' => w = w' /\ e = .returned (.tuple #[.int .u32 ((x + y + c) % 4294967296 : Nat), .int .u32 ((x + y + c) / 4294967296 : Nat)]) := by
  go_enter Tryz.func242, Tryz.ntmps242
  go_wp2
  go_ret2
  exact ⟨rfl, by simp⟩
theorem add_any (X : Nat -> Bool) (ao bo : Option Addr) (la lb : List Nat) (ca cb : Nat) (w : World) (hsa : Sl (NatIn .u32) 1 (mk X w) ao la) (hsb : Sl (NatIn .u32) 1 (mk X w) bo lb)
    (hda : Dig la) (hdb : Dig lb) (hla : la.length <= 1099511627776) (hlb : lb.length <= 1099511627776) (hca : la.length <= ca) (hcb : lb.length <= cb) (hX : ∀ k, X k = true -> k < w.heap.size) (na nb : Nat) (hna : val la = na) (hnb : val lb = nb) :
    Calls Tryz.prog 166 #[.slice ao la.length ca, .slice bo lb.length cb] w (NatOut X w (na + nb)) := by
  go_enter Tryz.func166, Tryz.ntmps166
  go_wp2_with fail
  refine (value_any X _ _ _ _ hsa hda (by omega) hca).mono ?_
  rintro e w' ⟨rfl, ao1, ca1, a, rfl, hca1, hal, hcan, hsa1⟩
  go_wp2_with fail
  refine (value_any X _ _ _ _ hsb hdb (by omega) hcb).mono ?_
  rintro e w' ⟨rfl, bo1, cb1, b, rfl, hcb1, hbl, hcbn, hsb1⟩
  rw [hna] at hcan
  rw [hnb] at hcbn
  have hal' : a.length <= 1099511627776 := Nat.le_trans hal hla
  have hbl' : b.length <= 1099511627776 := Nat.le_trans hbl hlb
  clear hna hnb hal hbl hsa hsb hla hlb hca hcb
  go_upto_if 18 with (fail)
  go_cut [0, 1] (fun s0 s1 wx => wx = w /\ ∃ ao bo a b ca cb, s0 = .slice ao a.length ca /\ s1 = .slice bo b.length cb /\ b.length <= a.length /\ a.length <= 1099511627776 /\ Sl (NatIn .u32) 1 (mk X w) ao a /\ Sl (NatIn .u32) 1 (mk X w) bo b /\ Dig a /\ Dig b /\ Hid (nv a + nv b = na + nb))
  case first =>
    go_wp2_with fail
    all_goals go_meet
    all_goals case rel => first | exact ⟨rfl, _, _, _, _, _, _, rfl, rfl, by omega, hbl', hsb1, hsa1, hcbn.1, hcan.1, hid (by rw [hcan.2.2, hcbn.2.2, Nat.add_comm])⟩ | exact ⟨rfl, _, _, _, _, _, _, rfl, rfl, by omega, hal', hsa1, hsb1, hcan.1, hcbn.1, hid (by rw [hcan.2.2, hcbn.2.2])⟩
  case rest =>
    clear hca1 hcan hsa1 hcb1 hcbn hsb1 hal' hbl' hda hdb
    clear a b ao1 bo1 ca1 cb1 ao bo la lb ca cb
    obtain ⟨rfl, ao, bo, a, b, ca, cb, rfl, rfl, hab, hal, hsa, hsb, hda, hdb, hsum⟩ := hcut
    have hha := hsa.hd
    have hhb := hsb.hd
    go_wp2_with (at_make; refine st_make slU32 (NatIn.elem .u32) 0 (fun _ => rfl) X hX wc.heap.size (Nat.le_refl _) (a.length + 1) rfl rfl (by omega) (by omega) (by omega) ?_; intro oo w1 hO hE1)
    go_loopw [6, 27] (fun c i wr => ∃ (k : Nat) (o : List Nat) (cy : Nat), i = .int .i64 k /\ c = .int .u32 cy /\ k <= a.length /\ AddInv a b o k cy /\ OL (NatIn .u32) 1 X wc.heap.size 110 wr oo (a.length + 1) o /\ Ext wc wr) (fun _ i _ => a.length - (intOf i).toNat)
    case atStart => exact ⟨0, _, 0, rfl, rfl, by omega, AddInv.start a b, hO, hE1⟩
    case round =>
      obtain ⟨k, o, cy, rfl, rfl, hk, hinv, hOr, hEr⟩ := hrel
      clear hO hE1
      have hcy := hinv.2.2.1
      have hol := hid hinv.1
      have hho : Hd oo (a.length + 1) := hol.out ▸ hOr.hd
      by_cases hlt : k < a.length
      · have hca := (hsa.mono (NatIn.mono _) (mk_ext hEr)).nat k hlt
        have hak := hda.get k hlt
        rw [B_eq] at hak
        by_cases hkb : k < b.length
        · have hcb := (hsb.mono (NatIn.mono _) (mk_ext hEr)).nat k hkb
          have hbk := hdb.get k hkb
          rw [B_eq] at hbk
          have hst := hinv.step hlt (.inl ⟨hkb, rfl⟩) hda hdb
          go_wp2_with (first | (with_reducible refine up_ix1 slU32 (by omega) (by assumption) ?_) | (go_at_call 242; refine (add32_any _ _ _ _ hak hbk hcy).mono ?_; rintro e w' ⟨rfl, rfl⟩) | ((with_reducible show wpList _ _ _ (⟨_, .store _ _ _, _, _, _, _⟩ :: _) _ _); refine st_store tyU32 (NatIn.elem .u32) k rfl (Nat.mul_one k).symm hOr (by rw [hol.out]; omega) _ ((a[k] + b[k] + cy) % 4294967296) rfl rfl ?_; intro w2 hO2 hE2))
          go_roundw
          case rel => exact ⟨k + 1, _, _, by go_num, rfl, by omega, hst, hO2, hEr.own hOr (Nat.le_refl _) hE2⟩
          case measure => simp [intOf]; omega
        · have hst := hinv.step (y := 0) hlt (.inr ⟨by omega, rfl⟩) hda hdb
          go_wp2_with (first | (with_reducible refine up_ix1 slU32 (by omega) (by assumption) ?_) | (go_at_call 242; refine (add32_any _ 0 _ _ hak (by omega) hcy).mono ?_; rintro e w' ⟨rfl, rfl⟩) | ((with_reducible show wpList _ _ _ (⟨_, .store _ _ _, _, _, _, _⟩ :: _) _ _); refine st_store tyU32 (NatIn.elem .u32) k rfl (Nat.mul_one k).symm hOr (by rw [hol.out]; omega) _ ((a[k] + 0 + cy) % 4294967296) rfl rfl ?_; intro w2 hO2 hE2))
          go_roundw
          case rel => exact ⟨k + 1, _, _, by go_num, rfl, by omega, hst, hO2, hEr.own hOr (Nat.le_refl _) hE2⟩
          case measure => simp [intOf]; omega
      · have hke : k = a.length := by omega
        subst hke
        have hdn := hinv.done hab
        go_wp2_with (first | (with_reducible refine up_ix1 slU32 (by omega) (by assumption) ?_) | ((with_reducible show wpList _ _ _ (⟨_, .store _ _ _, _, _, _, _⟩ :: _) _ _); refine st_store tyU32 (NatIn.elem .u32) a.length rfl (Nat.mul_one _).symm hOr (by rw [hol.out]; omega) _ cy rfl rfl ?_; intro w2 hO2 hE2))
        obtain ⟨hd1, hd2, hd3⟩ := hdn
        have hd3' := hid hd3
        have hs3 := hO2.sl (NatIn.elem .u32)
        have hEE := hEr.own hOr (Nat.le_refl _) hE2
        rw [<- hd3]
        clear hd3
        refine (trimmed_any X _ _ _ _ hs3 hd1 (by rw [hd3'.out]; omega) (by rw [hd3'.out]; omega)).mono ?_
        rintro e w' ⟨rfl, l', rfl, hl', hc, hs'⟩
        go_wp2_with fail
        go_ret
        rw [hd2, hsum.out] at hc
        exact ⟨hEE, _, _, _, rfl, by have h1 := hol.out; have h2 := hl'; (try simp only [List.length_set] at h2); omega, hc, hs'⟩
end Go.Proofs.YtnnpfhoigmegcaaGreat
namespace Go.Proofs.YtnnpfhoigmegcaaGreat
open Go.RowKit Go.Rep Go.Lim
def IntOut (w : World) (v : Int) (e : Ending) (w' : World) : Prop := Ext w w' /\ e = .returned (.int .i64 v)
theorem compare_any (X : Nat -> Bool) (ao bo : Option Addr) (la lb : List Nat) (ca cb : Nat) (w : World) (hsa : Sl (NatIn .u32) 1 (mk X w) ao la) (hsb : Sl (NatIn .u32) 1 (mk X w) bo lb)
    (hda : Dig la) (hdb : Dig lb) (hla : la.length <= 1099511627776) (hlb : lb.length <= 1099511627776) (hca : la.length <= ca) (hcb : lb.length <= cb) (na nb : Nat) (hna : val la = na) (hnb : val lb = nb) :
    Calls Tryz.prog 168 #[.slice ao la.length ca, .slice bo lb.length cb] w (IntOut w (cmpN na nb)) := by
  go_enter Tryz.func168, Tryz.ntmps168
  go_wp2_with fail
  refine (value_any X _ _ _ _ hsa hda (by omega) hca).mono ?_
  rintro e w' ⟨rfl, ao1, ca1, a, rfl, hca1, hal, hcan, hsa1⟩
  go_wp2_with fail
  refine (value_any X _ _ _ _ hsb hdb (by omega) hcb).mono ?_
  rintro e w' ⟨rfl, bo1, cb1, b, rfl, hcb1, hbl, hcbn, hsb1⟩
  rw [hna] at hcan
  rw [hnb] at hcbn
  have hal' : a.length <= 1099511627776 := Nat.le_trans hal hla
  have hbl' : b.length <= 1099511627776 := Nat.le_trans hbl hlb
  clear hna hnb hal hbl hsa hsb hla hlb hca hcb
  have hha := hsa1.hd
  have hhb := hsb1.hd
  by_cases hlt : a.length < b.length
  · have hv := hid (cmpN_of_len_lt hcan hcbn hlt)
    have hne : ((a.length : Int) != b.length) = true := bneT (by omega)
    go_wp2_with fail
    go_ret
    exact ⟨ExtX.refl _, ret_int hv.out.symm⟩
  by_cases hgt : b.length < a.length
  · have hv := hid (cmpN_of_len_gt hcan hcbn hgt)
    have hne : ((a.length : Int) != b.length) = true := bneT (by omega)
    go_wp2_with fail
    go_ret
    exact ⟨ExtX.refl _, ret_int hv.out.symm⟩
  have hne : ((a.length : Int) != b.length) = false := bneF (by omega)
  have heq : Hid (a.length = b.length) := hid (by omega)
  have hbl : b.length <= a.length := by omega
  have hab : a.length <= b.length := by omega
  clear hlt hgt
  go_wp2_with fail
  go_loopw [5] (fun i wr => ∃ k : Nat, i = .int .i64 ((k : Int) - 1) /\ k <= a.length /\ Hid (a.drop k = b.drop k) /\ Ext w wr) (fun i _ => (intOf i + 1).toNat)
  case atStart => exact ⟨a.length, rfl, Nat.le_refl _, hid (by rw [List.drop_of_length_le (Nat.le_refl _), List.drop_of_length_le hbl]), ExtX.refl _⟩
  case round =>
    obtain ⟨k, rfl, hk, hdr, hE⟩ := hrel
    by_cases hlt : 0 < k
    · have c1 := (hsa1.mono (NatIn.mono _) (mk_ext hE)).nat (k - 1) (by omega)
      have c2 := (hsb1.mono (NatIn.mono _) (mk_ext hE)).nat (k - 1) (by omega)
      have i1 : ∀ W, (Instr.indexAt 37 (.slice ao1 a.length ca1) (.int .i64 ((k : Int) - 1))).run Tryz.prog W = .ok (.pointer (some (adr ao1 (k - 1)))) W := run_ix1 slU32 ao1 a.length ca1 .i64 (k - 1) hha (by omega) (by omega)
      have i2 : ∀ W, (Instr.indexAt 37 (.slice bo1 b.length cb1) (.int .i64 ((k : Int) - 1))).run Tryz.prog W = .ok (.pointer (some (adr bo1 (k - 1)))) W := run_ix1 slU32 bo1 b.length cb1 .i64 (k - 1) hhb (by omega) (by omega)
      by_cases h1 : a[k - 1] < b[k - 1]
      · have hv := hid (cmpN_of_lt hcan hcbn heq.out hlt hk hdr.out h1)
        have t1 : ((a[k - 1] : Int) < (b[k - 1] : Int)) := by omega
        go_wp2_with fail
        go_quiet (fail)
        go_wp2_with fail
        go_ret
        exact ⟨hE.drewN _, ret_int hv.out.symm⟩
      by_cases h2 : b[k - 1] < a[k - 1]
      · have hv := hid (cmpN_of_gt hcan hcbn heq.out hlt hk hdr.out h2)
        go_wp2_with fail
        go_quiet (fail)
        go_wp2_with fail
        go_quiet (fail)
        go_wp2_with fail
        go_ret
        exact ⟨(hE.drewN _).drewN _, ret_int hv.out.symm⟩
      · have hdr' := hid (drop_eq_pred heq.out hlt hk hdr.out (by omega))
        go_wp2_with fail
        go_quiet (fail)
        go_wp2_with fail
        go_quiet (fail)
        go_wp2_with fail
        go_roundw
        case rel => exact ⟨k - 1, by go_num, by omega, hdr', hE.drewN _⟩
        case measure => simp [intOf]; omega
    · have hv := hid (cmpN_of_eq hcan hcbn (k := k) (by omega) hdr.out)
      go_wp2_with fail
      go_ret
      exact ⟨hE, ret_int hv.out.symm⟩
theorem div32_any (hi lo y : Nat) (w : World) (h1 : hi < y) (h2 : y < 4294967296) (h3 : lo < 4294967296) :
    Calls Tryz.prog 328 #[.int .u32 hi, .int .u32 lo, .int .u32 y] w (fun e w' => Ext w w' /\ e = .returned (.tuple #[.int .u32 ((hi * 4294967296 + lo) / y : Nat), .int .u32 ((hi * 4294967296 + lo) % y : Nat)])) := by
  have t1 : ((y : Int) == 0) = false := beqF (by omega)
  have t2 : ((y : Int) != 0) = true := bneT (by omega)
  have hor : bits BinOp.or IntKind.u64 ((hi : Int) * 4294967296) (lo : Int) = (hi : Int) * 4294967296 + lo := by
    have e := bits_or_u64_nat (hi * 4294967296) lo (by omega) (by omega)
    have e2 := Nat.two_pow_add_eq_or_of_lt (i := 32) (b := lo) (by omega) hi
    rw [Nat.mul_comm] at e2
    rw [<- e2] at e
    simpa using e
  have hq : (hi * 4294967296 + lo) / y < 4294967296 := by
    rw [Nat.div_lt_iff_lt_mul (by omega)]
    have : (hi + 1) * 4294967296 <= y * 4294967296 := Nat.mul_le_mul_right _ h1
    rw [Nat.mul_comm 4294967296 y]; omega
  have hr : (hi * 4294967296 + lo) % y < y := Nat.mod_lt _ (by omega)
  have hq' := hid hq
  have hr' := hid hr
  clear hq hr
  go_enter Tryz.func328, Tryz.ntmps328
  go_wp2_with fail
  go_quiet (fail)
  go_wp2_with fail
  go_ret2
  refine ⟨(ExtX.refl _).drewN _, ?_⟩
  have e1 : (((hi * 4294967296 + lo) / y : Nat) : Int) % 4294967296 = (((hi * 4294967296 + lo) / y : Nat) : Int) := cast_mod32 _ hq'.out
  have e2 : (((hi * 4294967296 + lo) % y : Nat) : Int) % 4294967296 = (((hi * 4294967296 + lo) % y : Nat) : Int) := cast_mod32 _ (Nat.lt_trans hr'.out h2)
  simp only [Int.natCast_ediv, Int.natCast_emod, Int.natCast_add, Int.natCast_mul, Int.cast_ofNat_Int] at e1 e2 |-
  simp [e1, e2]
def ShortOut (X : Nat -> Bool) (w : World) (q r : Nat) (e : Ending) (w' : World) : Prop :=
  Ext w w' /\ ∃ ao cap l, e = .returned (.tuple #[.slice ao l.length cap, .int .u32 r]) /\ l.length <= cap /\ Canon l q /\ Sl (NatIn .u32) 1 (mk X w') ao l
theorem short_any (X : Nat -> Bool) (ao : Option Addr) (l : List Nat) (cap d : Nat) (w : World) (hs : Sl (NatIn .u32) 1 (mk X w) ao l) (hd : Dig l) (hl : l.length <= 1099511627776) (hX : ∀ k, X k = true -> k < w.heap.size) (h0 : 0 < d) (h1 : d < 4294967296) :
    Calls Tryz.prog 299 #[.slice ao l.length cap, .int .u32 d] w (ShortOut X w (nv l / d) (nv l % d)) := by
  have hh := hs.hd
  go_enter Tryz.func299, Tryz.ntmps299
  go_wp2_with (at_make; refine st_make slU32 (NatIn.elem .u32) 0 (fun _ => rfl) X hX w.heap.size (Nat.le_refl _) l.length rfl rfl (by omega) (by omega) (by omega) ?_; intro oo w1 hO hE1)
  go_loopw [5, 6] (fun c i wr => ∃ (k : Nat) (q : List Nat) (r : Nat), i = .int .i64 ((k : Int) - 1) /\ c = .int .u32 r /\ k <= l.length /\ ShortInv l q d k r /\ OL (NatIn .u32) 1 X w.heap.size 110 wr oo l.length q /\ Ext w wr) (fun _ i _ => (intOf i + 1).toNat)
  case atStart => exact ⟨l.length, _, 0, rfl, rfl, by omega, ShortInv.start l d h0, hO, hE1⟩
  case round =>
    obtain ⟨k, q, r, rfl, rfl, hk, hinv, hOr, hEr⟩ := hrel
    clear hO hE1
    have hql := hid hinv.1
    have hrd := hinv.2.2.1
    have hho : Hd oo l.length := hql.out ▸ hOr.hd
    by_cases hlt : 0 < k
    · have hc := (hs.mono (NatIn.mono _) (mk_ext hEr)).nat (k - 1) (by omega)
      have hak := hd.get (k - 1) (by omega)
      rw [B_eq] at hak
      have hst := hinv.step hlt hk hd
      go_wp2_with (first | (with_reducible refine up_ix1 slU32 (by omega) (by assumption) ?_) | (go_at_call 328; refine (div32_any r l[k - 1] d _ hrd h1 hak).mono ?_; rintro e w2 ⟨hE2, rfl⟩; have hO2 := hOr.ext0 (NatIn.elem _) hE2) | ((with_reducible show wpList _ _ _ (⟨_, .store _ _ _, _, _, _, _⟩ :: _) _ _); refine st_storeNat tyU32 (k - 1) ((r * 4294967296 + l[k - 1]) / d) rfl (by omega) hO2 (by rw [hql.out]; omega) rfl (by simp) ?_; intro w3 hO3 hE3))
      go_roundw
      case rel => exact ⟨k - 1, _, _, by go_num, by simp, by omega, hst, hO3, (hEr.trans hE2).own hO2 (Nat.le_refl _) hE3⟩
      case measure => simp [intOf]; omega
    · obtain rfl : k = 0 := by omega
      obtain ⟨hd1, hd2⟩ := hinv.done
      have hd1' := hid hd1
      have hd2' := hid hd2
      have hqd := hinv.2.1
      have hs3 := hOr.sl (NatIn.elem .u32)
      clear hd1 hd2
      go_wp2_with fail
      rw [<- hql.out]
      refine (trimmed_any X _ _ _ _ hs3 hqd (by rw [hql.out]; omega) (by omega)).mono ?_
      rintro e w' ⟨rfl, l', rfl, hl', hc, hs'⟩
      go_wp2_with fail
      go_ret2
      rw [hd1'.out] at hc
      exact ⟨hEr, _, _, _, by rw [<- hd2'.out]; rfl, hl', hc, hs'⟩
set_option maxRecDepth 100000 in
theorem mul_any (X : Nat -> Bool) (ao bo : Option Addr) (la lb : List Nat) (ca cb : Nat) (w : World) (hsa : Sl (NatIn .u32) 1 (mk X w) ao la) (hsb : Sl (NatIn .u32) 1 (mk X w) bo lb)
    (hda : Dig la) (hdb : Dig lb) (hla : la.length <= 1099511627776) (hlb : lb.length <= 1099511627776) (hca : la.length <= ca) (hcb : lb.length <= cb) (hX : ∀ k, X k = true -> k < w.heap.size) (na nb : Nat) (hna : val la = na) (hnb : val lb = nb) :
    Calls Tryz.prog 234 #[.slice ao la.length ca, .slice bo lb.length cb] w (NatOut X w (na * nb)) := by
  go_enter Tryz.func234, Tryz.ntmps234
  go_wp2_with fail
  refine (value_any X _ _ _ _ hsa hda (by omega) hca).mono ?_
  rintro e w' ⟨rfl, ao1, ca1, a, rfl, hca1, hal, hcan, hsa1⟩
  go_wp2_with fail
  refine (value_any X _ _ _ _ hsb hdb (by omega) hcb).mono ?_
  rintro e w' ⟨rfl, bo1, cb1, b, rfl, hcb1, hbl, hcbn, hsb1⟩
  rw [hna] at hcan
  rw [hnb] at hcbn
  have hal' : a.length <= 1099511627776 := Nat.le_trans hal hla
  have hbl' : b.length <= 1099511627776 := Nat.le_trans hbl hlb
  have hsum : Hid (nv a * nv b = na * nb) := hid (by rw [hcan.2.2, hcbn.2.2])
  have hda1 := hcan.1
  have hdb1 := hcbn.1
  clear hna hnb hal hbl hsa hsb hla hlb hca hcb hcan hcbn hda hdb
  have hha := hsa1.hd
  have hhb := hsb1.hd
  go_wp2_with (at_make; refine st_make slU32 (NatIn.elem .u32) 0 (fun _ => rfl) X hX w.heap.size (Nat.le_refl _) (a.length + b.length) rfl rfl (by omega) (by omega) (by omega) ?_; intro oo w1 hO hE1)
  go_loopw [23] (fun i wr => ∃ (k : Nat) (o : List Nat), i = .int .i64 k /\ k <= a.length /\ MulInv a b o k 0 0 /\ OL (NatIn .u32) 1 X w.heap.size 110 wr oo (a.length + b.length) o /\ Ext w wr) (fun i _ => a.length - (intOf i).toNat)
  case atStart => exact ⟨0, _, rfl, by omega, MulInv.start a b, hO, hE1⟩
  case round =>
    obtain ⟨k, o, rfl, hk, hinv, hOr, hEr⟩ := hrel
    clear hO hE1
    have hol := hid hinv.1
    by_cases hlt : k < a.length
    · have hca := (hsa1.mono (NatIn.mono _) (mk_ext hEr)).nat k hlt
      have hak := hda1.get k hlt
      rw [B_eq] at hak
      obtain ⟨x, hx⟩ : ∃ x, a[k] = x := ⟨_, rfl⟩
      rw [hx] at hca hak
      have hx' := hid hx
      clear hx
      obtain ⟨wo, rfl⟩ : ∃ wo : World, wo = wr := ⟨_, rfl⟩
      go_wp2_with (with_reducible refine up_ix1 slU32 (by omega) (by assumption) ?_)
      go_loopw [8, 30] (fun c j wr => ∃ (m : Nat) (o : List Nat) (cy : Nat), j = .int .i64 m /\ c = .int .u64 cy /\ m <= b.length /\ MulInv a b o k m cy /\ OL (NatIn .u32) 1 X w.heap.size 110 wr oo (a.length + b.length) o /\ Ext w wr) (fun _ j _ => b.length - (intOf j).toNat)
      case atStart => exact ⟨0, o, 0, rfl, rfl, by omega, hinv, hOr, hEr⟩
      case round =>
        clear hinv hOr hEr hol hca
        clear o
        obtain ⟨m, o, cy, rfl, rfl, hm, hinv, hOr, hEr⟩ := hrel
        have hol := hid hinv.1
        have hho : Hd oo (a.length + b.length) := hol.out ▸ hOr.hd
        have hcy := hinv.2.2.1
        rw [B_eq] at hcy
        by_cases hmt : m < b.length
        · have hcb := (hsb1.mono (NatIn.mono _) (mk_ext hEr)).nat m hmt
          have hij : k + m < o.length := by rw [hol.out]; omega
          have hoc := (hOr.sl (NatIn.elem _)).nat (k + m) hij
          have hbk := hdb1.get m hmt
          have hok := hinv.2.1.get (k + m) hij
          rw [B_eq] at hbk hok
          obtain ⟨y, hy⟩ : ∃ y, b[m] = y := ⟨_, rfl⟩
          obtain ⟨z, hz⟩ : ∃ z, o[k + m] = z := ⟨_, rfl⟩
          obtain ⟨hst, hb1⟩ := hinv.step' hlt hmt hda1 hdb1 hij hx'.out hy hz
          rw [hy] at hcb hbk
          rw [hz] at hoc hok
          clear hy hz
          have hx0 : (0 : Int) <= (x : Int) * (y : Int) := Int.mul_nonneg (by omega) (by omega)
          have hx3 : (cy : Int) + ((x : Int) * (y : Int) + (z : Int)) < 18446744073709551616 := by rw [<- Int.natCast_mul]; omega
          have hw1 : IntKind.u64.wrap ((x : Int) * (y : Int)) = (x : Int) * (y : Int) := IntWalk.u64_in _ (by omega)
          have hw2 : IntKind.u64.wrap ((x : Int) * (y : Int) + (z : Int)) = (x : Int) * (y : Int) + (z : Int) := IntWalk.u64_in _ (by omega)
          have hw3 : IntKind.u64.wrap ((cy : Int) + ((x : Int) * (y : Int) + (z : Int))) = (cy : Int) + ((x : Int) * (y : Int) + (z : Int)) := IntWalk.u64_in _ (by omega)
          clear hb1 hx3 hx0
          have hoc2 : wr.cell? (adr oo ((k : Int) + (m : Int)).toNat) = some (.int .u32 z) := hoc
          go_wp2_with (first | (with_reducible refine up_ix1 slU32 (by omega) (by assumption) ?_) | ((with_reducible show wpList _ _ _ (⟨_, .store _ _ _, _, _, _, _⟩ :: _) _ _); refine st_storeNat tyU32 (k + m) ((cy + (x * y + z)) % 4294967296) rfl (by omega) hOr hij rfl (by simp) ?_; intro w3 hO3 hE3))
          go_roundw
          case rel => exact ⟨m + 1, _, _, by go_num, by simp, by omega, hst, hO3, hEr.own hOr (Nat.le_refl _) hE3⟩
          case measure => simp [intOf]; omega
        · have hme : m = b.length := by omega
          subst hme
          have hst := hinv.row hlt
          have hij : k + b.length < o.length := by rw [hol.out]; omega
          go_wp2_with (first | (with_reducible refine up_ix1 slU32 (by omega) (by assumption) ?_) | ((with_reducible show wpList _ _ _ (⟨_, .store _ _ _, _, _, _, _⟩ :: _) _ _); refine st_storeNat tyU32 (k + b.length) cy rfl (by omega) hOr hij rfl (by omega) ?_; intro w3 hO3 hE3))
          go_roundw
          case rel => exact ⟨k + 1, _, by go_num, by omega, hst, hO3, hEr.own hOr (Nat.le_refl _) hE3⟩
          case measure => simp [intOf]; omega
    · have hke : k = a.length := by omega
      subst hke
      have hdn := hinv.done rfl
      have hod := hinv.2.1
      have hs3 := hOr.sl (NatIn.elem .u32)
      have hdn' := hid hdn
      clear hdn
      go_wp2_with fail
      rw [<- hol.out]
      refine (trimmed_any X _ _ _ _ hs3 hod (by rw [hol.out]; omega) (by omega)).mono ?_
      rintro e w' ⟨rfl, l', rfl, hl', hc, hs'⟩
      go_wp2_with fail
      go_ret
      rw [hdn'.out, hsum.out] at hc
      exact ⟨hEr, _, _, _, rfl, hl', hc, hs'⟩
end Go.Proofs.YtnnpfhoigmegcaaGreat
namespace Go.Proofs.YtnnpfhoigmegcaaGreat
open Go.RowKit Go.Rep Go.Lim
theorem clone_any (X : Nat -> Bool) (ao : Option Addr) (l : List Nat) (cap : Nat) (w : World) (n : Nat) (hs : Sl (NatIn .u32) 1 (mk X w) ao l) (hc : Canon l n) (hl : l.length <= 4398046511104) (hX : ∀ k, X k = true -> k < w.heap.size) :
    Calls Tryz.prog 298 #[.slice ao l.length cap] w (NatOut X w n) := by
  have hnil := fun wx => Lib.run_eql_slice_nil (P := Tryz.prog) wx 37 110 ao l.length cap 0 0 Tryz.underlying37
  cases ao with
  | none =>
    have hl0 : l = [] := by
      cases l with
      | nil => rfl
      | cons x l => obtain ⟨b, o, h⟩ := hs.1 (by simp); simp at h
    subst hl0
    simp only [List.length_nil, Option.isNone_none] at hnil |-
    go_enter Tryz.func298, Tryz.ntmps298
    go_wp2_with fail
    go_ret
    exact ⟨ExtX.refl _, none, 0, [], rfl, by simp, hc, Sl.nil _ _ _ _⟩
  | some ad =>
    have hO : OL (NatIn .u32) 1 X w.heap.size 110 (w.alloc (.cells #[] 110)) (some ⟨w.heap.size, 0, none⟩) 0 [] :=
      OL.lit (NatIn.elem .u32) hX (Nat.le_refl _) [] [] _ rfl rfl (fun i hi => by simp at hi) (by simp)
    have hs2 := hs.mono (NatIn.mono _) (mk_new X w (.cells #[] 110))
    have hX2 : ∀ k, X k = true -> k < (w.alloc (.cells #[] 110)).heap.size := fun k hk => by have := hX k hk; simp; omega
    go_enter Tryz.func298, Tryz.ntmps298
    go_wp2_with (at_builtin; refine st_appendl (l := []) slU32 rfl (NatIn.elem .u32) (by simp) hX2 l rfl rfl hO hs2 (by simp; omega) (by simp; omega) ?_; intro ao2 cap2 w2 hO2 hE2 _)
    go_ret
    exact ⟨((ExtX.refl w).alloc _).own hO (Nat.le_refl _) hE2, _, _, l, rfl, by have := hO2.lenCap; simpa using this, hc, by simpa using hO2.sl (NatIn.elem _)⟩
def DivOut (X : Nat -> Bool) (w : World) (q r : Nat) (e : Ending) (w' : World) : Prop :=
  Ext w w' /\ ∃ ao cap l bo cbp m, e = .returned (.tuple #[.slice ao l.length cap, .slice bo m.length cbp, .bool true]) /\ l.length <= cap /\ Canon l q /\ Sl (NatIn .u32) 1 (mk X w') ao l /\ m.length <= cbp /\ Canon m r /\ Sl (NatIn .u32) 1 (mk X w') bo m
theorem div1_any (X : Nat -> Bool) (ao bo : Option Addr) (la lb : List Nat) (ca cb : Nat) (w : World) (hsa : Sl (NatIn .u32) 1 (mk X w) ao la) (hsb : Sl (NatIn .u32) 1 (mk X w) bo lb)
    (hda : Dig la) (hdb : Dig lb) (hla : la.length <= 1099511627776) (hlb : lb.length <= 1099511627776) (hca : la.length <= ca) (hcb : lb.length <= cb) (hX : ∀ k, X k = true -> k < w.heap.size) (na nb : Nat) (hna : val la = na) (hnb : val lb = nb)
    (h0 : 0 < nb) (h1 : nb < 4294967296) :
    Calls Tryz.prog 245 #[.slice ao la.length ca, .slice bo lb.length cb] w (DivOut X w (na / nb) (na % nb)) := by
  go_enter Tryz.func245, Tryz.ntmps245
  go_wp2_with fail
  refine (value_any X _ _ _ _ hsa hda (by omega) hca).mono ?_
  rintro e w' ⟨rfl, ao1, ca1, a, rfl, hca1, hal, hcan, hsa1⟩
  go_wp2_with fail
  refine (value_any X _ _ _ _ hsb hdb (by omega) hcb).mono ?_
  rintro e w' ⟨rfl, bo1, cb1, b, rfl, hcb1, hbl, hcbn, hsb1⟩
  rw [hna] at hcan
  rw [hnb] at hcbn
  have hb1 := canon_one hcbn h0 h1
  subst hb1
  have hal' : a.length <= 1099511627776 := Nat.le_trans hal hla
  have hva := hid hcan.val
  have hvb := hid hcbn.val
  have hdb1 := hcbn.1
  have hda1 := hcan.1
  clear hna hnb hal hbl hsa hsb hla hlb hca hcb
  have hha := hsa1.hd
  have hhb := hsb1.hd
  simp only [List.length_cons, List.length_nil, Nat.zero_add] at hhb hcb1 |-
  go_wp2_with fail
  refine (compare_any X ao1 bo1 a [nb] ca1 cb1 w hsa1 hsb1 hda1 hdb1 hal' (by simp) hca1 hcb1 na nb hva.out hvb.out).mono ?_
  rintro e w2 ⟨hE2, rfl⟩
  have hsa2 := hsa1.mono (NatIn.mono _) (mk_ext hE2)
  have hsb2 := hsb1.mono (NatIn.mono _) (mk_ext hE2)
  have hX2 : ∀ k, X k = true -> k < w2.heap.size := fun k hk => Nat.lt_of_lt_of_le (hX k hk) hE2.size
  by_cases hlt : na < nb
  · have hcl : cmpN na nb < 0 := (cmpN_lt na nb).2 hlt
    have hq := hid (Nat.div_eq_of_lt hlt)
    have hr := hid (Nat.mod_eq_of_lt hlt)
    generalize cmpN na nb = c at hcl
    go_wp2_with fail
    refine (clone_any X _ _ _ _ na hsa2 hcan (by omega) hX2).mono ?_
    rintro e w3 ⟨hE3, ao3, ca3, l3, rfl, hc3, hcan3, hs3⟩
    go_wp2_with fail
    go_ret3
    refine ⟨hE2.trans hE3, none, 0, [], ao3, ca3, l3, rfl, by simp, ?_, Sl.nil _ _ _ _, hc3, ?_, hs3⟩
    · rw [hq.out]; exact Canon.nil
    · rw [hr.out]; exact hcan3
  · have hcl : ¬ cmpN na nb < 0 := fun h => hlt ((cmpN_lt na nb).1 h)
    generalize cmpN na nb = c at hcl
    have hcell := hsb2.nat 0 (by simp)
    simp only [List.getElem_cons_zero] at hcell
    go_wp2_with (with_reducible refine up_ix1 slU32 (by omega) (by assumption) ?_)
    refine (short_any X ao1 a ca1 nb w2 hsa2 hda1 hal' hX2 h0 h1).mono ?_
    rintro e w3 ⟨hE3, ao3, ca3, l3, rfl, hc3, hcan3, hs3⟩
    have hX3 : ∀ k, X k = true -> k < w3.heap.size := fun k hk => Nat.lt_of_lt_of_le (hX2 k hk) hE3.size
    have hrl : nv a % nb < nb := Nat.mod_lt _ h0
    obtain ⟨r, hr⟩ : ∃ r, nv a % nb = r := ⟨_, rfl⟩
    rw [hr] at hrl |-
    have hr' := hid hr
    clear hr
    go_wp2_with fail
    refine (fromUint_any X r _ (by omega) hX3).mono ?_
    rintro e w4 ⟨hE4, bo4, cb4, l4, rfl, hc4, hcan4, hs4⟩
    go_wp2_with fail
    go_ret3
    have hs3' := hs3.mono (NatIn.mono _) (mk_ext hE4)
    have hnv := hcan.2.2
    rw [hnv] at hcan3
    have hr2 := hr'.out
    rw [hnv] at hr2
    rw [<- hr2] at hcan4
    exact ⟨(hE2.trans hE3).trans hE4, ao3, ca3, l3, bo4, cb4, l4, rfl, hc3, hcan3, hs3', hc4, hcan4, hs4⟩
end Go.Proofs.YtnnpfhoigmegcaaGreat
namespace Go.Lim
theorem nv_take_lt {l : List Nat} (h : Dig l) (k : Nat) : nv (l.take k) < B ^ k := by
  refine Nat.lt_of_lt_of_le (nv_lt (h.take k)) (Nat.pow_le_pow_right B_pos ?_)
  simp; omega
theorem nv_take_of_lt {l : List Nat} {k : Nat} (h : nv l < B ^ k) : nv (l.take k) = nv l := by
  by_cases hk : k <= l.length
  · have h1 := nv_split l k hk
    have h2 : nv (l.drop k) = 0 := by
      by_cases h0 : nv (l.drop k) = 0
      · exact h0
      · have : B ^ k * 1 <= B ^ k * nv (l.drop k) := Nat.mul_le_mul_left _ (by omega)
        omega
    rw [h2] at h1; omega
  · rw [List.take_of_length_le (by omega)]
theorem getD_of_lt {l : List Nat} {i : Nat} (h : i < l.length) : l.getD i 0 = l[i] := by simp [List.getD, h]
theorem getD_of_ge {l : List Nat} {i : Nat} (h : l.length <= i) : l.getD i 0 = 0 := by simp [List.getD, h]
def subD (x y c : Nat) : Nat := (x + 4294967296 - y - c) % 4294967296
def subC (x y c : Nat) : Nat := if x < y + c then 1 else 0
theorem subD_eq {x y c : Nat} (hx : x < B) (hy : y < B) (hc : c <= 1) : subD x y c + y + c = x + B * subC x y c /\ subD x y c < B /\ subC x y c <= 1 := by
  rw [B_eq] at *
  unfold subD subC
  split <;> omega
def SubInv (a b o : List Nat) (i c : Nat) : Prop := o.length = a.length /\ Dig o /\ c <= 1 /\ nv (o.take i) + nv (b.take i) = nv (a.take i) + B ^ i * c
theorem SubInv.start (a b : List Nat) : SubInv a b (List.replicate a.length 0) 0 0 := ⟨by simp, Dig.zeros _, by omega, by simp [nv]⟩
theorem SubInv.step {a b o : List Nat} {i c x y : Nat} (h : SubInv a b o i c) (hi : i < a.length) (hx : a[i] = x) (hy : b.getD i 0 = y) (ha : Dig a) (hb : Dig b) :
    SubInv a b (o.set i (subD x y c)) (i + 1) (subC x y c) := by
  obtain ⟨h1, h2, h3, h4⟩ := h
  have hai := ha.get i hi
  have hyB := hb.getD i
  rw [hx] at hai
  rw [hy] at hyB
  obtain ⟨e1, e2, e3⟩ := subD_eq hai hyB h3
  refine ⟨by simpa using h1, h2.set _ _ e2, e3, ?_⟩
  rw [take_set_succ o i _ (by omega), nv_snoc, nv_take_succ a i hi, nv_take_getD, hx, hy, List.length_take, Nat.min_eq_left (by omega), Nat.pow_succ]
  generalize subD x y c = d at *
  generalize subC x y c = c' at *
  have e4 : B ^ i * (d + y + c) = B ^ i * (x + B * c') := by rw [e1]
  rw [Nat.mul_add, Nat.mul_add, Nat.mul_add] at e4
  rw [Nat.mul_assoc]
  omega
theorem SubInv.done {a b o : List Nat} {c : Nat} (h : SubInv a b o a.length c) (hab : b.length <= a.length) (hle : nv b <= nv a) : nv o = nv a - nv b := by
  obtain ⟨h1, h2, h3, h4⟩ := h
  rw [List.take_of_length_le (Nat.le_of_eq h1), List.take_of_length_le hab, List.take_of_length_le (Nat.le_refl _)] at h4
  have h5 := nv_lt h2
  rw [h1] at h5
  have h6 : c = 0 := by
    by_cases h0 : c = 0
    · exact h0
    · have : c = 1 := by omega
      subst this; omega
  subst h6; omega
def RedInv (W V : List Nat) (x : Nat) (o : List Nat) (k cy bo : Nat) : Prop :=
  o.length = W.length /\ Dig o /\ o.drop k = W.drop k /\ bo <= 1 /\ cy < B /\ (∃ L, L < B ^ k /\ x * nv (V.take k) = L + B ^ k * cy) /\ nv (o.take k) + x * nv (V.take k) = nv (W.take k) + B ^ k * (cy + bo)
theorem RedInv.start {W V : List Nat} {x : Nat} (hW : Dig W) : RedInv W V x W 0 0 0 := ⟨rfl, hW, rfl, by omega, B_pos, ⟨0, by simp, by simp [nv]⟩, by simp [nv]⟩
theorem RedInv.step {W V o : List Nat} {x k cy bo y z : Nat} (h : RedInv W V x o k cy bo) (hk : k < W.length) (hy : V.getD k 0 = y) (hz : o.getD k 0 = z) (hV : Dig V) (hx : x < B) :
    RedInv W V x (o.set k (subD z ((cy + x * y) % 4294967296) bo)) (k + 1) ((cy + x * y) / 4294967296) (subC z ((cy + x * y) % 4294967296) bo) /\ cy + x * y < 18446744073709551616 /\ z < 4294967296 := by
  obtain ⟨h1, h2, h3, h4, h5, ⟨L, h6, h7⟩, h8⟩ := h
  have hyB := hV.getD k
  rw [hy] at hyB
  have hzB := h2.getD k
  rw [hz] at hzB
  have hzW : W[k] = z := by
    have e0 : (o.drop k)[0]'(by simp; omega) = (W.drop k)[0]'(by simp; omega) := by simp only [h3]
    simp at e0
    rw [<- e0, <- hz, getD_of_lt (by omega)]
  have hm : x * y <= 4294967295 * 4294967295 := Nat.mul_le_mul (by rw [B_eq] at hx; omega) (by rw [B_eq] at hyB; omega)
  obtain ⟨lo, hlo⟩ : ∃ lo, (cy + x * y) % 4294967296 = lo := ⟨_, rfl⟩
  obtain ⟨hi, hhi⟩ : ∃ hi, (cy + x * y) / 4294967296 = hi := ⟨_, rfl⟩
  have hdm : B * hi + lo = cy + x * y := by rw [<- hlo, <- hhi, B_eq]; exact Nat.div_add_mod _ _
  have hloB : lo < B := by rw [<- hlo, B_eq]; exact Nat.mod_lt _ (by decide)
  have hhiB : hi < B := by rw [B_eq] at h5 |-; omega
  rw [hlo, hhi]
  obtain ⟨e1, e2, e3⟩ := subD_eq hzB hloB h4
  have hV1 : nv (V.take (k + 1)) = nv (V.take k) + B ^ k * y := by rw [nv_take_getD, hy]
  have e5 : B ^ k * (B * hi + lo) = B ^ k * (cy + x * y) := by rw [hdm]
  rw [Nat.mul_add, Nat.mul_add] at e5
  have e6 : x * (nv (V.take k) + B ^ k * y) = x * nv (V.take k) + B ^ k * (x * y) := by rw [Nat.mul_add, Nat.mul_left_comm]
  refine ⟨⟨by simpa using h1, h2.set _ _ e2, ?_, e3, hhiB, ⟨L + B ^ k * lo, ?_, ?_⟩, ?_⟩, by rw [B_eq] at h5; omega, by rw [B_eq] at hzB; exact hzB⟩
  · rw [List.drop_set_of_lt (by omega)]
    have : (o.drop k).drop 1 = (W.drop k).drop 1 := by rw [h3]
    simpa using this
  · rw [Nat.pow_succ]
    have : B ^ k * lo + B ^ k <= B ^ k * B := by rw [<- Nat.mul_succ]; exact Nat.mul_le_mul_left _ hloB
    omega
  · rw [hV1, e6, h7, Nat.pow_succ, Nat.mul_assoc]; omega
  · rw [take_set_succ o k _ (by omega), nv_snoc, nv_take_succ W k hk, hzW, hV1, e6, List.length_take, Nat.min_eq_left (by omega), Nat.pow_succ, Nat.mul_assoc, Nat.mul_add]
    rw [Nat.mul_add] at h8
    generalize subD z lo bo = d at *
    generalize subC z lo bo = c' at *
    have e7 : B ^ k * (d + lo + bo) = B ^ k * (z + B * c') := by rw [e1]
    rw [Nat.mul_add, Nat.mul_add, Nat.mul_add] at e7
    rw [Nat.mul_add]
    omega
theorem RedInv.done {W V o : List Nat} {x cy bo n : Nat} (h : RedInv W V x o W.length cy bo) (hW : W.length = n + 1) (hV : V.length = n) (hVd : Dig V) (hx : x < B) :
    o.length = n + 1 /\ Dig o /\ ((bo = 0 /\ nv o + x * nv V = nv W) \/ (bo = 1 /\ nv W < x * nv V /\ nv o + x * nv V = nv W + B ^ (n + 1))) := by
  obtain ⟨h1, h2, h3, h4, h5, ⟨L, h6, h7⟩, h8⟩ := h
  have hVl := nv_lt hVd
  rw [hV] at hVl
  have hol := nv_lt h2
  rw [h1, hW] at hol
  rw [List.take_of_length_le (by omega)] at h7
  rw [List.take_of_length_le (by omega), List.take_of_length_le (by omega), List.take_of_length_le (Nat.le_refl _)] at h8
  rw [hW] at h6 h7 h8
  have hxv : x * nv V < B ^ (n + 1) := by
    rw [Nat.pow_succ, Nat.mul_comm (B ^ n)]
    exact Nat.lt_of_le_of_lt (Nat.mul_le_mul_right _ (Nat.le_of_lt hx)) (Nat.mul_lt_mul_of_pos_left hVl B_pos)
  have hcy : cy = 0 := by
    by_cases h0 : cy = 0
    · exact h0
    · have : B ^ (n + 1) * 1 <= B ^ (n + 1) * cy := Nat.mul_le_mul_left _ (by omega)
      omega
  subst hcy
  refine ⟨by omega, h2, ?_⟩
  rcases (show bo = 0 \/ bo = 1 by omega) with rfl | rfl
  · left; exact ⟨rfl, by simpa using h8⟩
  · right
    rw [Nat.zero_add, Nat.mul_one] at h8
    exact ⟨rfl, by omega, h8⟩
def ResInv (W V : List Nat) (o : List Nat) (k c : Nat) : Prop :=
  o.length = W.length /\ Dig o /\ o.drop k = W.drop k /\ c <= 1 /\ nv (o.take k) + B ^ k * c = nv (W.take k) + nv (V.take k)
theorem ResInv.start {W V : List Nat} (hW : Dig W) : ResInv W V W 0 0 := ⟨rfl, hW, rfl, by omega, by simp [nv]⟩
theorem ResInv.step {W V o : List Nat} {k c y z : Nat} (h : ResInv W V o k c) (hk : k < W.length) (hy : V.getD k 0 = y) (hz : o.getD k 0 = z) (hV : Dig V) :
    ResInv W V (o.set k ((z + y + c) % 4294967296)) (k + 1) ((z + y + c) / 4294967296) /\ z < 4294967296 := by
  obtain ⟨h1, h2, h3, h4, h8⟩ := h
  have hyB := hV.getD k
  rw [hy, B_eq] at hyB
  have hzB := h2.getD k
  rw [hz, B_eq] at hzB
  have hzW : W[k] = z := by
    have e0 : (o.drop k)[0]'(by simp; omega) = (W.drop k)[0]'(by simp; omega) := by simp only [h3]
    simp at e0
    rw [<- e0, <- hz, getD_of_lt (by omega)]
  refine ⟨⟨by simpa using h1, h2.set _ _ (by rw [B_eq]; exact Nat.mod_lt _ (by decide)), ?_, by omega, ?_⟩, hzB⟩
  · rw [List.drop_set_of_lt (by omega)]
    have : (o.drop k).drop 1 = (W.drop k).drop 1 := by rw [h3]
    simpa using this
  · rw [take_set_succ o k _ (by omega), nv_snoc, nv_take_succ W k hk, hzW, nv_take_getD, hy, List.length_take, Nat.min_eq_left (by omega), Nat.pow_succ, Nat.mul_assoc]
    have e : (z + y + c) % 4294967296 + B * ((z + y + c) / 4294967296) = z + y + c := by rw [B_eq]; omega
    have e2 : B ^ k * ((z + y + c) % 4294967296) + B ^ k * (B * ((z + y + c) / 4294967296)) = B ^ k * z + B ^ k * y + B ^ k * c := by rw [<- Nat.mul_add, e, Nat.mul_add, Nat.mul_add]
    omega
theorem ResInv.done {W V o : List Nat} {c n : Nat} (h : ResInv W V o W.length c) (hW : W.length = n + 1) (hV : V.length = n) : o.length = n + 1 /\ Dig o /\ c <= 1 /\ nv o + B ^ (n + 1) * c = nv W + nv V := by
  obtain ⟨h1, h2, h3, h4, h8⟩ := h
  rw [List.take_of_length_le (by omega), List.take_of_length_le (Nat.le_refl _), List.take_of_length_le (by omega), hW] at h8
  exact ⟨by omega, h2, h4, h8⟩
def ShInv (a o : List Nat) (s k : Nat) : Prop := o.length = a.length + 1 /\ Dig o /\ (∀ p, k < p -> o.getD p 0 = 0) /\ o.getD k 0 < 2 ^ s /\ nv (o.take (k + 1)) = nv (a.take k) * 2 ^ s
theorem ShInv.start (a : List Nat) (s : Nat) : ShInv a (List.replicate (a.length + 1) 0) s 0 :=
  ⟨by simp, Dig.zeros _, fun p _ => by by_cases h : p < a.length + 1 <;> simp [List.getD, h], by simp [List.getD]; exact Nat.two_pow_pos _, by rw [nv_take_getD]; simp [nv, List.getD]⟩
theorem or_shift {lo x s : Nat} (hlo : lo < 2 ^ s) (hs : s < 32) : lo ||| (x * 2 ^ s) % 4294967296 = lo + (x * 2 ^ s) % 4294967296 := by
  have e : (x * 2 ^ s) % 4294967296 = 2 ^ s * (x % 2 ^ (32 - s)) := by
    rw [show (4294967296 : Nat) = 2 ^ s * 2 ^ (32 - s) by rw [<- Nat.pow_add, show s + (32 - s) = 32 by omega], Nat.mul_comm x, Nat.mul_mod_mul_left]
  rw [e, Nat.or_comm, <- Nat.two_pow_add_eq_or_of_lt hlo, Nat.add_comm]
theorem ShInv.step {a o : List Nat} {s k x lo : Nat} (h : ShInv a o s k) (hk : k < a.length) (hx : a[k] = x) (hlo : o.getD k 0 = lo) (ha : Dig a) (hs : s < 32) :
    ShInv a ((o.set k (lo ||| (x * 2 ^ s) % 4294967296)).set (k + 1) (x * 2 ^ s / 4294967296)) s (k + 1) /\ (lo ||| (x * 2 ^ s) % 4294967296) < 4294967296 /\ x * 2 ^ s < 18446744073709551616 /\ x * 2 ^ s / 4294967296 < 4294967296 := by
  obtain ⟨h1, h2, h3, h4, h5⟩ := h
  have hai := ha.get k hk
  rw [hx, B_eq] at hai
  rw [hlo] at h4
  rw [or_shift h4 hs]
  have hp : (2 : Nat) ^ s <= 2 ^ 31 := Nat.pow_le_pow_right (by omega) (by omega)
  have hdiv : x * 2 ^ s / 4294967296 < 2 ^ s := Nat.div_lt_of_lt_mul (Nat.mul_lt_mul_of_pos_right hai (Nat.two_pow_pos _))
  have hsum : lo + (x * 2 ^ s) % 4294967296 < 4294967296 := by
    have e : (x * 2 ^ s) % 4294967296 = 2 ^ s * (x % 2 ^ (32 - s)) := by
      rw [show (4294967296 : Nat) = 2 ^ s * 2 ^ (32 - s) by rw [<- Nat.pow_add, show s + (32 - s) = 32 by omega], Nat.mul_comm x, Nat.mul_mod_mul_left]
    have e2 : x % 2 ^ (32 - s) < 2 ^ (32 - s) := Nat.mod_lt _ (Nat.two_pow_pos _)
    have e3 : 2 ^ s * (x % 2 ^ (32 - s)) + 2 ^ s <= 2 ^ s * 2 ^ (32 - s) := by rw [<- Nat.mul_succ]; exact Nat.mul_le_mul_left _ e2
    have e4 : 2 ^ s * 2 ^ (32 - s) = 4294967296 := by rw [<- Nat.pow_add, show s + (32 - s) = 32 by omega]
    omega
  have hxs : x * 2 ^ s < 18446744073709551616 := by
    have : x * 2 ^ s <= x * 2 ^ 31 := Nat.mul_le_mul_left _ hp
    omega
  refine ⟨⟨by simpa using h1, (h2.set _ _ (by rw [B_eq]; exact hsum)).set _ _ (by rw [B_eq]; omega), fun p hp => ?_, ?_, ?_⟩, hsum, hxs, by omega⟩
  · have := h3 p (by omega)
    simp only [List.getD_eq_getElem?_getD] at this |-
    rw [List.getElem?_set_ne (by omega), List.getElem?_set_ne (by omega)]; exact this
  · rw [getD_of_lt (by simp; omega), List.getElem_set_self]; exact hdiv
  · rw [take_set_succ _ _ _ (by simp; omega), nv_snoc, take_set_succ _ _ _ (by omega), nv_snoc]
    simp only [List.length_append, List.length_take, List.length_singleton, h1]
    rw [Nat.min_eq_left (by omega), nv_take_succ a k hk, hx, Nat.add_mul]
    rw [nv_take_getD, hlo] at h5
    have e := Nat.div_add_mod (x * 2 ^ s) 4294967296
    have hmin : min (k + 1) (a.length + 1) = k + 1 := by omega
    rw [Nat.mul_add, Nat.pow_succ, Nat.mul_assoc (B ^ k)]
    try rw [hmin]
    have e2 : B ^ k * (B * (x * 2 ^ s / 4294967296)) + B ^ k * (x * 2 ^ s % 4294967296) = B ^ k * x * 2 ^ s := by rw [<- Nat.mul_add, B_eq, e, Nat.mul_assoc]
    omega
theorem ShInv.done {a o : List Nat} {s : Nat} (h : ShInv a o s a.length) : o.length = a.length + 1 /\ Dig o /\ o.getD a.length 0 < 2 ^ s /\ nv o = nv a * 2 ^ s := by
  obtain ⟨h1, h2, h3, h4, h5⟩ := h
  rw [List.take_of_length_le (by omega), List.take_of_length_le (Nat.le_refl _)] at h5
  exact ⟨h1, h2, h4, h5⟩
def estB (b u2 u1 u0 v1 v0 : Nat) : Nat := min ((u2 * (b * b) + u1 * b + u0) / (v1 * b + v0)) (b - 1)
def GInvB (b u2 u1 u0 v1 v0 q r : Nat) : Prop := q * v1 + r = u2 * b + u1 /\ estB b u2 u1 u0 v1 v0 <= q /\ q <= b + 1
theorem GInvB.start {b u2 u1 u0 v1 v0 : Nat} (hv : b <= 2 * v1) (hb : 2 <= b) (h2 : u2 <= v1) (h1 : u1 < b) (h0 : u0 < b) : GInvB b u2 u1 u0 v1 v0 ((u2 * b + u1) / v1) ((u2 * b + u1) % v1) := by
  refine ⟨by rw [Nat.mul_comm]; exact Nat.div_add_mod _ _, ?_, ?_⟩
  · unfold estB
    refine Nat.le_trans (Nat.min_le_left _ _) ?_
    rw [Nat.le_div_iff_mul_le (by omega)]
    generalize hq : (u2 * (b * b) + u1 * b + u0) / (v1 * b + v0) = q
    have e : q * (v1 * b + v0) <= u2 * (b * b) + u1 * b + u0 := by rw [<- hq]; exact Nat.div_mul_le_self _ _
    have e1 : q * v1 * b < (u2 * b + u1 + 1) * b := by
      rw [Nat.mul_add, <- Nat.mul_assoc] at e
      rw [Nat.add_mul, Nat.add_mul, Nat.mul_assoc u2, Nat.one_mul]
      omega
    have := Nat.lt_of_mul_lt_mul_right e1
    omega
  · have : (u2 * b + u1) / v1 < b + 2 := by
      rw [Nat.div_lt_iff_lt_mul (by omega)]
      have : u2 * b <= v1 * b := Nat.mul_le_mul_right _ h2
      rw [Nat.add_mul, Nat.mul_comm b v1]
      omega
    omega
theorem GInvB.more {b u2 u1 u0 v1 v0 q r : Nat} (h : GInvB b u2 u1 u0 v1 v0 q r) (hb : 2 <= b) (hc : b <= q \/ r * b + u0 < q * v0) (hv : 0 < v1) : 1 <= q /\ GInvB b u2 u1 u0 v1 v0 (q - 1) (r + v1) := by
  obtain ⟨h1, h2, h3⟩ := h
  have hlt : estB b u2 u1 u0 v1 v0 < q := by
    rcases hc with hc | hc
    · unfold estB; omega
    · unfold estB
      refine Nat.lt_of_le_of_lt (Nat.min_le_left _ _) ?_
      have hp : 0 < v1 * b := Nat.mul_pos hv (by omega)
      have e5 : q * (v1 * b + v0) = q * v1 * b + q * v0 := by rw [Nat.mul_add, Nat.mul_assoc]
      rw [Nat.div_lt_iff_lt_mul (by omega), e5]
      have e : (q * v1 + r) * b = (u2 * b + u1) * b := by rw [h1]
      rw [Nat.add_mul, Nat.add_mul, Nat.mul_assoc u2] at e
      omega
  refine ⟨by omega, ?_, by omega, by omega⟩
  obtain ⟨p, rfl⟩ : ∃ p, q = p + 1 := ⟨q - 1, by omega⟩
  rw [Nat.succ_mul] at h1
  rw [show p + 1 - 1 = p from rfl]; omega
theorem GInvB.less {b u2 u1 u0 v1 v0 q r : Nat} (h : GInvB b u2 u1 u0 v1 v0 q r) (hb : 2 <= b) (hv : b <= 2 * v1) (h2' : u2 <= v1) (hu1 : u1 < b) (hv0 : v0 < b) (hc : b <= r \/ (q < b /\ q * v0 <= r * b + u0)) : q = estB b u2 u1 u0 v1 v0 := by
  obtain ⟨h1, h2, h3⟩ := h
  have hq : q < b := by
    rcases hc with hc | hc
    · by_cases hq : q < b
      · exact hq
      · have e1 : b * v1 <= q * v1 := Nat.mul_le_mul_right _ (by omega)
        have e2 : u2 * b <= v1 * b := Nat.mul_le_mul_right _ h2'
        rw [Nat.mul_comm b] at e1
        omega
    · exact hc.1
  have hv0' : q * v0 <= r * b + u0 := by
    rcases hc with hc | hc
    · have e1 : q * v0 <= b * b := Nat.mul_le_mul (by omega) (by omega)
      have e2 : b * b <= r * b := Nat.mul_le_mul_right _ hc
      omega
    · exact hc.2
  refine Nat.le_antisymm ?_ h2
  unfold estB
  refine Nat.le_min.2 ⟨?_, by omega⟩
  have hp : 0 < v1 * b := Nat.mul_pos (by omega) (by omega)
  rw [Nat.le_div_iff_mul_le (by omega), Nat.mul_add, <- Nat.mul_assoc]
  have e : (q * v1 + r) * b = (u2 * b + u1) * b := by rw [h1]
  rw [Nat.add_mul, Nat.add_mul, Nat.mul_assoc u2] at e
  omega
theorem nv_top3 {W : List Nat} {n : Nat} (hW : W.length = n + 3) : nv W = nv (W.take n) + B ^ n * (W[n + 2] * (B * B) + W[n + 1] * B + W[n]) := by
  have e : W.take (n + 3) = W := List.take_of_length_le (by omega)
  have h0 : nv (W.take (n + 1)) = nv (W.take n) + B ^ n * W[n] := nv_take_succ W n (by omega)
  have h1 : nv (W.take (n + 2)) = nv (W.take (n + 1)) + B ^ (n + 1) * W[n + 1] := nv_take_succ W (n + 1) (by omega)
  have h2 : nv (W.take (n + 3)) = nv (W.take (n + 2)) + B ^ (n + 2) * W[n + 2] := nv_take_succ W (n + 2) (by omega)
  rw [e] at h2
  rw [h2, h1, h0, show B ^ (n + 2) = B ^ n * B * B by rw [Nat.pow_succ, Nat.pow_succ], show B ^ (n + 1) = B ^ n * B from Nat.pow_succ ..]
  generalize W[n] = x0
  generalize W[n + 1] = x1
  generalize W[n + 2] = x2
  generalize B ^ n = q
  simp only [Nat.mul_add]
  have e1 : q * B * B * x2 = q * (x2 * (B * B)) := by ac_rfl
  have e2 : q * B * x1 = q * (x1 * B) := by ac_rfl
  rw [e1, e2]
  omega
theorem nv_top2 {V : List Nat} {n : Nat} (hV : V.length = n + 2) : nv V = nv (V.take n) + B ^ n * (V[n + 1] * B + V[n]) := by
  have e : V.take (n + 2) = V := List.take_of_length_le (by omega)
  have h0 := nv_take_succ V n (by omega)
  have h1 := nv_take_succ V (n + 1) (by omega)
  rw [show n + 1 + 1 = n + 2 from rfl, e, Nat.pow_succ] at h1
  rw [h1, h0]
  generalize V[n] = x0
  generalize V[n + 1] = x1
  generalize B ^ n = q
  simp only [Nat.mul_add]
  have e2 : q * B * x1 = q * (x1 * B) := by ac_rfl
  rw [e2]
  omega
theorem est_law {b Q u2 u1 u0 v1 v0 lw lv W V : Nat} (hb : 2 <= b) (_hQ : 0 < Q) (eW : W = lw + Q * (u2 * (b * b) + u1 * b + u0)) (eV : V = lv + Q * (v1 * b + v0)) (lW : lw < Q) (lV : lv < Q)
    (_d2 : u2 < b) (d1 : u1 < b) (f0 : v0 < b) (hn : b <= 2 * v1) (hlt : W < V * b) : u2 <= v1 /\ W / V <= estB b u2 u1 u0 v1 v0 /\ estB b u2 u1 u0 v1 v0 <= W / V + 1 := by
  have hv1 : 0 < v1 := by omega
  have hp : 0 < v1 * b := Nat.mul_pos hv1 (by omega)
  have hVpos : 0 < V := by
    have : Q * 1 <= Q * (v1 * b + v0) := Nat.mul_le_mul_left _ (by omega)
    omega
  obtain ⟨v2, hv2⟩ : ∃ v2, v1 * b + v0 = v2 := ⟨_, rfl⟩
  obtain ⟨u3, hu3⟩ : ∃ u3, u2 * (b * b) + u1 * b + u0 = u3 := ⟨_, rfl⟩
  have hest : estB b u2 u1 u0 v1 v0 = min (u3 / v2) (b - 1) := by unfold estB; rw [hv2, hu3]
  rw [hest]
  rw [hv2] at eV
  rw [hu3] at eW
  have hU3 : u3 < (v2 + 1) * b := by
    have : Q * u3 < Q * ((v2 + 1) * b) := by
      have e0 : Q * ((v2 + 1) * b) = (Q * v2 + Q) * b := by rw [<- Nat.mul_assoc, Nat.mul_add Q v2 1, Nat.mul_one]
      have e1 : (lv + Q * v2) * b <= (Q * v2 + Q) * b := Nat.mul_le_mul_right _ (by omega)
      rw [eV] at hlt
      omega
    exact Nat.lt_of_mul_lt_mul_left this
  refine ⟨?_, ?_, ?_⟩
  · by_cases h : u2 <= v1
    · exact h
    · have e1 : (v1 + 1) * (b * b) <= u2 * (b * b) := Nat.mul_le_mul_right _ (by omega)
      have e2 : (v2 + 1) * b <= (v1 * b + b) * b := Nat.mul_le_mul_right _ (by omega)
      rw [Nat.add_mul, Nat.one_mul] at e1
      have e3 : (v1 * b + b) * b = v1 * (b * b) + b * b := by rw [Nat.add_mul, Nat.mul_assoc]
      omega
  · refine Nat.le_min.2 ⟨?_, ?_⟩
    · have hv2p : 0 < v2 := by omega
      rw [Nat.le_div_iff_mul_le hv2p]
      generalize hq : W / V = q
      have h1 : q * V <= W := by rw [<- hq]; exact Nat.div_mul_le_self _ _
      have h2 : Q * (q * v2) < Q * (u3 + 1) := by
        have e1 : q * (Q * v2) <= q * V := Nat.mul_le_mul_left _ (by omega)
        rw [Nat.mul_left_comm, Nat.mul_add Q, Nat.mul_one]
        omega
      have := Nat.lt_of_mul_lt_mul_left h2
      omega
    · have : W / V < b := by rw [Nat.div_lt_iff_lt_mul hVpos, Nat.mul_comm]; exact hlt
      omega
  · generalize hx : min (u3 / v2) (b - 1) = x
    have hxB : x < b := by omega
    have hxV : x * v2 <= u3 := by
      rw [<- hx]
      exact Nat.le_trans (Nat.mul_le_mul_right _ (Nat.min_le_left _ _)) (Nat.div_mul_le_self _ _)
    clear hx
    cases x with
    | zero => exact Nat.zero_le _
    | succ y =>
      rw [Nat.add_le_add_iff_right, Nat.le_div_iff_mul_le hVpos]
      have h1 : (y + 1) * V <= W + V := by
        have e1 : (y + 1) * V = (y + 1) * lv + Q * ((y + 1) * v2) := by rw [eV, Nat.mul_add, Nat.mul_left_comm]
        have e2 : Q * ((y + 1) * v2) <= Q * u3 := Nat.mul_le_mul_left _ hxV
        have e3 : (y + 1) * lv <= b * Q := Nat.mul_le_mul (by omega) (by omega)
        have e4 : b * Q <= Q * v2 := by
          rw [Nat.mul_comm]
          refine Nat.mul_le_mul_left _ ?_
          have : 1 * b <= v1 * b := Nat.mul_le_mul_right _ (by omega)
          omega
        omega
      rw [Nat.succ_mul] at h1
      omega
theorem est_ok {W V : List Nat} {n : Nat} (hW : W.length = n + 3) (hV : V.length = n + 2) (hWd : Dig W) (hVd : Dig V) (hn : B <= 2 * V[n + 1]) (hlt : nv W < nv V * B) :
    W[n + 2] <= V[n + 1] /\ nv W / nv V <= estB B W[n + 2] W[n + 1] W[n] V[n + 1] V[n] /\ estB B W[n + 2] W[n + 1] W[n] V[n + 1] V[n] <= nv W / nv V + 1 :=
  est_law (by rw [B_eq]; decide) (Nat.pow_pos B_pos) (nv_top3 hW) (nv_top2 hV) (nv_take_lt hWd n) (nv_take_lt hVd n) (hWd.get _ _) (hWd.get _ _) (hVd.get _ _) hn hlt
theorem shr_digit {u : List Nat} {s i : Nat} (hs : s < 32) (hi : i + 1 < u.length) (hd : Dig u) :
    (nv u / 2 ^ s) % B ^ (i + 1) = (nv u / 2 ^ s) % B ^ i + B ^ i * ((u[i + 1] * 4294967296 + u[i]) / 2 ^ s % 4294967296) := by
  have h1 : nv u = nv (u.take i) + B ^ i * (u[i] + B * (u[i + 1] + B * nv (u.drop (i + 2)))) := by
    have e := nv_split u i (by omega)
    rw [List.drop_eq_getElem_cons (show i < u.length by omega), List.drop_eq_getElem_cons (show i + 1 < u.length by omega)] at e
    exact e
  obtain ⟨c, hc⟩ : ∃ c, 2 ^ s * c = 4294967296 := ⟨2 ^ (32 - s), by rw [<- Nat.pow_add, show s + (32 - s) = 32 by omega]⟩
  have hp : 0 < 2 ^ s := Nat.two_pow_pos _
  have hlo := nv_take_lt hd i
  have hQ : 0 < B ^ i := Nat.pow_pos B_pos
  have hdiv : nv u / B ^ i = u[i] + B * (u[i + 1] + B * nv (u.drop (i + 2))) := by
    rw [h1, Nat.add_mul_div_left _ _ hQ, Nat.div_eq_of_lt hlo, Nat.zero_add]
  rw [Nat.pow_succ, Nat.mod_mul, Nat.div_div_eq_div_mul, Nat.mul_comm (2 ^ s), <- Nat.div_div_eq_div_mul, hdiv]
  have e : u[i] + B * (u[i + 1] + B * nv (u.drop (i + 2))) = (u[i + 1] * 4294967296 + u[i]) + 2 ^ s * (B * (c * nv (u.drop (i + 2)))) := by
    have e1 : 2 ^ s * (B * (c * nv (u.drop (i + 2)))) = B * (B * nv (u.drop (i + 2))) := by
      rw [Nat.mul_left_comm, <- Nat.mul_assoc (2 ^ s), hc, <- B_eq]
    rw [e1, Nat.mul_add, B_eq]
    omega
  rw [e, Nat.add_mul_div_left _ _ hp, Nat.add_mul_mod_self_left, <- B_eq]
def ShrInv (u o : List Nat) (s n i : Nat) : Prop := o.length = n /\ Dig o /\ nv (o.take i) = (nv u / 2 ^ s) % B ^ i
theorem ShrInv.start (u : List Nat) (s n : Nat) : ShrInv u (List.replicate n 0) s n 0 := ⟨by simp, Dig.zeros _, by simp [nv, Nat.mod_one]⟩
theorem ShrInv.step {u o : List Nat} {s n i x y : Nat} (h : ShrInv u o s n i) (hi : i < n) (hs : s < 32) (hu : i + 1 < u.length) (hd : Dig u) (hx : u[i + 1] = x) (hy : u[i] = y) : ShrInv u (o.set i ((x * 4294967296 + y) / 2 ^ s % 4294967296)) s n (i + 1) := by
  obtain ⟨h1, h2, h3⟩ := h
  refine ⟨by simpa using h1, h2.set _ _ (by rw [B_eq]; exact Nat.mod_lt _ (by decide)), ?_⟩
  rw [take_set_succ o i _ (by omega), nv_snoc, h3, shr_digit hs hu hd, hx, hy, List.length_take, Nat.min_eq_left (by omega)]
theorem ShrInv.done {u o : List Nat} {s n : Nat} (h : ShrInv u o s n n) (hlt : nv u / 2 ^ s < B ^ n) : nv o = nv u / 2 ^ s := by
  obtain ⟨h1, h2, h3⟩ := h
  rw [List.take_of_length_le (by omega), Nat.mod_eq_of_lt hlt] at h3
  exact h3
def DivInv (N : Nat) (V U Q : List Nat) (k : Nat) : Prop := Dig U /\ Dig Q /\ nv (U.drop k) < nv V /\ nv U + nv V * (B ^ k * nv (Q.drop k)) = N
theorem nv_drop_eq {U : List Nat} {j : Nat} (h : j < U.length) : nv (U.drop j) = U[j] + B * nv (U.drop (j + 1)) := by
  rw [List.drop_eq_getElem_cons h]; rfl
theorem DivInv.win {N : Nat} {V U Q : List Nat} {j n : Nat} (h : DivInv N V U Q (j + 1)) (hj : j + (n + 1) <= U.length) (hV : V.length = n) (hVd : Dig V) :
    ((U.drop j).take (n + 1)).length = n + 1 /\ Dig ((U.drop j).take (n + 1)) /\ nv ((U.drop j).take (n + 1)) < nv V * B /\ nv (U.drop (j + (n + 1))) = 0 /\ U = U.take j ++ (U.drop j).take (n + 1) ++ U.drop (j + (n + 1)) /\ nv U = nv (U.take j) + B ^ j * nv ((U.drop j).take (n + 1)) /\ (U.take j).length = j := by
  obtain ⟨h1, h2, h3, h4⟩ := h
  have e := nv_drop_eq (show j < U.length by omega)
  have hd := h1.get j (by omega)
  have hVl := nv_lt hVd
  rw [hV] at hVl
  have hlt : nv (U.drop j) < nv V * B := by
    rw [e]
    have : B * (nv (U.drop (j + 1)) + 1) <= B * nv V := Nat.mul_le_mul_left _ h3
    rw [Nat.mul_add, Nat.mul_one] at this
    rw [Nat.mul_comm (nv V)]
    omega
  have hlt2 : nv (U.drop j) < B ^ (n + 1) := by
    rw [Nat.pow_succ]
    exact Nat.lt_of_lt_of_le hlt (Nat.mul_le_mul_right _ (Nat.le_of_lt hVl))
  have ht := nv_take_of_lt hlt2
  have hsp := nv_split (U.drop j) (n + 1) (by simp; omega)
  rw [List.drop_drop] at hsp
  have hR : nv (U.drop (j + (n + 1))) = 0 := by
    by_cases h0 : nv (U.drop (j + (n + 1))) = 0
    · exact h0
    · have : B ^ (n + 1) * 1 <= B ^ (n + 1) * nv (U.drop (j + (n + 1))) := Nat.mul_le_mul_left _ (by omega)
      omega
  refine ⟨by simp; omega, (h1.drop j).take _, by rw [ht]; exact hlt, hR, ?_, ?_, by simp; omega⟩
  · rw [List.append_assoc]
    conv => lhs; rw [<- List.take_append_drop j U]
    congr 1
    rw [<- List.drop_drop, List.take_append_drop]
  · rw [ht]; exact nv_split U j (by omega)
theorem DivInv.next {N : Nat} {V U Q W' : List Nat} {j n : Nat} (h : DivInv N V U Q (j + 1)) (hj : j + (n + 1) <= U.length) (hjq : j < Q.length) (hV : V.length = n) (hVd : Dig V) (hW' : Dig W') (hl : W'.length = n + 1)
    (heq : nv W' = nv ((U.drop j).take (n + 1)) % nv V) : DivInv N V (U.take j ++ W' ++ U.drop (j + (n + 1))) (Q.set j (nv ((U.drop j).take (n + 1)) / nv V)) j /\ (U.take j ++ W' ++ U.drop (j + (n + 1))).length = U.length := by
  obtain ⟨w1, w2, w3, w4, w5, w6, w7⟩ := h.win hj hV hVd
  obtain ⟨h1, h2, h3, h4⟩ := h
  have hVp : 0 < nv V := by omega
  have hq : nv ((U.drop j).take (n + 1)) / nv V < B := by rw [Nat.div_lt_iff_lt_mul hVp, Nat.mul_comm]; exact w3
  have hdr : (U.take j ++ W' ++ U.drop (j + (n + 1))).drop j = W' ++ U.drop (j + (n + 1)) := by
    rw [List.append_assoc, List.drop_append_of_le_length (by omega), List.drop_of_length_le (by omega), List.nil_append]
  have hnd : nv ((U.take j ++ W' ++ U.drop (j + (n + 1))).drop j) = nv W' := by rw [hdr, nv_append, w4]; simp
  have hnu : nv (U.take j ++ W' ++ U.drop (j + (n + 1))) = nv (U.take j) + B ^ j * nv W' := by
    rw [List.append_assoc, nv_append, nv_append, w4, w7]; simp
  refine ⟨⟨((h1.take j).append hW').append (h1.drop _), h2.set _ _ hq, ?_, ?_⟩, by simp; omega⟩
  · rw [hnd, heq]; exact Nat.mod_lt _ hVp
  · have hQ : nv ((Q.set j (nv ((U.drop j).take (n + 1)) / nv V)).drop j) = nv ((U.drop j).take (n + 1)) / nv V + B * nv (Q.drop (j + 1)) := by
      rw [nv_drop_eq (by simpa using hjq), List.getElem_set_self, List.drop_set_of_lt (by omega)]
    rw [hnu, hQ, heq]
    rw [w6] at h4
    rw [Nat.pow_succ] at h4
    have e := Nat.div_add_mod (nv ((U.drop j).take (n + 1))) (nv V)
    generalize nv ((U.drop j).take (n + 1)) / nv V = q at *
    generalize nv ((U.drop j).take (n + 1)) % nv V = r at *
    generalize nv ((U.drop j).take (n + 1)) = x at *
    generalize nv (Q.drop (j + 1)) = y at *
    generalize B ^ j = p at *
    have e1 : nv V * (p * (q + B * y)) = p * (nv V * q) + nv V * (p * B * y) := by
      rw [Nat.mul_add, Nat.mul_add, Nat.mul_left_comm (nv V) p q, Nat.mul_assoc p B y]
    have e2 : p * x = p * (nv V * q) + p * r := by rw [<- e, Nat.mul_add]
    omega
theorem DivInv.done {N a b s : Nat} {V U Q : List Nat} (h : DivInv N V U Q 0) (hN : N = a * 2 ^ s) (hV : nv V = b * 2 ^ s) : nv Q = a / b /\ nv U / 2 ^ s = a % b /\ nv U < nv V := by
  obtain ⟨h1, h2, h3, h4⟩ := h
  simp only [List.drop_zero, Nat.pow_zero, Nat.one_mul] at h3 h4
  have hp : 0 < 2 ^ s := Nat.two_pow_pos s
  rw [hV] at h3 h4
  rw [hN] at h4
  have e : nv U = 2 ^ s * (nv U / 2 ^ s) := by
    have hm : nv U % 2 ^ s = 0 := by
      have : (nv U + b * 2 ^ s * nv Q) % 2 ^ s = 0 := by rw [h4]; exact Nat.mul_mod_left _ _
      rw [Nat.mul_right_comm, Nat.add_mul_mod_self_right] at this
      exact this
    have := Nat.div_add_mod (nv U) (2 ^ s)
    omega
  have hr : nv U / 2 ^ s < b := by rw [Nat.div_lt_iff_lt_mul hp]; exact h3
  have hsum : a = b * nv Q + nv U / 2 ^ s := by
    have : a * 2 ^ s = (b * nv Q + nv U / 2 ^ s) * 2 ^ s := by
      have e2 : b * nv Q * 2 ^ s = b * 2 ^ s * nv Q := Nat.mul_right_comm _ _ _
      rw [<- h4, Nat.add_mul, e2, Nat.mul_comm (nv U / 2 ^ s)]
      omega
    exact Nat.eq_of_mul_eq_mul_right hp this
  have hb : 0 < b := Nat.lt_of_le_of_lt (Nat.zero_le _) hr
  refine ⟨?_, ?_, by rw [hV]; exact h3⟩
  · conv => rhs; rw [hsum, Nat.mul_add_div hb, Nat.div_eq_of_lt hr, Nat.add_zero]
  · conv => rhs; rw [hsum, Nat.mul_add_mod, Nat.mod_eq_of_lt hr]
theorem DivInv.start {a s n m : Nat} {V U : List Nat} (hU : Dig U) (hUl : U.length = m + 1 + n) (hn : 0 < n) (hUv : nv U = a * 2 ^ s) (htop : U.getD (m + n) 0 < 2 ^ s) (hs : s < 32) (hV : V.length = n) (hVt : B <= 2 * V.getD (n - 1) 0) :
    DivInv (a * 2 ^ s) V U (List.replicate (m + 1) 0) (m + 1) := by
  refine ⟨hU, Dig.zeros _, ?_, ?_⟩
  · have h1 : (U.drop (m + 1)).length = n := by simp; omega
    have h2 := nv_split (U.drop (m + 1)) (n - 1) (by omega)
    have h3 := nv_split V (n - 1) (by omega)
    have h4 := nv_take_lt (hU.drop (m + 1)) (n - 1)
    have e1 : (U.drop (m + 1)).drop (n - 1) = [U.getD (m + n) 0] := by
      rw [List.drop_drop, List.drop_eq_getElem_cons (by omega), List.drop_of_length_le (by omega), getD_of_lt (by omega)]
      congr 2; omega
    have e2 : V.drop (n - 1) = [V.getD (n - 1) 0] := by
      rw [List.drop_eq_getElem_cons (by omega), List.drop_of_length_le (by omega), getD_of_lt (by omega)]
    rw [e1] at h2
    rw [e2] at h3
    simp only [nv, Nat.mul_zero, Nat.add_zero] at h2 h3
    have hp : (2 : Nat) ^ s <= 2 ^ 31 := Nat.pow_le_pow_right (by omega) (by omega)
    rw [B_eq] at hVt
    have : B ^ (n - 1) * (U.getD (m + n) 0 + 1) <= B ^ (n - 1) * V.getD (n - 1) 0 := Nat.mul_le_mul_left _ (by omega)
    rw [Nat.mul_add, Nat.mul_one] at this
    omega
  · rw [List.drop_of_length_le (by simp)]; simpa [nv] using hUv
theorem digit_found {x c W V W' : Nat} {e : Nat} (hV : 0 < V) (h1 : W / V <= x) (h2 : x <= W / V + 1) (hW' : (c = 0 /\ W' + x * V = W) \/ (c = 1 /\ W < x * V /\ W' + x * V = W + e)) :
    (c = 0 -> x = W / V /\ W' = W % V) /\ (c = 1 -> 1 <= x /\ x - 1 = W / V /\ W' + V = W % V + e) := by
  have hd := Nat.div_add_mod W V
  have hm := Nat.mod_lt W hV
  generalize W / V = q at *
  generalize W % V = r at *
  refine ⟨fun h => ?_, fun h => ?_⟩
  · rcases hW' with ⟨_, h3⟩ | ⟨h4, _⟩
    · rcases (by omega : x = q \/ x = q + 1) with rfl | rfl
      · refine ⟨rfl, ?_⟩; rw [Nat.mul_comm] at hd; omega
      · rw [Nat.succ_mul, Nat.mul_comm q] at h3; omega
    · omega
  · rcases hW' with ⟨h4, _⟩ | ⟨_, h3, h5⟩
    · omega
    · rcases (by omega : x = q \/ x = q + 1) with rfl | rfl
      · rw [Nat.mul_comm] at hd; omega
      · refine ⟨by omega, by omega, ?_⟩
        rw [Nat.succ_mul, Nat.mul_comm q] at h5; omega
theorem div_norm {b V : List Nat} {n t s : Nat} (hb : Dig b) (hbl : b.length = n) (hn : 0 < n) (ht : b.getD (n - 1) 0 = t) (hs : s < 32) (h1 : 4294967296 <= 2 * (t * 2 ^ s)) (h2 : t * 2 ^ s < 4294967296) (hV : Canon V (nv b * 2 ^ s)) : V.length = n /\ B <= 2 * V.getD (n - 1) 0 := by
  have h3 := nv_split b (n - 1) (by omega)
  have h4 := nv_take_lt hb (n - 1)
  have e2 : b.drop (n - 1) = [t] := by
    rw [List.drop_eq_getElem_cons (by omega), List.drop_of_length_le (by omega), <- ht, getD_of_lt (by omega)]
  rw [e2] at h3
  simp only [nv, Nat.mul_zero, Nat.add_zero] at h3
  have hpow : B ^ n = B ^ (n - 1) * B := by rw [<- Nat.pow_succ]; congr 1; omega
  have hQ : 0 < B ^ (n - 1) := Nat.pow_pos B_pos
  have hc : 2 ^ s * 2 ^ (32 - s) = 4294967296 := by rw [<- Nat.pow_add, show s + (32 - s) = 32 by omega]
  have hp : 0 < 2 ^ s := Nat.two_pow_pos _
  have htt : (t + 1) * 2 ^ s <= B := by
    have : t < 2 ^ (32 - s) := by
      have : 2 ^ s * t < 2 ^ s * 2 ^ (32 - s) := by rw [hc, Nat.mul_comm]; exact h2
      exact Nat.lt_of_mul_lt_mul_left this
    have : 2 ^ s * (t + 1) <= 2 ^ s * 2 ^ (32 - s) := Nat.mul_le_mul_left _ this
    rw [hc, Nat.mul_comm] at this
    rw [B_eq]; exact this
  have hN : nv b * 2 ^ s = nv (b.take (n - 1)) * 2 ^ s + B ^ (n - 1) * (t * 2 ^ s) := by rw [h3, Nat.add_mul, Nat.mul_assoc]
  have hup : nv b * 2 ^ s < B ^ n := by
    have e1 : nv (b.take (n - 1)) * 2 ^ s < B ^ (n - 1) * 2 ^ s := Nat.mul_lt_mul_of_pos_right h4 hp
    have e3 : B ^ (n - 1) * ((t + 1) * 2 ^ s) <= B ^ (n - 1) * B := Nat.mul_le_mul_left _ htt
    rw [Nat.add_mul, Nat.one_mul, Nat.mul_add] at e3
    rw [hpow, hN]; omega
  have hlo : B ^ (n - 1) * (t * 2 ^ s) <= nv b * 2 ^ s := by rw [hN]; omega
  have hl1 : V.length <= n := by rw [hV.len]; exact lg_le.2 hup
  have hl2 : ¬ V.length <= n - 1 := by
    rw [hV.len, lg_le]
    have : B ^ (n - 1) * 1 <= B ^ (n - 1) * (t * 2 ^ s) := Nat.mul_le_mul_left _ (by omega)
    omega
  have hl : V.length = n := by omega
  refine ⟨hl, ?_⟩
  have g3 := nv_split V (n - 1) (by omega)
  have g4 := nv_take_lt hV.1 (n - 1)
  have g2 : V.drop (n - 1) = [V.getD (n - 1) 0] := by
    rw [List.drop_eq_getElem_cons (by omega), List.drop_of_length_le (by omega), getD_of_lt (by omega)]
  rw [g2] at g3
  simp only [nv, Nat.mul_zero, Nat.add_zero] at g3
  rw [hV.2.2] at g3
  have : B ^ (n - 1) * (t * 2 ^ s) < B ^ (n - 1) * (V.getD (n - 1) 0 + 1) := by rw [Nat.mul_add, Nat.mul_one]; omega
  have := Nat.lt_of_mul_lt_mul_left this
  rw [B_eq]; omega
theorem est_ok2 {W V : List Nat} {n : Nat} (hW : W.length = n + 1) (hV : V.length = n) (hn2 : 2 <= n) (hWd : Dig W) (hVd : Dig V) (hn : B <= 2 * V.getD (n - 1) 0) (hlt : nv W < nv V * B) :
    W.getD n 0 <= V.getD (n - 1) 0 /\ nv W / nv V <= estB B (W.getD n 0) (W.getD (n - 1) 0) (W.getD (n - 2) 0) (V.getD (n - 1) 0) (V.getD (n - 2) 0) /\ estB B (W.getD n 0) (W.getD (n - 1) 0) (W.getD (n - 2) 0) (V.getD (n - 1) 0) (V.getD (n - 2) 0) <= nv W / nv V + 1 := by
  obtain ⟨p, rfl⟩ : ∃ p, n = p + 2 := ⟨n - 2, by omega⟩
  rw [show p + 2 - 1 = p + 1 from rfl, show p + 2 - 2 = p from rfl] at *
  rw [getD_of_lt (l := V) (i := p + 1) (by omega)] at hn
  rw [getD_of_lt (l := W) (i := p + 2) (by omega), getD_of_lt (l := W) (i := p + 1) (by omega), getD_of_lt (l := W) (i := p) (by omega), getD_of_lt (l := V) (i := p + 1) (by omega), getD_of_lt (l := V) (i := p) (by omega)]
  exact est_ok hW hV hWd hVd hn hlt
theorem estB_lt {u2 u1 u0 v1 v0 : Nat} : estB B u2 u1 u0 v1 v0 < 4294967296 := by unfold estB; rw [B_eq]; omega
theorem win_getD {U : List Nat} {j n i : Nat} (hi : i <= n) : ((U.drop j).take (n + 1)).getD i 0 = U.getD (j + i) 0 := by
  simp only [List.getD_eq_getElem?_getD, List.getElem?_take_of_lt (Nat.lt_succ_of_le hi), List.getElem?_drop]
theorem restored {V o o2 : List Nat} {W n c : Nat} (_hVd : Dig V) (_hV : V.length = n) (hV0 : 0 < nv V) (h1 : nv o + nv V = W % nv V + B ^ (n + 1)) (h2 : nv o2 + B ^ (n + 1) * c = nv o + nv V) (hc : c <= 1) (ho : Dig o2) (hl : o2.length = n + 1) : nv o2 = W % nv V := by
  have h3 := nv_lt ho
  rw [hl] at h3
  have h4 := Nat.mod_lt W hV0
  have h6 : B ^ n <= B ^ (n + 1) := Nat.pow_le_pow_right B_pos (by omega)
  rcases (by omega : c = 0 \/ c = 1) with rfl | rfl
  · omega
  · omega
end Go.Lim
namespace Go.Proofs.YtnnpfhoigmegcaaGreat
open Go.RowKit Go.Rep Go.Lim
theorem bits_or_u32_nat (a b : Nat) (ha : a < 4294967296) (hb : b < 4294967296) : bits .or .u32 (a : Int) (b : Int) = ((a ||| b : Nat) : Int) := by
  have hx : a ||| b < 2 ^ 32 := Nat.or_lt_two_pow (by omega) (by omega)
  have h1 : (BitVec.ofInt 32 (a : Int)).toNat = a := by
    rw [BitVec.ofInt_natCast, BitVec.toNat_ofNat]; exact Nat.mod_eq_of_lt (by omega)
  have h2 : (BitVec.ofInt 32 (b : Int)).toNat = b := by
    rw [BitVec.ofInt_natCast, BitVec.toNat_ofNat]; exact Nat.mod_eq_of_lt (by omega)
  show IntKind.u32.wrap ((BitVec.ofInt 32 (a : Int) ||| BitVec.ofInt 32 (b : Int)).toNat : Int) = _
  rw [BitVec.toNat_or, h1, h2, IntKind.wrap_u32]
  omega
theorem bits_xor_u32_nat (a b : Nat) (ha : a < 4294967296) (hb : b < 4294967296) : bits .xor .u32 (a : Int) (b : Int) = ((a ^^^ b : Nat) : Int) := by
  have hx : a ^^^ b < 2 ^ 32 := Nat.xor_lt_two_pow (by omega) (by omega)
  have h1 : (BitVec.ofInt 32 (a : Int)).toNat = a := by
    rw [BitVec.ofInt_natCast, BitVec.toNat_ofNat]; exact Nat.mod_eq_of_lt (by omega)
  have h2 : (BitVec.ofInt 32 (b : Int)).toNat = b := by
    rw [BitVec.ofInt_natCast, BitVec.toNat_ofNat]; exact Nat.mod_eq_of_lt (by omega)
  show IntKind.u32.wrap ((BitVec.ofInt 32 (a : Int) ^^^ BitVec.ofInt 32 (b : Int)).toNat : Int) = _
  rw [BitVec.toNat_xor, h1, h2, IntKind.wrap_u32]
  omega
theorem bits_and_u32_nat (a b : Nat) (ha : a < 4294967296) (hb : b < 4294967296) : bits .and .u32 (a : Int) (b : Int) = ((a &&& b : Nat) : Int) := by
  have hx : a &&& b < 2 ^ 32 := Nat.and_lt_two_pow _ (by omega)
  have h1 : (BitVec.ofInt 32 (a : Int)).toNat = a := by
    rw [BitVec.ofInt_natCast, BitVec.toNat_ofNat]; exact Nat.mod_eq_of_lt (by omega)
  have h2 : (BitVec.ofInt 32 (b : Int)).toNat = b := by
    rw [BitVec.ofInt_natCast, BitVec.toNat_ofNat]; exact Nat.mod_eq_of_lt (by omega)
  show IntKind.u32.wrap ((BitVec.ofInt 32 (a : Int) &&& BitVec.ofInt 32 (b : Int)).toNat : Int) = _
  rw [BitVec.toNat_and, h1, h2, IntKind.wrap_u32]
  omega
theorem top_bit (n : Nat) (h : n < 4294967296) : n / 2147483648 = (n.testBit 31).toNat := by
  rw [Nat.testBit_eq_decide_div_mod_eq, show (2 : Nat) ^ 31 = 2147483648 from rfl]
  by_cases h1 : n / 2147483648 % 2 = 1
  · rw [decide_eq_true h1]; simp; omega
  · rw [decide_eq_false h1]; simp; omega
theorem top_not (n : Nat) : (4294967295 ^^^ n).testBit 31 = !n.testBit 31 := by
  rw [Nat.testBit_xor, show (4294967295 : Nat) = 2 ^ 32 - 1 from rfl, Nat.testBit_two_pow_sub_one]
  cases n.testBit 31 <;> rfl
theorem borrow_eq (x y d c : Nat) (hx : x < 4294967296) (hy : y < 4294967296) (hc : c <= 1) (hd : d = subD x y c) :
    (((4294967295 ^^^ x) &&& y) ||| ((4294967295 ^^^ (x ^^^ y)) &&& d)) / 2147483648 = subC x y c := by
  have hdl : d < 4294967296 := by rw [hd]; unfold subD; omega
  have h1 : (4294967295 ^^^ x) &&& y < 4294967296 := Nat.and_lt_two_pow (n := 32) _ hy
  have h2 : (4294967295 ^^^ (x ^^^ y)) &&& d < 4294967296 := Nat.and_lt_two_pow (n := 32) _ hdl
  rw [top_bit _ (Nat.or_lt_two_pow (n := 32) h1 h2), Nat.testBit_or, Nat.testBit_and, Nat.testBit_and, top_not x, top_not, Nat.testBit_xor]
  have e1 := top_bit x hx
  have e2 := top_bit y hy
  have e3 := top_bit d hdl
  rw [hd] at e3 |-
  unfold subC
  unfold subD at *
  cases hbx : x.testBit 31 <;> cases hby : y.testBit 31 <;> cases hbd : ((x + 4294967296 - y - c) % 4294967296).testBit 31 <;> simp [hbx, hby, hbd] at e1 e2 e3 |- <;> omega
theorem sub32_any (x y c : Nat) (w : World) (hx : x < 4294967296) (hy : y < 4294967296) (hc : c <= 1) :
    Calls Tryz.prog 334 #[.int .u32 x, .int .u32 y, .int .u32 c] w fun e w' => w = w' /\ e = .returned (.tuple #[.int .u32 (subD x y c : Nat), .int .u32 (subC x y c : Nat)]) := by
  have hb := hid (borrow_eq x y (subD x y c) c hx hy hc rfl)
  go_enter Tryz.func334, Tryz.ntmps334
  go_wp2_with fail
  go_ret2
  refine ⟨rfl, ?_⟩
  have hxy : x ^^^ y < 4294967296 := Nat.xor_lt_two_pow (n := 32) hx hy
  have hn : ∀ n : Nat, n < 4294967296 -> 4294967295 ^^^ n < 4294967296 := fun n h => Nat.xor_lt_two_pow (n := 32) (by omega) h
  have hm : IntKind.u32.max = ((4294967295 : Nat) : Int) := rfl
  have hd : ((x : Int) - y - c) % 4294967296 = (subD x y c : Nat) := by unfold subD; omega
  have hdl : subD x y c < 4294967296 := by unfold subD; omega
  rw [hm, hd, bits_xor_u32_nat _ _ (by decide) hx, bits_xor_u32_nat _ _ hx hy, bits_xor_u32_nat _ _ (by decide) hxy, bits_and_u32_nat _ _ (hn _ hx) hy, bits_and_u32_nat _ _ (hn _ hxy) hdl,
    bits_or_u32_nat _ _ (Nat.and_lt_two_pow (n := 32) _ hy) (Nat.and_lt_two_pow (n := 32) _ hdl)]
  have h2 : ((((4294967295 ^^^ x) &&& y ||| (4294967295 ^^^ (x ^^^ y)) &&& subD x y c : Nat) : Int) / 2147483648) = (subC x y c : Nat) := by rw [<- hb.out]; rfl
  simp [h2]
end Go.Proofs.YtnnpfhoigmegcaaGreat
namespace Go.Rep
open Go.RowKit Go.Lim
def LeafR : Mem -> Value -> Leaf -> Prop := fun h u x => ∃ a1 c1 a2 c2, u = .agg #[.slice a1 x.1.length c1, .slice a2 x.2.length c2] /\ x.1.length <= c1 /\ x.2.length <= c2 /\ Sl (IntIn .i64) 1 h a1 x.1 /\ Sl (IntIn .i64) 1 h a2 x.2
theorem LeafR.mono : Mono LeafR := by
  rintro h h' u x hl ⟨a1, c1, a2, c2, rfl, h1, h2, h3, h4⟩
  exact ⟨a1, c1, a2, c2, rfl, h1, h2, h3.mono (IntIn.mono _) hl, h4.mono (IntIn.mono _) hl⟩
theorem LeafR.elem : Elem LeafR 2 := ⟨LeafR.mono, by rintro h u x ⟨a1, c1, a2, c2, rfl, _⟩; rfl, by
  rintro h u x ⟨a1, c1, a2, c2, rfl, _⟩ c hc
  simp [cellsL, Value.cells] at hc
  rcases hc with rfl | rfl <;> rfl, by decide⟩
theorem Sl.leaf {X : Nat -> Bool} {w : World} {ao : Option Addr} {l : List Leaf} (s : Sl LeafR 2 (mk X w) ao l) (i : Nat) (hi : i < l.length) :
    ∃ a1 c1 a2 c2, w.cell? (adr ao (i * 2)) = some (.slice a1 l[i].1.length c1) /\ w.cell? (adr ao (i * 2 + 1)) = some (.slice a2 l[i].2.length c2) /\ l[i].1.length <= c1 /\ l[i].2.length <= c2 /\ Sl (IntIn .i64) 1 (mk X w) a1 l[i].1 /\ Sl (IntIn .i64) 1 (mk X w) a2 l[i].2 := by
  obtain ⟨u, h1, h2, a1, c1, a2, c2, rfl, h3, h4, h5, h6⟩ := s.2 i hi
  exact ⟨a1, c1, a2, c2, mk_cell (h2 0 (by simp [Value.cells])), mk_cell (h2 1 (by simp [Value.cells])), h3, h4, h5, h6⟩
theorem Sl.unstep {α : Type} {R : Mem -> Value -> α -> Prop} (hR : Mono R) {sz : Nat} {X : Nat -> Bool} {w w' : World} {oo oo' ao : Option Addr} {l : List α} (s : Sl R sz (mk (un X oo) w) ao l) (hE : ExtX (ob oo) w w') (ho : oo' = oo \/ ∃ g, oo' = some ⟨g, 0, none⟩ /\ w.heap.size <= g) : Sl R sz (mk (un X oo') w') ao l :=
  s.mono hR (mkun_over hE ho)
theorem Sl.unX {α : Type} {R : Mem -> Value -> α -> Prop} (hR : Mono R) {sz : Nat} {X : Nat -> Bool} {w : World} {oo ao : Option Addr} {l : List α} (s : Sl R sz (mk (un X oo) w) ao l) : Sl R sz (mk X w) ao l :=
  s.mono hR (mk_sub fun _ _ hk => un_left hk)
theorem Sl.old {α : Type} {R : Mem -> Value -> α -> Prop} (hR : Mono R) {sz : Nat} {X : Nat -> Bool} {w w' : World} {oo ao : Option Addr} {l : List α} (s : Sl R sz (mk X w) ao l) (hE : Ext w w') (hb : ∀ j, j < w.heap.size -> ob oo j = false) : Sl R sz (mk (un X oo) w') ao l :=
  s.mono hR (mk_over hE (fun k _ hk => by simp [noY] at hk) fun j hk hz => by simpa [un, hb j hk] using hz)
def StructT (P : Program) (t sz : Nat) : Prop := ∃ fs ti, P.underlying t = some (.struct fs) /\ P.info? t = some ti /\ ti.size = sz
section
variable {P : Program} {ops : Array Oper} {Q : Exit -> Act -> World -> Prop} {rest : List Oper} {a : Act} {w : World}
variable {α : Type} {R : Mem -> Value -> α -> Prop} {sz : Nat} {X : Nat -> Bool} {ao : Option Addr} {l : List α}
variable {d : Option Tmp} {ty : TypeId} {ps : String} {af : Array Edge}
theorem st_loadElem {t : TypeId} {x : Operand} {k : Nat} (hT : StructT P t sz) (i : Nat) (hs : Sl R sz (mk X w) ao l) (hi : i < l.length) (hx : a.eval x = .pointer (some (adr ao k))) (hk : k = i * sz) (hag : ∀ h u y, R h u y -> ∃ cs, u = .agg cs)
    (K : ∀ u, R (mk X w) u l[i] -> wpList P ops Q rest (a.put d u) w) :
    wpList P ops Q (⟨d, .load t x, ty, ps, af, none⟩ :: rest) a w := by
  refine wpList_plain rfl fun K' hK' => ?_
  subst hk
  obtain ⟨fs, ti, h1, h2, h3⟩ := hT
  obtain ⟨u, h4, h5, h6⟩ := hs.2 i hi
  obtain ⟨cs, rfl⟩ := hag _ _ _ h6
  have hl := run_loadCells_list (P := P) w (adr ao (i * sz)) cs.toList (fun j v hj => by
    rw [adr_add]
    obtain ⟨hj1, hj2⟩ := List.getElem?_eq_some_iff.1 hj
    have := mk_cell (h5 j (by simpa [Value.cells] using hj1))
    rw [this]
    simp [Value.cells] at hj2 |-
    exact hj2)
  have hsz : cs.toList.length = sz := by simpa [Value.cells] using h4
  rw [hsz] at hl
  unfold Oper.wp
  simp [execOp, hx, Instr.loadAt, Instr.sureAddr, loadVar, isAgg, run_underlying h1, sizeOf, typeInfo, h2, h3, hl, Result.andThen]
  exact hK' _ _ (K _ h6)
end
theorem LeafR.agg : ∀ h u y, LeafR h u y -> ∃ cs, u = .agg cs := by rintro h u y ⟨a1, c1, a2, c2, rfl, _⟩; exact ⟨_, rfl⟩
theorem OL.ob_ge {α : Type} {R : Mem -> Value -> α -> Prop} {sz : Nat} {X : Nat -> Bool} {base : Nat} {e : TypeId} {w : World} {ao : Option Addr} {cap : Nat} {l : List α} (h : OL R sz X base e w ao cap l) {k : Nat} (hk : w.heap.size <= k) : ob ao k = false := by
  cases hb : ob ao k
  · rfl
  · have := h.block hb; omega
theorem st_append1n {P : Program} {ops : Array Oper} {Q : Exit -> Act -> World -> Prop} {rest : List Oper} {a : Act} {w : World} {α : Type} {R : Mem -> Value -> α -> Prop} {sz : Nat} {X : Nat -> Bool} {base : Nat} {e : TypeId} {ao : Option Addr} {cap : Nat} {l : List α} {d : Option Tmp} {ty : TypeId} {ps : String} {af : Array Edge}
    {t by_ : Nat} {z : Value} {arr : Array Value} {s x : Operand} (T : SliceT P t e sz by_ z) (hzs : z.cells.size = sz) (hR : Elem R sz) (hbase : base <= w.heap.size) (hX : ∀ k, X k = true -> k < w.heap.size) (n : Nat) (hn : l.length = n)
    (hs : a.eval s = .slice ao n cap) (hx : a.eval x = .slice (some ⟨w.heap.size, 0, none⟩) 1 1) (h : OL R sz X base e w ao cap l)
    (u : Value) (y : α) (harr : arr = u.cells) (hu : R (mk (un X ao) w) u y) (hroom : (n + 1) * by_ <= 140737488355328) (hmax : n + 1 <= 9223372036854775807)
    (K : ∀ ao' cap' w', OL R sz X base e w' ao' cap' (l ++ [y]) -> ExtX (ob ao) w w' -> (ao' = ao \/ ∃ g, ao' = some ⟨g, 0, none⟩ /\ w.heap.size <= g) -> wpList P ops Q rest (a.put d (.slice ao' (n + 1) cap')) w') :
    wpList P ops Q (⟨d, .call { callee := .builtin .append, args := #[s, x], argTypes := #[t, t] }, ty, ps, af, none⟩ :: rest) a (w.alloc (.cells arr e)) := by
  subst hn
  exact st_append1 T hzs hR hbase hX hs hx h u y harr hu hroom hmax fun ao' cap' w' h1 h2 h3 => by
    have := K ao' cap' w' h1 h2 h3
    rwa [show l.length + 1 = (l ++ [y]).length from by simp] at this
end Go.Rep
namespace Go.Proofs.YtnnpfhoigmegcaaGreat
open Go.RowKit Go.Rep Go.Lim
def QuietOut (w : World) (k : IntKind) (n : Nat) (e : Ending) (w' : World) : Prop := e = .returned (.int k n) /\ ∃ m, w' = w.drewN m
theorem or_shl32 (a b : Nat) (ha : a < 4294967296) (hb : b < 4294967296) : bits BinOp.or IntKind.u64 ((a : Int) * 4294967296) (b : Int) = (a : Int) * 4294967296 + b := by
  have e := bits_or_u64_nat (a * 4294967296) b (by omega) (by omega)
  have e2 := Nat.two_pow_add_eq_or_of_lt (i := 32) (b := b) (by omega) a
  rw [Nat.mul_comm] at e2
  rw [<- e2] at e
  simpa using e
set_option maxRecDepth 100000 in
set_option maxHeartbeats 400000 in
theorem guess_any (u2 u1 u0 v1 v0 : Nat) (w : World) (hv : 2147483648 <= v1) (hv1 : v1 < 4294967296) (h2 : u2 <= v1) (h1 : u1 < 4294967296) (h0 : u0 < 4294967296) (hv0 : v0 < 4294967296) :
    Calls Tryz.prog 331 #[.int .u32 u2, .int .u32 u1, .int .u32 u0, .int .u32 v1, .int .u32 v0] w (QuietOut w .u64 (estB B u2 u1 u0 v1 v0)) := by
  have t1 : ((v1 : Int) == 0) = false := beqF (by omega)
  have t2 : ((v1 : Int) != 0) = true := bneT (by omega)
  have hor := or_shl32 u2 u1 (by omega) h1
  have hBe := hid B_eq
  have hst : Hid (GInvB B u2 u1 u0 v1 v0 ((u2 * 4294967296 + u1) / v1) ((u2 * 4294967296 + u1) % v1)) := hid (by
    have := GInvB.start (b := B) (u0 := u0) (v0 := v0) (by rw [B_eq]; omega) (by rw [B_eq]; omega) h2 (by rw [B_eq]; exact h1) (by rw [B_eq]; exact h0)
    rwa [B_eq] at this |-)
  go_enter Tryz.func331, Tryz.ntmps331
  go_wp2_with fail
  go_quiet (fail)
  go_wp2_with fail
  go_loop [12, 13] (fun x y => ∃ (q r : Nat), x = .int .u64 q /\ y = .int .u64 r /\ Hid (GInvB B u2 u1 u0 v1 v0 q r)) (fun x _ => (intOf x).toNat)
  case atStart => exact ⟨_, _, by rw [Int.natCast_ediv]; simp, by rw [Int.natCast_emod]; simp, hst⟩
  case round =>
    obtain ⟨q, r, rfl, rfl, hinv⟩ := hrel
    have hq : q <= 4294967297 := by have := hinv.out.2.2; rw [hBe.out] at this; exact this
    clear hor t1 t2 hst
    have hqI : (q : Int) <= 4294967297 := by omega
    by_cases hr : (r : Int) < 4294967296
    · have hor := or_shl32 r u0 (by omega) h0
      by_cases hqb : 4294967296 <= q
      · obtain ⟨hq1, hinv2⟩ := hinv.out.more (by rw [hBe.out]; omega) (.inl (by rw [hBe.out]; exact hqb)) (by omega)
        have hi2 := hid hinv2
        have hqbI : (4294967296 : Int) <= (q : Int) := by omega
        clear hinv2 hqb hq
        go_wp2_with fail
        go_round
        case rel => exact ⟨q - 1, r + v1, by rw [Int.natCast_sub hq1]; rfl, rfl, hi2⟩
        case measure => simp [intOf]; omega
      · have hm : q * v0 <= 4294967295 * 4294967295 := Nat.mul_le_mul (by omega) (by omega)
        have hw1 : IntKind.u64.wrap ((q : Int) * (v0 : Int)) = (q : Int) * (v0 : Int) := IntWalk.u64_in _ (by rw [<- Int.natCast_mul]; omega)
        have hqv0 : (0 : Int) <= (q : Int) * (v0 : Int) := Int.mul_nonneg (by omega) (by omega)
        by_cases hc : r * 4294967296 + u0 < q * v0
        · obtain ⟨hq1, hinv2⟩ := hinv.out.more (by rw [hBe.out]; omega) (.inr (by rw [hBe.out]; exact hc)) (by omega)
          have hi2 := hid hinv2
          have ht : decide ((r : Int) * 4294967296 + (u0 : Int) < (q : Int) * (v0 : Int)) = true := by rw [decide_eq_true_eq, <- Int.natCast_mul]; omega
          have hqbI : (q : Int) < 4294967296 := by omega
          clear hinv2 hm hc hqb hq
          go_wp2_with fail
          go_round
          case rel => exact ⟨q - 1, r + v1, by rw [Int.natCast_sub hq1]; rfl, rfl, hi2⟩
          case measure => simp [intOf]; omega
        · have hqbI : (q : Int) < 4294967296 := by omega
          have hfin := hid (hinv.out.less (by rw [hBe.out]; omega) (by rw [hBe.out]; omega) h2 (by rw [hBe.out]; exact h1) (by rw [hBe.out]; exact hv0) (.inr ⟨by rw [hBe.out]; omega, by rw [hBe.out]; omega⟩))
          have ht : decide ((r : Int) * 4294967296 + (u0 : Int) < (q : Int) * (v0 : Int)) = false := by rw [decide_eq_false_iff_not, <- Int.natCast_mul]; omega
          have hqbJ : decide ((4294967296 : Int) <= (q : Int)) = false := decide_eq_false (by omega)
          have h0I : (u0 : Int) < 4294967296 := by omega
          have hv0I : (v0 : Int) < 4294967296 := by omega
          clear hm hc hqb hq hv hv1 h2 h1 h0 hv0
          go_wp2_with fail
          go_ret
          exact ⟨ret_int (congrArg Nat.cast hfin.out), _, rfl⟩
    · have hfin := hid (hinv.out.less (by rw [hBe.out]; omega) (by rw [hBe.out]; omega) h2 (by rw [hBe.out]; exact h1) (by rw [hBe.out]; exact hv0) (.inl (by rw [hBe.out]; omega)))
      clear hq hv hv1 h2 h1 h0 hv0
      go_wp2_with fail
      go_ret
      exact ⟨ret_int (congrArg Nat.cast hfin.out), _, rfl⟩
set_option maxRecDepth 100000 in
theorem shifted_any (X : Nat -> Bool) (ao : Option Addr) (l : List Nat) (cap s : Nat) (w : World) (hs : Sl (NatIn .u32) 1 (mk X w) ao l) (hd : Dig l) (hl : l.length <= 1099511627776) (hsh : s < 32) (hX : ∀ k, X k = true -> k < w.heap.size) :
    Calls Tryz.prog 330 #[.slice ao l.length cap, .int .i64 s] w (fun e w' => Ext w w' /\ ∃ oo o, e = .returned (.slice oo o.length o.length) /\ OL (NatIn .u32) 1 X w.heap.size 110 w' oo o.length o /\ Hid (o.length = l.length + 1 /\ Dig o /\ o.getD l.length 0 < 2 ^ s /\ nv o = nv l * 2 ^ s)) := by
  have hh := hs.hd
  go_enter Tryz.func330, Tryz.ntmps330
  go_wp2_with (at_make; refine st_make slU32 (NatIn.elem .u32) 0 (fun _ => rfl) X hX w.heap.size (Nat.le_refl _) (l.length + 1) rfl rfl (by omega) (by omega) (by omega) ?_; intro oo w1 hO hE1)
  go_loopw [15] (fun c wr => ∃ (k : Nat) (o : List Nat), c = .int .i64 k /\ k <= l.length /\ Hid (ShInv l o s k) /\ Hid (o.length = l.length + 1) /\ OL (NatIn .u32) 1 X w.heap.size 110 wr oo (l.length + 1) o /\ Ext w wr) (fun c _ => l.length - (intOf c).toNat)
  case atStart => exact ⟨0, _, rfl, by omega, hid (ShInv.start l s), hid (by simp), hO, hE1⟩
  case round =>
    obtain ⟨k, o, rfl, hk, hinv, hol, hOr, hEr⟩ := hrel
    clear hO hE1
    have hho : Hd oo (l.length + 1) := hol.out ▸ hOr.hd
    by_cases hlt : k < l.length
    · have hca := (hs.mono (NatIn.mono _) (mk_ext hEr)).nat k hlt
      have hko : k < o.length := by rw [hol.out]; omega
      have hco := (hOr.sl (NatIn.elem _)).nat k hko
      obtain ⟨x, hx⟩ : ∃ x, l[k] = x := ⟨_, rfl⟩
      obtain ⟨lo, hlo⟩ : ∃ lo, o[k] = lo := ⟨_, rfl⟩
      obtain ⟨hst, b1, b2, b3⟩ := hinv.out.step (lo := lo) hlt hx ((getD_of_lt hko).trans hlo) hd hsh
      have hxB := hd.get k hlt
      rw [hx, B_eq] at hxB
      rw [hx] at hca
      rw [hlo] at hco
      have hloB := hinv.out.2.1.get k hko
      rw [hlo, B_eq] at hloB
      obtain ⟨p, hp⟩ : ∃ p, x * 2 ^ s = p := ⟨_, rfl⟩
      rw [hp] at hst b1 b2 b3
      have hst' := hid hst
      have hw : IntKind.u64.wrap ((x : Int) * 2 ^ s) = (p : Int) := by
        have e : (x : Int) * 2 ^ s = (p : Int) := by rw [<- hp]; simp
        rw [e]; exact IntWalk.u64_in _ (by omega)
      have hor : bits BinOp.or IntKind.u32 (lo : Int) ((p : Int) % 4294967296) = ((lo ||| p % 4294967296 : Nat) : Int) := by
        have := bits_or_u32_nat lo (p % 4294967296) hloB (Nat.mod_lt _ (by decide))
        simpa using this
      have hdv := hid b3
      clear hx hlo hinv hp hst b1 b2 b3
      go_wp2_with (first | (with_reducible refine up_ix1 slU32 (by omega) (by assumption) ?_) | ((with_reducible show wpList _ _ _ (⟨_, .store _ _ _, _, _, _, _⟩ :: _) _ _); first | (refine st_storeNat tyU32 k (lo ||| p % 4294967296) rfl rfl hOr hko rfl rfl ?_; intro w2 hO2 hE2) | (refine st_storeNat tyU32 (k + 1) (p / 4294967296) rfl rfl hO2 (by simp; rw [hol.out]; omega) rfl (by have := hdv.out; omega) ?_; intro w3 hO3 hE3)))
      have hol3 : Hid (((o.set k (lo ||| p % 4294967296)).set (k + 1) (p / 4294967296)).length = l.length + 1) := hid (by simp; exact hol.out)
      go_roundw
      case rel => exact ⟨k + 1, _, by go_num, by omega, hst', hol3, hO3, (hEr.own hOr (Nat.le_refl _) hE2).own hO2 (Nat.le_refl _) hE3⟩
      case measure => simp [intOf]; omega
    · have hke : k = l.length := by omega
      subst hke
      have hdn := hid hinv.out.done
      rw [<- hol.out] at hOr |-
      go_wp2_with fail
      go_ret
      exact ⟨hEr, _, o, rfl, hOr, hdn⟩
def WinOut (X : Nat -> Bool) (base g cU : Nat) (w : World) (A R : List Nat) (P : List Nat -> Ending -> Prop) (e : Ending) (w' : World) : Prop :=
  ExtX (ob (some ⟨g, 0, none⟩)) w w' /\ ∃ o : List Nat, P o e /\ OL (NatIn .u32) 1 X base 110 w' (some ⟨g, 0, none⟩) cU (A ++ o ++ R)
theorem win_get {A o R : List Nat} {k : Nat} (h : k < o.length) : (A ++ o ++ R)[A.length + k]'(by simp; omega) = o[k] := by
  rw [List.getElem_append_left (by simp; omega), List.getElem_append_right (by omega)]
  simp
theorem win_set {A o R : List Nat} {k d : Nat} (h : k < o.length) : (A ++ o ++ R).set (A.length + k) d = A ++ o.set k d ++ R := by
  rw [List.append_assoc, List.set_append_right _ _ (by omega), List.append_assoc]
  congr 1
  rw [show A.length + k - A.length = k by omega, List.set_append_left _ _ h]
theorem ptr_win (g a k : Nat) : Value.pointer (some (⟨g, a + k, none⟩ : Addr)) = .pointer (some (adr (some ⟨g, 0, none⟩) (a + k))) := by rw [adr_some, Nat.zero_add]
def RedP (W V : List Nat) (x n : Nat) (o : List Nat) (e : Ending) : Prop := ∃ bo : Nat, e = .returned (.bool (decide (bo = 1))) /\ o.length = n + 1 /\ Dig o /\ ((bo = 0 /\ nv o + x * nv V = nv W) \/ (bo = 1 /\ nv W < x * nv V /\ nv o + x * nv V = nv W + B ^ (n + 1)))
set_option maxRecDepth 100000 in
theorem reduce_any (X : Nat -> Bool) (base g cU cw : Nat) (A W R V : List Nat) (vo : Option Addr) (cv x n : Nat) (w : World) (hU : OL (NatIn .u32) 1 X base 110 w (some ⟨g, 0, none⟩) cU (A ++ W ++ R)) (hVs : Sl (NatIn .u32) 1 (mk (un X (some ⟨g, 0, none⟩)) w) vo V)
    (hW : W.length = n + 1) (hV : V.length = n) (hVd : Dig V) (hWd : Dig W) (hx : x < 4294967296) (_hA : A.length <= 1099511627776) (hn : n <= 1099511627776) :
    Calls Tryz.prog 332 #[.slice (some ⟨g, A.length, none⟩) W.length cw, .slice vo V.length cv, .int .u64 x] w (WinOut X base g cU w A R (RedP W V x n)) := by
  have hhv := hVs.hd
  have hhw : Hd (some (⟨g, A.length, none⟩ : Addr)) W.length := fun _ => ⟨_, _, rfl⟩
  have hWh := hid hW
  have hVh := hid hV
  have hxB : Hid (x < B) := hid (by rw [B_eq]; exact hx)
  have hWl : W.length <= 1099511627777 := by omega
  have hVl : V.length <= 1099511627776 := by omega
  clear hW hV
  go_enter Tryz.func332, Tryz.ntmps332
  go_wp2_with fail
  go_loopw [7, 8, 13] (fun a b c wr => ∃ (k cy bo : Nat) (o : List Nat), a = .int .u64 cy /\ b = .int .u32 bo /\ c = .int .i64 k /\ k <= W.length /\ cy < 4294967296 /\ bo <= 1 /\ Hid (RedInv W V x o k cy bo) /\ Hid (o.length = W.length) /\ OL (NatIn .u32) 1 X base 110 wr (some ⟨g, 0, none⟩) cU (A ++ o ++ R) /\ ExtX (ob (some ⟨g, 0, none⟩)) w wr) (fun _ _ c _ => W.length - (intOf c).toNat)
  case atStart => exact ⟨0, 0, 0, W, rfl, rfl, rfl, by omega, by omega, by omega, hid (RedInv.start hWd), hid rfl, hU, ExtX.refl _⟩
  case round =>
    obtain ⟨k, cy, bo, o, rfl, rfl, rfl, hk, hcy, hbo, hinv, hol, hOr, hEr⟩ := hrel
    clear hU
    by_cases hlt : k < W.length
    · have hko : k < o.length := by rw [hol.out]; exact hlt
      have hall : A.length + k < (A ++ o ++ R).length := by simp; omega
      have hco := (hOr.sl (NatIn.elem _)).nat (A.length + k) hall
      rw [win_get hko] at hco
      obtain ⟨z, hz⟩ : ∃ z, o[k] = z := ⟨_, rfl⟩
      rw [hz] at hco
      have hco1 : wr.cell? ⟨g, A.length + k, none⟩ = some (.int .u32 z) := by rw [adr_some, Nat.zero_add] at hco; exact hco
      have hVs1 := hVs.unstep (NatIn.mono _) hEr (.inl rfl)
      by_cases hkv : k < V.length
      · have hcv := hVs1.nat k hkv
        obtain ⟨y, hy⟩ : ∃ y, V[k] = y := ⟨_, rfl⟩
        rw [hy] at hcv
        obtain ⟨hst, b1, hzB⟩ := hinv.out.step (y := y) (z := z) hlt ((getD_of_lt hkv).trans hy) ((getD_of_lt hko).trans hz) hVd hxB.out
        have hyB := hVd.get k hkv
        rw [hy, B_eq] at hyB
        obtain ⟨t, ht⟩ : ∃ t, cy + x * y = t := ⟨_, rfl⟩
        rw [ht] at hst b1
        have hst' := hid hst
        have hw1 : IntKind.u64.wrap ((x : Int) * (y : Int)) = (x : Int) * (y : Int) := IntWalk.u64_in _ (by rw [<- Int.natCast_mul]; omega)
        have hw2 : IntKind.u64.wrap ((cy : Int) + (x : Int) * (y : Int)) = (t : Int) := by
          rw [<- ht, Int.natCast_add, Int.natCast_mul]; exact IntWalk.u64_in _ (by rw [<- Int.natCast_mul]; omega)
        have htm : (t : Int) % 4294967296 = ((t % 4294967296 : Nat) : Int) := by omega
        have htm2 : t % 4294967296 < 4294967296 := Nat.mod_lt _ (by decide)
        obtain ⟨tm, htmm⟩ : ∃ tm, t % 4294967296 = tm := ⟨_, rfl⟩
        rw [htmm] at htm htm2 hst'
        have hset := hid (win_set (A := A) (R := R) (d := subD z tm bo) hko)
        have hcy2 : t / 4294967296 < 4294967296 := by omega
        have hbo2 : subC z tm bo <= 1 := by unfold subC; split <;> omega
        have hol2 : Hid ((o.set k (subD z tm bo)).length = W.length) := hid (by rw [List.length_set]; exact hol.out)
        clear hst hz hy hinv ht b1 hVs1 hco htmm
        go_wp2_with (first | (with_reducible refine up_ix1 slU32 (by omega) (by assumption) ?_) | (go_at_call 334; refine (sub32_any _ _ _ _ hzB htm2 hbo).mono ?_; rintro e w' ⟨rfl, rfl⟩) | ((with_reducible show wpList _ _ _ (⟨_, .store _ _ _, _, _, _, _⟩ :: _) _ _); refine st_storeNat tyU32 (A.length + k) (subD z tm bo) (ptr_win g A.length k) rfl hOr hall rfl rfl ?_; intro w3 hO2 hE3))
        rw [hset.out] at hO2
        go_roundw
        case rel => exact ⟨k + 1, _, _, _, by simp, rfl, by go_num, by omega, hcy2, hbo2, hst', hol2, hO2, hEr.trans hE3⟩
        case measure => simp [intOf]; omega
      · obtain ⟨hst, b1, hzB⟩ := hinv.out.step (y := 0) (z := z) hlt (getD_of_ge (by omega)) ((getD_of_lt hko).trans hz) hVd hxB.out
        rw [Nat.mul_zero, Nat.add_zero, Nat.mod_eq_of_lt hcy, Nat.div_eq_of_lt hcy] at hst
        have hst' := hid hst
        have hset := hid (win_set (A := A) (R := R) (d := subD z cy bo) hko)
        have hbo2 : subC z cy bo <= 1 := by unfold subC; split <;> omega
        have hol2 : Hid ((o.set k (subD z cy bo)).length = W.length) := hid (by rw [List.length_set]; exact hol.out)
        clear hst hz hinv b1 hVs1 hco
        go_wp2_with (first | (with_reducible refine up_ix1 slU32 (by omega) (by assumption) ?_) | (go_at_call 334; refine (sub32_any _ _ _ _ hzB hcy hbo).mono ?_; rintro e w' ⟨rfl, rfl⟩) | ((with_reducible show wpList _ _ _ (⟨_, .store _ _ _, _, _, _, _⟩ :: _) _ _); refine st_storeNat tyU32 (A.length + k) (subD z cy bo) (ptr_win g A.length k) rfl hOr hall rfl rfl ?_; intro w3 hO2 hE3))
        rw [hset.out] at hO2
        go_roundw
        case rel => exact ⟨k + 1, 0, _, _, congrArg (Value.int .u64) (Int.ediv_eq_zero_of_lt (by omega) (by omega)), rfl, by go_num, by omega, by omega, hbo2, hst', hol2, hO2, hEr.trans hE3⟩
        case measure => simp [intOf]; omega
    · have hke : k = W.length := by omega
      subst hke
      have hdn := hinv.out.done hWh.out hVh.out hVd hxB.out
      clear hinv
      obtain ⟨d1, d2, d3⟩ := hdn
      have d1' := hid d1
      have d3' := hid d3
      clear d1
      clear d3'
      rcases d3 with ⟨rfl, d4⟩ | ⟨rfl, d4⟩
      · have d4' := hid d4
        clear d4
        go_wp2_with fail
        go_ret
        exact ⟨hEr, o, ⟨0, rfl, d1'.out, d2, .inl ⟨rfl, d4'.out⟩⟩, hOr⟩
      · have d4' := hid d4
        clear d4
        go_wp2_with fail
        go_ret
        exact ⟨hEr, o, ⟨1, rfl, d1'.out, d2, .inr ⟨rfl, d4'.out⟩⟩, hOr⟩
def ResP (W V : List Nat) (n : Nat) (o : List Nat) (e : Ending) : Prop := ∃ c : Nat, e = .returned (.tuple #[]) /\ o.length = n + 1 /\ Dig o /\ c <= 1 /\ nv o + B ^ (n + 1) * c = nv W + nv V
set_option maxRecDepth 100000 in
theorem restore_any (X : Nat -> Bool) (base g cU cw : Nat) (A W R V : List Nat) (vo : Option Addr) (cv n : Nat) (w : World) (hU : OL (NatIn .u32) 1 X base 110 w (some ⟨g, 0, none⟩) cU (A ++ W ++ R)) (hVs : Sl (NatIn .u32) 1 (mk (un X (some ⟨g, 0, none⟩)) w) vo V)
    (hW : W.length = n + 1) (hV : V.length = n) (hVd : Dig V) (hWd : Dig W) (_hA : A.length <= 1099511627776) (hn : n <= 1099511627776) :
    Calls Tryz.prog 333 #[.slice (some ⟨g, A.length, none⟩) W.length cw, .slice vo V.length cv] w (WinOut X base g cU w A R (ResP W V n)) := by
  have hhv := hVs.hd
  have hhw : Hd (some (⟨g, A.length, none⟩ : Addr)) W.length := fun _ => ⟨_, _, rfl⟩
  have hWh := hid hW
  have hVh := hid hV
  have hWl : W.length <= 1099511627777 := by omega
  have hVl : V.length <= 1099511627776 := by omega
  clear hW hV
  go_enter Tryz.func333, Tryz.ntmps333
  go_wp2_with fail
  go_loopw [4, 9] (fun a c wr => ∃ (k cy : Nat) (o : List Nat), a = .int .u32 cy /\ c = .int .i64 k /\ k <= W.length /\ cy <= 1 /\ Hid (ResInv W V o k cy) /\ Hid (o.length = W.length) /\ OL (NatIn .u32) 1 X base 110 wr (some ⟨g, 0, none⟩) cU (A ++ o ++ R) /\ ExtX (ob (some ⟨g, 0, none⟩)) w wr) (fun _ c _ => W.length - (intOf c).toNat)
  case atStart => exact ⟨0, 0, W, rfl, rfl, by omega, by omega, hid (ResInv.start hWd), hid rfl, hU, ExtX.refl _⟩
  case round =>
    obtain ⟨k, cy, o, rfl, rfl, hk, hcy, hinv, hol, hOr, hEr⟩ := hrel
    clear hU
    by_cases hlt : k < W.length
    · have hko : k < o.length := by rw [hol.out]; exact hlt
      have hall : A.length + k < (A ++ o ++ R).length := by simp; omega
      have hco := (hOr.sl (NatIn.elem _)).nat (A.length + k) hall
      rw [win_get hko] at hco
      obtain ⟨z, hz⟩ : ∃ z, o[k] = z := ⟨_, rfl⟩
      rw [hz] at hco
      have hco1 : wr.cell? ⟨g, A.length + k, none⟩ = some (.int .u32 z) := by rw [adr_some, Nat.zero_add] at hco; exact hco
      have hVs1 := hVs.unstep (NatIn.mono _) hEr (.inl rfl)
      by_cases hkv : k < V.length
      · have hcv := hVs1.nat k hkv
        obtain ⟨y, hy⟩ : ∃ y, V[k] = y := ⟨_, rfl⟩
        rw [hy] at hcv
        obtain ⟨hst, hzB⟩ := hinv.out.step (y := y) (z := z) hlt ((getD_of_lt hkv).trans hy) ((getD_of_lt hko).trans hz) hVd
        have hyB := hVd.get k hkv
        rw [hy, B_eq] at hyB
        have hst' := hid hst
        have hset := hid (win_set (A := A) (R := R) (d := (z + y + cy) % 4294967296) hko)
        have hcy2 : (z + y + cy) / 4294967296 <= 1 := by omega
        have hol2 : Hid ((o.set k ((z + y + cy) % 4294967296)).length = W.length) := hid (by rw [List.length_set]; exact hol.out)
        clear hst hz hy hinv hVs1 hco
        go_wp2_with (first | (with_reducible refine up_ix1 slU32 (by omega) (by assumption) ?_) | (go_at_call 242; refine (add32_any _ _ _ _ hzB hyB hcy).mono ?_; rintro e w' ⟨rfl, rfl⟩) | ((with_reducible show wpList _ _ _ (⟨_, .store _ _ _, _, _, _, _⟩ :: _) _ _); refine st_storeNat tyU32 (A.length + k) ((z + y + cy) % 4294967296) (ptr_win g A.length k) rfl hOr hall rfl rfl ?_; intro w3 hO2 hE3))
        rw [hset.out] at hO2
        go_roundw
        case rel => exact ⟨k + 1, _, _, rfl, by go_num, by omega, hcy2, hst', hol2, hO2, hEr.trans hE3⟩
        case measure => simp [intOf]; omega
      · obtain ⟨hst, hzB⟩ := hinv.out.step (y := 0) (z := z) hlt (getD_of_ge (by omega)) ((getD_of_lt hko).trans hz) hVd
        have hst' := hid hst
        have hset := hid (win_set (A := A) (R := R) (d := (z + 0 + cy) % 4294967296) hko)
        have hcy2 : (z + 0 + cy) / 4294967296 <= 1 := by omega
        have hol2 : Hid ((o.set k ((z + 0 + cy) % 4294967296)).length = W.length) := hid (by rw [List.length_set]; exact hol.out)
        clear hst hz hinv hVs1 hco
        go_wp2_with (first | (with_reducible refine up_ix1 slU32 (by omega) (by assumption) ?_) | (go_at_call 242; refine (add32_any _ 0 _ _ hzB (by omega) hcy).mono ?_; rintro e w' ⟨rfl, rfl⟩) | ((with_reducible show wpList _ _ _ (⟨_, .store _ _ _, _, _, _, _⟩ :: _) _ _); refine st_storeNat tyU32 (A.length + k) ((z + 0 + cy) % 4294967296) (ptr_win g A.length k) rfl hOr hall rfl rfl ?_; intro w3 hO2 hE3))
        rw [hset.out] at hO2
        go_roundw
        case rel => exact ⟨k + 1, _, _, rfl, by go_num, by omega, hcy2, hst', hol2, hO2, hEr.trans hE3⟩
        case measure => simp [intOf]; omega
    · have hke : k = W.length := by omega
      subst hke
      have hdn := hid (hinv.out.done hWh.out hVh.out)
      go_wp2_with fail
      exact bodyPost_end (results_none rfl _ _ _) rfl ⟨hEr, o, ⟨cy, rfl, hdn.out⟩, hOr⟩
end Go.Proofs.YtnnpfhoigmegcaaGreat
namespace Go.Proofs.YtnnpfhoigmegcaaGreat
open Go.RowKit Go.Rep Go.Lim
def SubOut (X : Nat -> Bool) (w : World) (na nb : Nat) (e : Ending) (w' : World) : Prop :=
  Ext w w' /\ ∃ ao cap l, e = .returned (.tuple #[.slice ao l.length cap, .bool (decide (nb <= na))]) /\ l.length <= cap /\ Canon l (na - nb) /\ Sl (NatIn .u32) 1 (mk X w') ao l
theorem sub_any (X : Nat -> Bool) (ao bo : Option Addr) (la lb : List Nat) (ca cb : Nat) (w : World) (hsa : Sl (NatIn .u32) 1 (mk X w) ao la) (hsb : Sl (NatIn .u32) 1 (mk X w) bo lb)
    (hda : Dig la) (hdb : Dig lb) (hla : la.length <= 1099511627776) (hlb : lb.length <= 1099511627776) (hca : la.length <= ca) (hcb : lb.length <= cb) (hX : ∀ k, X k = true -> k < w.heap.size) (na nb : Nat) (hna : val la = na) (hnb : val lb = nb) :
    Calls Tryz.prog 307 #[.slice ao la.length ca, .slice bo lb.length cb] w (SubOut X w na nb) := by
  go_enter Tryz.func307, Tryz.ntmps307
  go_wp2_with fail
  refine (value_any X _ _ _ _ hsa hda (by omega) hca).mono ?_
  rintro e w' ⟨rfl, ao1, ca1, a, rfl, hca1, hal, hcan, hsa1⟩
  go_wp2_with fail
  refine (value_any X _ _ _ _ hsb hdb (by omega) hcb).mono ?_
  rintro e w' ⟨rfl, bo1, cb1, b, rfl, hcb1, hbl, hcbn, hsb1⟩
  rw [hna] at hcan
  rw [hnb] at hcbn
  have hal' : a.length <= 1099511627776 := Nat.le_trans hal hla
  have hbl' : b.length <= 1099511627776 := Nat.le_trans hbl hlb
  have hva := hid hcan.val
  have hvb := hid hcbn.val
  clear hna hnb hal hbl hsa hsb hla hlb hca hcb hda hdb
  go_wp2_with fail
  refine (compare_any X _ _ _ _ _ _ _ hsa1 hsb1 hcan.1 hcbn.1 hal' hbl' hca1 hcb1 na nb hva.out hvb.out).mono ?_
  rintro e w1 ⟨hE1, rfl⟩
  by_cases hlt : na < nb
  · have hc : cmpN na nb < 0 := (cmpN_lt _ _).2 hlt
    have hd : Hid (decide (nb <= na) = false) := hid (decide_eq_false (by omega))
    have hz : Hid (na - nb = 0) := hid (by omega)
    clear hlt
    go_wp2_with fail
    go_ret2
    exact ⟨hE1, none, 0, [], by rw [hd.out]; rfl, by simp, by rw [hz.out]; exact Canon.nil, Sl.nil _ _ _ _⟩
  · have hc : ¬ cmpN na nb < 0 := fun h => hlt ((cmpN_lt _ _).1 h)
    have hd : Hid (decide (nb <= na) = true) := hid (decide_eq_true (by omega))
    have hab : b.length <= a.length := by rw [hcan.len, hcbn.len]; exact lg_mono (by omega)
    have hle : Hid (nv b <= nv a) := hid (by rw [hcan.2.2, hcbn.2.2]; omega)
    have hsum : Hid (nv a - nv b = na - nb) := hid (by rw [hcan.2.2, hcbn.2.2])
    have hX1 : ∀ k, X k = true -> k < w1.heap.size := fun k hk => Nat.lt_of_lt_of_le (hX k hk) hE1.size
    have hsa2 := hsa1.mono (NatIn.mono _) (mk_ext hE1)
    have hsb2 := hsb1.mono (NatIn.mono _) (mk_ext hE1)
    have hda := hcan.1
    have hdb := hcbn.1
    have hha := hsa1.hd
    have hhb := hsb1.hd
    clear hlt hcan hcbn hva hvb hsa1 hsb1
    go_wp2_with (at_make; refine st_make slU32 (NatIn.elem .u32) 0 (fun _ => rfl) X hX1 w1.heap.size (Nat.le_refl _) a.length rfl rfl (by omega) (by omega) (by omega) ?_; intro oo w2 hO hE2)
    go_loopw [7, 24] (fun c i wr => ∃ (k : Nat) (o : List Nat) (cy : Nat), i = .int .i64 k /\ c = .int .u32 cy /\ k <= a.length /\ SubInv a b o k cy /\ OL (NatIn .u32) 1 X w1.heap.size 110 wr oo a.length o /\ Ext w1 wr) (fun _ i _ => a.length - (intOf i).toNat)
    case atStart => exact ⟨0, _, 0, rfl, rfl, by omega, SubInv.start a b, hO, hE2⟩
    case round =>
      obtain ⟨k, o, cy, rfl, rfl, hk, hinv, hOr, hEr⟩ := hrel
      clear hO hE2
      have hcy := hinv.2.2.1
      have hol := hid hinv.1
      have hho : Hd oo a.length := hol.out ▸ hOr.hd
      by_cases hlt : k < a.length
      · have hca := (hsa2.mono (NatIn.mono _) (mk_ext hEr)).nat k hlt
        have hak := hda.get k hlt
        obtain ⟨x, hx⟩ : ∃ x, a[k] = x := ⟨_, rfl⟩
        rw [hx] at hca hak
        rw [B_eq] at hak
        by_cases hkb : k < b.length
        · have hcb := (hsb2.mono (NatIn.mono _) (mk_ext hEr)).nat k hkb
          have hbk := hdb.get k hkb
          obtain ⟨y, hy⟩ : ∃ y, b[k] = y := ⟨_, rfl⟩
          rw [hy] at hcb hbk
          rw [B_eq] at hbk
          have hst := hinv.step (y := y) hlt hx ((getD_of_lt hkb).trans hy) hda hdb
          clear hx hy
          go_wp2_with (first | (with_reducible refine up_ix1 slU32 (by omega) (by assumption) ?_) | (go_at_call 334; refine (sub32_any _ _ _ _ hak hbk hcy).mono ?_; rintro e w' ⟨rfl, rfl⟩) | ((with_reducible show wpList _ _ _ (⟨_, .store _ _ _, _, _, _, _⟩ :: _) _ _); refine st_storeNat tyU32 k (subD x y cy) rfl (by omega) hOr (by rw [hol.out]; omega) rfl rfl ?_; intro w3 hO2 hE3))
          go_roundw
          case rel => exact ⟨k + 1, _, _, by go_num, rfl, by omega, hst, hO2, hEr.own hOr (Nat.le_refl _) hE3⟩
          case measure => simp [intOf]; omega
        · have hst := hinv.step hlt hx (getD_of_ge (by omega)) hda hdb
          clear hx
          go_wp2_with (first | (with_reducible refine up_ix1 slU32 (by omega) (by assumption) ?_) | (go_at_call 334; refine (sub32_any _ 0 _ _ hak (by omega) hcy).mono ?_; rintro e w' ⟨rfl, rfl⟩) | ((with_reducible show wpList _ _ _ (⟨_, .store _ _ _, _, _, _, _⟩ :: _) _ _); refine st_storeNat tyU32 k (subD x 0 cy) rfl (by omega) hOr (by rw [hol.out]; omega) rfl rfl ?_; intro w3 hO2 hE3))
          go_roundw
          case rel => exact ⟨k + 1, _, _, by go_num, rfl, by omega, hst, hO2, hEr.own hOr (Nat.le_refl _) hE3⟩
          case measure => simp [intOf]; omega
      · have hke : k = a.length := by omega
        subst hke
        have hdn := hid (hinv.done hab hle.out)
        have hod := hinv.2.1
        have hs3 := hOr.sl (NatIn.elem .u32)
        go_wp2_with fail
        rw [<- hol.out]
        refine (trimmed_any X _ _ _ _ hs3 hod (by rw [hol.out]; omega) (by rw [hol.out]; exact Nat.le_refl _)).mono ?_
        rintro e w' ⟨rfl, l', rfl, hl', hc, hs'⟩
        go_wp2_with fail
        go_ret2
        rw [hdn.out, hsum.out] at hc
        exact ⟨hE1.trans hEr, _, o.length, l', by rw [hd.out]; rfl, hl', hc, hs'⟩
end Go.Proofs.YtnnpfhoigmegcaaGreat
