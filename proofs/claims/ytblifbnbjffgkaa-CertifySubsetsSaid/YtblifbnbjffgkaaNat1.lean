/- natural.Valid, value, trimmed, FromUint, Compare, bits.Add32, Add. Conditions: lengths far below any machine's. -/
import Derived.Test.YtblifbnbjffgkaaFacts
import Derived.Test.YtblifbnbjffgkaaLim
namespace Go.Proofs.Ytblifbnbjffgkaa
open Go.RowKit Go.Rep Go.Lim

theorem valid_any (X : Nat → Bool) (ao : Option Addr) (l : List Nat) (cap : Nat) (w : World) (hs : Sl (NatIn .u32) 1 (mk X w) ao l) (hl : l.length ≤ 4398046511104) :
    Calls Try.prog 51 #[.slice ao l.length cap] w fun e w' => w = w' ∧ e = .returned (.bool (validL l)) := by
  have hh := hs.hd
  by_cases h0 : l.length = 0
  · have hl0 : l = [] := List.eq_nil_of_length_eq_zero h0
    subst hl0
    clear hs hh hl h0
    simp only [List.length_nil]
    go_enter Try.func51, Try.ntmps51
    go_wp2_with fail
    go_ret
    exact ⟨rfl, rfl⟩
  · have hc := hs.nat (l.length - 1) (by omega)
    have hv := hid (validL_last (l := l) (by omega))
    have hz : ((l.length : Int) == 0) = false := beqF (by omega)
    go_enter Try.func51, Try.ntmps51
    go_wp2_with (with_reducible refine up_ix1 slU32 (by omega) (by assumption) ?_)
    go_ret
    exact ⟨rfl, ret_bool (by rw [hv.out]; exact cast_bne0 _)⟩

/-- A number comes back, in some slice. -/
def NatOut (X : Nat → Bool) (w : World) (n : Nat) (e : Ending) (w' : World) : Prop :=
  Ext w w' ∧ ∃ ao cap l, e = .returned (.slice ao l.length cap) ∧ l.length ≤ cap ∧ Canon l n ∧ Sl (NatIn .u32) 1 (mk X w') ao l
/-- The first digits of the argument come back. -/
def TrimOut (X : Nat → Bool) (w : World) (ao : Option Addr) (l : List Nat) (cap : Nat) (e : Ending) (w' : World) : Prop :=
  w = w' ∧ ∃ l', e = .returned (.slice ao l'.length cap) ∧ l'.length ≤ l.length ∧ Canon l' (nv l) ∧ Sl (NatIn .u32) 1 (mk X w) ao l'
/-- The digits that count come back. -/
def ValOut (X : Nat → Bool) (w : World) (l : List Nat) (e : Ending) (w' : World) : Prop :=
  w = w' ∧ ∃ ao cap l', e = .returned (.slice ao l'.length cap) ∧ l'.length ≤ cap ∧ l'.length ≤ l.length ∧ Canon l' (val l) ∧ Sl (NatIn .u32) 1 (mk X w) ao l'

theorem trimmed_any (X : Nat → Bool) (ao : Option Addr) (l : List Nat) (cap : Nat) (w : World) (hs : Sl (NatIn .u32) 1 (mk X w) ao l) (hd : Dig l) (hl : l.length ≤ 4398046511104) (hcap : l.length ≤ cap) :
    Calls Try.prog 42 #[.slice ao l.length cap] w (TrimOut X w ao l cap) := by
  have hh := hs.hd
  go_enter Try.func42, Try.ntmps42
  go_wp2_with fail
  go_loop [3] (fun n => ∃ k : Nat, n = .int .i64 k ∧ Cut l k) (fun n => (intOf n).toNat)
  case atStart => exact ⟨_, rfl, Cut.all l⟩
  case round =>
    obtain ⟨k, rfl, hk⟩ := hrel
    have hkl := hk.1
    by_cases hlt : 0 < k
    · have hc := hs.nat (k - 1) (by omega)
      by_cases hz : l[k - 1] = 0
      · have hk' := hk.less hlt hz
        have hz' := hid hz
        rw [hz] at hc
        clear hz
        go_wp2_with (with_reducible refine up_ix1 slU32 (by omega) (by assumption) ?_)
        go_round
        case rel => exact ⟨k - 1, by go_num, hk'⟩
        case measure => simp [intOf]; omega
      · have hcn := hk.canon hd (.inr ⟨by omega, hz⟩)
        have hz' : ((l[k - 1] : Int) == 0) = false := beqF (by omega)
        go_wp2_with (with_reducible refine up_ix1 slU32 (by omega) (by assumption) ?_)
        go_ret
        exact ⟨rfl, l.take k, ret_slice (by simp; omega), by simp; omega, hcn, hs.take k⟩
    · have hcn := hk.canon hd (.inl (by omega))
      go_wp2_with fail
      go_ret
      exact ⟨rfl, l.take k, ret_slice (by simp; omega), by simp; omega, hcn, hs.take k⟩

theorem value_any (X : Nat → Bool) (ao : Option Addr) (l : List Nat) (cap : Nat) (w : World) (hs : Sl (NatIn .u32) 1 (mk X w) ao l) (hd : Dig l) (hl : l.length ≤ 4398046511104) (hcap : l.length ≤ cap) :
    Calls Try.prog 40 #[.slice ao l.length cap] w (ValOut X w l) := by
  cases hv : validL l
  · have hv' := hid hv
    go_enter Try.func40, Try.ntmps40
    go_wp2_with (go_at_call 51; refine (valid_any X _ _ _ _ hs hl).mono ?_; rintro e w' ⟨rfl, rfl⟩)
    go_ret
    have : vl l = [] := by unfold vl; rw [hv]; rfl
    exact ⟨rfl, none, 0, [], rfl, by simp, by simp, this ▸ vl_canon hd, Sl.nil _ _ _ _⟩
  · have hv' := hid hv
    go_enter Try.func40, Try.ntmps40
    go_wp2_with (go_at_call 51; refine (valid_any X _ _ _ _ hs hl).mono ?_; rintro e w' ⟨rfl, rfl⟩)
    go_ret
    have : vl l = l := by unfold vl; rw [hv]; rfl
    have hc := vl_canon hd
    rw [this] at hc
    exact ⟨rfl, ao, cap, l, rfl, hcap, Nat.le_refl _, hc, hs⟩

theorem fromUint_any (X : Nat → Bool) (n : Nat) (w : World) (hn : n < 18446744073709551616) (hX : ∀ k, X k = true → k < w.heap.size) :
    Calls Try.prog 43 #[.int .u64 n] w (NatOut X w n) := by
  have hO : OL (NatIn .u32) 1 X w.heap.size 64 (w.alloc (.cells #[.int .u32 ((n : Int) % 4294967296), .int .u32 ((n : Int) / 4294967296)] 64)) (some ⟨w.heap.size, 0, none⟩) 2 [n % 4294967296, n / 4294967296] :=
    OL.lit (NatIn.elem .u32) hX (Nat.le_refl _) [.int .u32 ((n % 4294967296 : Nat) : Int), .int .u32 ((n / 4294967296 : Nat) : Int)] [n % 4294967296, n / 4294967296] _ (by simp [cellsL, Value.cells]) rfl
      (fun i hi _ => by match i, hi with
                        | 0, _ => rfl
                        | 1, _ => rfl) (by simp)
  go_enter Try.func43, Try.ntmps43
  go_wp2_with fail
  refine (trimmed_any X _ [n % 4294967296, n / 4294967296] _ _ (hO.sl (NatIn.elem .u32)) (Dig.cons (by rw [B_eq]; exact Nat.mod_lt _ (by decide)) (Dig.cons (by rw [B_eq]; omega) Dig.nil)) (by simp) (by simp)).mono ?_
  rintro e w' ⟨rfl, l', rfl, hl', hc, hs'⟩
  go_wp2_with fail
  go_ret
  have hv : nv [n % 4294967296, n / 4294967296] = n := by simp only [nv, B_eq]; omega
  rw [hv] at hc
  exact ⟨(ExtX.refl w).alloc _, _, 2, _, rfl, by simpa using hl', hc, hs'⟩

theorem add32_any (x y c : Nat) (w : World) (hx : x < 4294967296) (hy : y < 4294967296) (hc : c ≤ 1) :
    Calls Try.prog 41 #[.int .u32 x, .int .u32 y, .int .u32 c] w fun e w' => w = w' ∧ e = .returned (.tuple #[.int .u32 ((x + y + c) % 4294967296 : Nat), .int .u32 ((x + y + c) / 4294967296 : Nat)]) := by
  go_enter Try.func41, Try.ntmps41
  go_wp2
  go_ret2
  exact ⟨rfl, by simp⟩

theorem add_any (X : Nat → Bool) (ao bo : Option Addr) (la lb : List Nat) (ca cb : Nat) (w : World) (hsa : Sl (NatIn .u32) 1 (mk X w) ao la) (hsb : Sl (NatIn .u32) 1 (mk X w) bo lb)
    (hda : Dig la) (hdb : Dig lb) (hla : la.length ≤ 1099511627776) (hlb : lb.length ≤ 1099511627776) (hca : la.length ≤ ca) (hcb : lb.length ≤ cb) (hX : ∀ k, X k = true → k < w.heap.size) (na nb : Nat) (hna : val la = na) (hnb : val lb = nb) :
    Calls Try.prog 25 #[.slice ao la.length ca, .slice bo lb.length cb] w (NatOut X w (na + nb)) := by
  go_enter Try.func25, Try.ntmps25
  go_wp2_with fail
  refine (value_any X _ _ _ _ hsa hda (by omega) hca).mono ?_
  rintro e w' ⟨rfl, ao1, ca1, a, rfl, hca1, hal, hcan, hsa1⟩
  go_wp2_with fail
  refine (value_any X _ _ _ _ hsb hdb (by omega) hcb).mono ?_
  rintro e w' ⟨rfl, bo1, cb1, b, rfl, hcb1, hbl, hcbn, hsb1⟩
  rw [hna] at hcan
  rw [hnb] at hcbn
  have hal' : a.length ≤ 1099511627776 := Nat.le_trans hal hla
  have hbl' : b.length ≤ 1099511627776 := Nat.le_trans hbl hlb
  clear hna hnb hal hbl hsa hsb hla hlb hca hcb
  go_upto_if 18 with (fail)
  go_cut [0, 1] (fun s0 s1 wx => wx = w ∧ ∃ ao bo a b ca cb, s0 = .slice ao a.length ca ∧ s1 = .slice bo b.length cb ∧ b.length ≤ a.length ∧ a.length ≤ 1099511627776 ∧ Sl (NatIn .u32) 1 (mk X w) ao a ∧ Sl (NatIn .u32) 1 (mk X w) bo b ∧ Dig a ∧ Dig b ∧ Hid (nv a + nv b = na + nb))
  case first =>
    go_wp2_with fail
    all_goals go_meet
    all_goals case rel => first | exact ⟨rfl, _, _, _, _, _, _, rfl, rfl, by omega, hbl', hsb1, hsa1, hcbn.1, hcan.1, hid (by rw [hcan.2.2, hcbn.2.2, Nat.add_comm])⟩ | exact ⟨rfl, _, _, _, _, _, _, rfl, rfl, by omega, hal', hsa1, hsb1, hcan.1, hcbn.1, hid (by rw [hcan.2.2, hcbn.2.2])⟩
  case rest =>
    clear hca1 hcan hsa1 hcb1 hcbn hsb1 hal' hbl' hda hdb
    clear a b ao1 bo1 ca1 cb1 ao bo la lb ca cb
    obtain ⟨rfl, ao, bo, a, b, ca, cb, rfl, rfl, hab, hal, hsa, hsb, hda, hdb, hsum⟩ := hcut
    have hha := hsa.hd
    have hhb := hsb.hd
    go_wp2_with (at_make; refine st_make slU32 (NatIn.elem .u32) 0 (fun _ => rfl) X hX wc.heap.size (Nat.le_refl _) (a.length + 1) rfl rfl (by omega) (by omega) (by omega) ?_; intro oo w1 hO hE1)
    go_loopw [6, 27] (fun c i wr => ∃ (k : Nat) (o : List Nat) (cy : Nat), i = .int .i64 k ∧ c = .int .u32 cy ∧ k ≤ a.length ∧ AddInv a b o k cy ∧ OL (NatIn .u32) 1 X wc.heap.size 64 wr oo (a.length + 1) o ∧ Ext wc wr) (fun _ i _ => a.length - (intOf i).toNat)
    case atStart => exact ⟨0, _, 0, rfl, rfl, by omega, AddInv.start a b, hO, hE1⟩
    case round =>
      obtain ⟨k, o, cy, rfl, rfl, hk, hinv, hOr, hEr⟩ := hrel
      clear hO hE1
      have hcy := hinv.2.2.1
      have hol := hid hinv.1
      have hho : Hd oo (a.length + 1) := hol.out ▸ hOr.hd
      by_cases hlt : k < a.length
      · have hca := (hsa.mono (NatIn.mono _) (mk_ext hEr)).nat k hlt
        have hak := hda.get k hlt
        rw [B_eq] at hak
        by_cases hkb : k < b.length
        · have hcb := (hsb.mono (NatIn.mono _) (mk_ext hEr)).nat k hkb
          have hbk := hdb.get k hkb
          rw [B_eq] at hbk
          have hst := hinv.step hlt (.inl ⟨hkb, rfl⟩) hda hdb
          go_wp2_with (first | (with_reducible refine up_ix1 slU32 (by omega) (by assumption) ?_) | (go_at_call 41; refine (add32_any _ _ _ _ hak hbk hcy).mono ?_; rintro e w' ⟨rfl, rfl⟩) | ((with_reducible show wpList _ _ _ (⟨_, .store _ _ _, _, _, _, _⟩ :: _) _ _); refine st_store tyU32 (NatIn.elem .u32) k rfl (Nat.mul_one k).symm hOr (by rw [hol.out]; omega) _ ((a[k] + b[k] + cy) % 4294967296) rfl rfl ?_; intro w2 hO2 hE2))
          go_roundw
          case rel => exact ⟨k + 1, _, _, by go_num, rfl, by omega, hst, hO2, hEr.own hOr (Nat.le_refl _) hE2⟩
          case measure => simp [intOf]; omega
        · have hst := hinv.step (y := 0) hlt (.inr ⟨by omega, rfl⟩) hda hdb
          go_wp2_with (first | (with_reducible refine up_ix1 slU32 (by omega) (by assumption) ?_) | (go_at_call 41; refine (add32_any _ 0 _ _ hak (by omega) hcy).mono ?_; rintro e w' ⟨rfl, rfl⟩) | ((with_reducible show wpList _ _ _ (⟨_, .store _ _ _, _, _, _, _⟩ :: _) _ _); refine st_store tyU32 (NatIn.elem .u32) k rfl (Nat.mul_one k).symm hOr (by rw [hol.out]; omega) _ ((a[k] + 0 + cy) % 4294967296) rfl rfl ?_; intro w2 hO2 hE2))
          go_roundw
          case rel => exact ⟨k + 1, _, _, by go_num, rfl, by omega, hst, hO2, hEr.own hOr (Nat.le_refl _) hE2⟩
          case measure => simp [intOf]; omega
      · have hke : k = a.length := by omega
        subst hke
        have hdn := hinv.done hab
        go_wp2_with (first | (with_reducible refine up_ix1 slU32 (by omega) (by assumption) ?_) | ((with_reducible show wpList _ _ _ (⟨_, .store _ _ _, _, _, _, _⟩ :: _) _ _); refine st_store tyU32 (NatIn.elem .u32) a.length rfl (Nat.mul_one _).symm hOr (by rw [hol.out]; omega) _ cy rfl rfl ?_; intro w2 hO2 hE2))
        obtain ⟨hd1, hd2, hd3⟩ := hdn
        have hd3' := hid hd3
        have hs3 := hO2.sl (NatIn.elem .u32)
        have hEE := hEr.own hOr (Nat.le_refl _) hE2
        rw [← hd3]
        clear hd3
        refine (trimmed_any X _ _ _ _ hs3 hd1 (by rw [hd3'.out]; omega) (by rw [hd3'.out]; omega)).mono ?_
        rintro e w' ⟨rfl, l', rfl, hl', hc, hs'⟩
        go_wp2_with fail
        go_ret
        rw [hd2, hsum.out] at hc
        exact ⟨hEE, _, _, _, rfl, by have h1 := hol.out; have h2 := hl'; (try simp only [List.length_set] at h2); omega, hc, hs'⟩
end Go.Proofs.Ytblifbnbjffgkaa
