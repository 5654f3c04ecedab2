/- bits.Len32, LeadingZeros32; natural.divide, Div: long division. Conditions: lengths far below any machine's. Integers and rational numbers as a sign and lists of digits, their only form, and their size. Conditions: none. -/
import Derived.Test.YtjbhcniiioepgaaGreatSoD
import Derived.Lib.BitFns
import Derived.StillTailTactics
import Derived.Lib.Strings
import Derived.Lib.Slices
import Derived.Lib.Small
import Derived.Lib.Walk
namespace Go.Proofs.YtjbhcniiioepgaaGreat
open Go.RowKit Go.Rep Go.Lim

theorem tab_size : Lib.len8tab.size = 256 := by decide +kernel
theorem tab_eq0 : ∀ n : Fin 256, (Lib.len8tab[n.val]'(by rw [tab_size]; exact n.isLt)).toNat = Lib.bitLen n.val := by decide +kernel
theorem tab_eq (i : Nat) (h : i < Lib.len8tab.size) : (Lib.len8tab[i]).toNat = Lib.bitLen i := tab_eq0 ⟨i, by rw [tab_size] at h; exact h⟩

theorem wrapB (b : Nat) (h : b ≤ 64) : wrap64 (b : Int) = b := by unfold wrap64; omega
theorem wrapKB (k b : Nat) (h : b ≤ 64) (hk : k ≤ 64) : wrap64 ((k : Int) + wrap64 (b : Int)) = ((k + b : Nat) : Int) := by rw [wrapB b h]; unfold wrap64; omega
theorem lenA (x : Int) (h0 : 0 ≤ x) (h : 16777216 ≤ x) (h1 : x ≤ 4294967295) (h2 : (x / 65536 / 256).toNat < Lib.len8tab.size) (n : Int) (hn : n = 24) : wrap64 (n + wrap64 ((Lib.len8tab[(x / 65536 / 256).toNat].toNat : Nat) : Int)) = (Lib.bitLen x.toNat : Int) := by
  subst hn
  rw [tab_eq]
  have e : (x / 65536 / 256).toNat = x.toNat / 16777216 := by omega
  rw [e, Lib.bitLen_shift24 x.toNat (by omega) (by omega)]
  exact wrapKB 24 _ (Nat.le_trans (Lib.bitLen_le _ 8 (by omega) (by omega)) (by omega)) (by omega)
theorem lenB (x : Int) (h0 : 0 ≤ x) (h : 65536 ≤ x) (h1 : x < 16777216) (h2 : (x / 65536).toNat < Lib.len8tab.size) (n : Int) (hn : n = 16) : wrap64 (n + wrap64 ((Lib.len8tab[(x / 65536).toNat].toNat : Nat) : Int)) = (Lib.bitLen x.toNat : Int) := by
  subst hn
  rw [tab_eq]
  have e : (x / 65536).toNat = x.toNat / 65536 := by omega
  rw [e, Lib.bitLen_shift16 x.toNat (by omega) (by omega)]
  exact wrapKB 16 _ (Nat.le_trans (Lib.bitLen_le _ 8 (by omega) (by omega)) (by omega)) (by omega)
theorem lenC (x : Int) (h0 : 0 ≤ x) (h : 256 ≤ x) (h1 : x < 65536) (h2 : (x / 256).toNat < Lib.len8tab.size) (n : Int) (hn : n = 8) : wrap64 (n + wrap64 ((Lib.len8tab[(x / 256).toNat].toNat : Nat) : Int)) = (Lib.bitLen x.toNat : Int) := by
  subst hn
  rw [tab_eq]
  have e : (x / 256).toNat = x.toNat / 256 := by omega
  rw [e, Lib.bitLen_shift8 x.toNat (by omega) (by omega)]
  exact wrapKB 8 _ (Nat.le_trans (Lib.bitLen_le _ 8 (by omega) (by omega)) (by omega)) (by omega)
theorem lenD (x : Int) (h0 : 0 ≤ x) (h1 : x < 256) (h2 : x.toNat < Lib.len8tab.size) : wrap64 (wrap64 ((Lib.len8tab[x.toNat].toNat : Nat) : Int)) = (Lib.bitLen x.toNat : Int) := by
  rw [tab_eq]
  have := Lib.bitLen_le x.toNat 8 (by omega) (by omega)
  rw [wrapB _ (by omega), wrapB _ (by omega)]

set_option maxHeartbeats 4000000 in
set_option maxRecDepth 100000 in
theorem len32_any (x : Int) (w : World) (h0 : 0 ≤ x) (h1 : x ≤ 4294967295) :
    Calls Tryz.prog 234 #[.int .u32 x] w fun e w' => e = .returned (.int .i64 (Lib.bitLen x.toNat)) ∧ w' = w := by
  have hs := tab_size
  go_enter Tryz.func234, Tryz.ntmps234
  go_wp2
  · go_ret
    exact ⟨congrArg Ending.returned (congrArg (Value.int IntKind.i64) (lenA x h0 (by omega) h1 _ _ rfl)), rfl⟩
  · go_ret
    exact ⟨congrArg Ending.returned (congrArg (Value.int IntKind.i64) (lenB x h0 (by omega) (by omega) _ _ rfl)), rfl⟩
  · go_ret
    exact ⟨congrArg Ending.returned (congrArg (Value.int IntKind.i64) (lenC x h0 (by omega) (by omega) _ _ rfl)), rfl⟩
  · go_ret
    exact ⟨congrArg Ending.returned (congrArg (Value.int IntKind.i64) (lenD x h0 (by omega) _)), rfl⟩

/-- How many bits a digit is moved: its highest bit then stands highest. -/
def lz (x : Nat) : Nat := 32 - Lib.bitLen x
theorem bitLenAux_spec : ∀ (f x : Nat), 0 < x → x < 2 ^ f → 2 ^ (Lib.bitLenAux f x) ≤ 2 * x ∧ x < 2 ^ (Lib.bitLenAux f x) ∧ Lib.bitLenAux f x ≤ f
  | 0, x, h, h2 => by simp at h2; omega
  | f + 1, x, h, h2 => by
    simp only [Lib.bitLenAux]
    rw [if_neg (by omega)]
    by_cases h1 : x = 1
    · subst h1
      have : Lib.bitLenAux f (1 / 2) = 0 := by cases f <;> simp [Lib.bitLenAux]
      rw [this]; simp
    · obtain ⟨a, b, c⟩ := bitLenAux_spec f (x / 2) (by omega) (by rw [Nat.pow_succ] at h2; omega)
      rw [Nat.add_comm 1, Nat.pow_succ]
      exact ⟨by omega, by omega, by omega⟩
theorem lz_spec {x : Nat} (h0 : 0 < x) (h1 : x < 4294967296) : lz x < 32 ∧ 4294967296 ≤ 2 * (x * 2 ^ lz x) ∧ x * 2 ^ lz x < 4294967296 := by
  obtain ⟨a, b, c⟩ := bitLenAux_spec 64 x h0 (by omega)
  have hle : Lib.bitLen x ≤ 32 := Lib.bitLen_le x 32 (by omega) (by omega)
  have hpos : 1 ≤ Lib.bitLen x := by
    by_cases h : Lib.bitLen x = 0
    · unfold Lib.bitLen at h; rw [h] at b; simp at b; omega
    · omega
  change 2 ^ Lib.bitLen x ≤ 2 * x at a
  change x < 2 ^ Lib.bitLen x at b
  have e : 2 ^ Lib.bitLen x * 2 ^ lz x = 4294967296 := by rw [← Nat.pow_add]; unfold lz; rw [show Lib.bitLen x + (32 - Lib.bitLen x) = 32 by omega]
  refine ⟨by unfold lz; omega, ?_, ?_⟩
  · rw [← e, ← Nat.mul_assoc]; exact Nat.mul_le_mul_right _ a
  · rw [← e]; exact Nat.mul_lt_mul_of_pos_right b (Nat.two_pow_pos _)

set_option maxRecDepth 100000 in
theorem lz_any (x : Nat) (w : World) (h0 : 0 < x) (h1 : x < 4294967296) :
    Calls Tryz.prog 229 #[.int .u32 x] w fun e w' => w = w' ∧ e = .returned (.int .i64 (lz x : Nat)) := by
  have hle : Lib.bitLen x ≤ 32 := Lib.bitLen_le x 32 (by omega) (by omega)
  have hz : Hid ((32 : Int) - (Lib.bitLen x : Nat) = (lz x : Nat)) := hid (by unfold lz; omega)
  go_enter Tryz.func229, Tryz.ntmps229
  go_wp2_with fail
  refine (len32_any (x : Int) w (by omega) (by omega)).mono ?_
  rintro e w' ⟨rfl, rfl⟩
  rw [Int.toNat_natCast]
  go_wp2_with fail
  go_ret
  exact ⟨rfl, ret_int hz.out⟩

theorem natR0 (k : IntKind) : ∀ (h h' : Mem) (u : Value) (x : Nat), NatIn k h u x → NatIn k h' u x := fun _ _ _ _ h => h
/-- A list of plain values under another mask. -/
theorem _root_.Go.Rep.OL.remask {α : Type} {R : Mem → Value → α → Prop} {sz : Nat} {X Z : Nat → Bool} {base : Nat} {e : TypeId} {w : World} {ao : Option Addr} {cap : Nat} {l : List α} (hR0 : ∀ h h' u x, R h u x → R h' u x) (h : OL R sz X base e w ao cap l) (hz : ∀ k, ob ao k = true → Z k = false) : OL R sz Z base e w ao cap l := by
  obtain ⟨_, us, h1, h2, h3, h4, h5⟩ := h
  exact ⟨hz, us, h1, h2, h3, h4, fun i hi hi' => hR0 _ _ _ _ (h5 i hi hi')⟩
/-- A list of plain values behind a step that turns other blocks. -/
theorem _root_.Go.Rep.OL.skip {α : Type} {R : Mem → Value → α → Prop} {sz : Nat} {X Y : Nat → Bool} {base : Nat} {e : TypeId} {w w' : World} {ao : Option Addr} {cap : Nat} {l : List α} (hR : Elem R sz) (hR0 : ∀ h h' u x, R h u x → R h' u x) (h : OL R sz X base e w ao cap l) (hE : ExtX Y w w') (hd : ∀ k, ob ao k = true → Y k = false) : OL R sz X base e w' ao cap l :=
  ((h.remask hR0 (Z := Y) hd).ext hR hE (Z := Y) (fun _ _ h => h) (fun _ _ h => h)).remask hR0 h.1
theorem ob_block {g k : Nat} (h : ob (some ⟨g, 0, none⟩) k = true) : k = g := by
  have e : g = k := by simpa [ob] using h
  exact e.symm
theorem ob_ne {g k : Nat} (h : k ≠ g) : ob (some ⟨g, 0, none⟩) k = false := by
  cases hh : ob (some ⟨g, 0, none⟩) k
  · rfl
  · exact absurd (ob_block hh) h
/-- Where the cells of a list that is not empty lie. -/
theorem _root_.Go.Rep.OL.at_block {α : Type} {R : Mem → Value → α → Prop} {sz : Nat} {X : Nat → Bool} {base : Nat} {e : TypeId} {w : World} {ao : Option Addr} {cap : Nat} {l : List α} (h : OL R sz X base e w ao cap l) (hl : 0 < l.length) : ∃ g, ao = some ⟨g, 0, none⟩ ∧ base ≤ g ∧ g < w.heap.size := by
  rcases h.form with ⟨_, _, rfl⟩ | ⟨g, cur, rfl, h6, h7, _⟩
  · simp at hl
  · exact ⟨g, rfl, h6, (Array.getElem?_eq_some_iff.1 h7).1⟩

/-- A window of a slice. -/
theorem _root_.Go.Rep.st_win {P : Program} {ops : Array Oper} {Q : Exit → Act → World → Prop} {rest : List Oper} {a : Act} {w : World} {d : Option Tmp} {ty : TypeId} {ps : String} {af : Array Edge} {t e by_ : Nat} {z : Value} {x lo hi_ : Operand} {k1 k2 : IntKind} {m n : Int} {g len cap : Nat} (T : SliceT P t e 1 by_ z) (i j : Nat) (hx : a.eval x = .slice (some ⟨g, 0, none⟩) len cap) (hlo : a.eval lo = .int k1 m) (hm : m = (i : Int))
    (hhi : a.eval hi_ = .int k2 n) (hn : n = (j : Int)) (hij : i < j) (hj : j ≤ cap)
    (K : wpList P ops Q rest (a.put d (.slice (some ⟨g, i, none⟩) (j - i) (cap - i))) w) :
    wpList P ops Q (⟨d, .slice t x (some lo) (some hi_) none, ty, ps, af, none⟩ :: rest) a w := by
  refine wpList_plain rfl fun K' hK' => ?_
  subst hm; subst hn
  have hr := run_slice_ij (P := P) (ao := some ⟨g, 0, none⟩) T len cap k1 k2 i j (by omega) hj w
  have e1 : subAddr (some ⟨g, 0, none⟩) i cap 1 = some ⟨g, i, none⟩ := by
    have : ¬ cap = i := by omega
    simp [subAddr, this, Addr.add_lit]
  rw [e1] at hr
  unfold Oper.wp
  simp [execOp, hx, hlo, hhi, hr, Result.andThen]
  exact hK' _ _ K

/-- Quotient and remainder come back. -/
def QrOut (X : Nat → Bool) (w : World) (q r : Nat) (e : Ending) (w' : World) : Prop :=
  Ext w w' ∧ ∃ ao cap l bo cbp m, e = .returned (.tuple #[.slice ao l.length cap, .slice bo m.length cbp]) ∧ l.length ≤ cap ∧ Canon l q ∧ Sl (NatIn .u32) 1 (mk X w') ao l ∧ m.length ≤ cbp ∧ Canon m r ∧ Sl (NatIn .u32) 1 (mk X w') bo m

set_option maxRecDepth 100000 in
set_option maxHeartbeats 400000 in
theorem divide_any (X : Nat → Bool) (ao bo : Option Addr) (a b : List Nat) (ca cb : Nat) (w : World) (hsa : Sl (NatIn .u32) 1 (mk X w) ao a) (hsb : Sl (NatIn .u32) 1 (mk X w) bo b)
    (na nb : Nat) (hca : Canon a na) (hcb : Canon b nb) (hle : nb ≤ na) (hb2 : 2 ≤ b.length) (hal : a.length ≤ 1099511627776) (hX : ∀ k, X k = true → k < w.heap.size) :
    Calls Tryz.prog 223 #[.slice ao a.length ca, .slice bo b.length cb] w (QrOut X w (na / nb) (na % nb)) := by
  have hhb := hsb.hd
  have hcbl := hsb.nat (b.length - 1) (by omega)
  have hbl : b.length ≤ a.length := by rw [hca.len, hcb.len]; exact lg_mono hle
  obtain ⟨t, ht⟩ : ∃ t, b[b.length - 1]'(by omega) = t := ⟨_, rfl⟩
  have htB := hcb.1.get (b.length - 1) (by omega)
  have ht0 : t ≠ 0 := by
    have := hcb.2.1
    rw [validL_last (by omega)] at this
    rw [← ht]; simpa using this
  rw [ht] at hcbl
  rw [ht, B_eq] at htB
  obtain ⟨s, hs⟩ : ∃ s, lz t = s := ⟨_, rfl⟩
  have hlz := lz_spec (show 0 < t by omega) htB
  rw [hs] at hlz
  obtain ⟨hs32, hn1, hn2⟩ := hlz
  have ht' := hid ht
  have hlz1 := hid hn1
  have hlz2 := hid hn2
  have hlzc : ∀ W, Calls Tryz.prog 229 #[.int .u32 t] W fun e w' => W = w' ∧ e = .returned (.int .i64 (s : Nat)) := fun W => by rw [← hs]; exact lz_any t W (by omega) htB
  clear hn1 hn2 ht
  go_enter Tryz.func223, Tryz.ntmps223
  go_wp2_with (first | (with_reducible refine up_ix1 slU32 (by omega) (by assumption) ?_) | (go_at_call 229; refine (hlzc _).mono ?_; rintro e w' ⟨rfl, rfl⟩))
  clear hs hlzc hcbl
  refine (shifted_any noY ao a ca s w (hsa.mono (NatIn.mono _) (by rw [mk_noY]; exact mk_le X w)) hca.1 hal hs32 (fun k hk => by simp [noY] at hk)).mono ?_
  rintro e w1 ⟨hE1, uo, U, rfl, hU, hUf⟩
  have hsb1 := hsb.mono (NatIn.mono _) (mk_ext hE1)
  go_wp2_with fail
  refine (shifted_any noY bo b cb s w1 (hsb1.mono (NatIn.mono _) (by rw [mk_noY]; exact mk_le X w1)) hcb.1 (by omega) hs32 (fun k hk => by simp [noY] at hk)).mono ?_
  rintro e w2 ⟨hE2, vo, V0, rfl, hV0, hVf⟩
  have hV0l : V0.length ≤ 1099511627777 := by rw [hVf.out.1]; omega
  obtain ⟨gu, rfl, hgu1, hgu2⟩ := hU.at_block (by rw [hUf.out.1]; omega)
  have hV1 : Sl (NatIn .u32) 1 (mk (ob (some ⟨gu, 0, none⟩)) w2) vo V0 := (hV0.remask (natR0 _) (Z := ob (some ⟨gu, 0, none⟩)) (fun k hk => ob_ne (by have := (hV0.block hk).1; omega))).sl (NatIn.elem _)
  go_wp2_with fail
  refine (trimmed_any (ob (some ⟨gu, 0, none⟩)) vo V0 V0.length w2 hV1 hVf.out.2.1 (by omega) (Nat.le_refl _)).mono ?_
  rintro e w' ⟨rfl, V, rfl, hVl', hVc, hVs⟩
  obtain ⟨m, hm⟩ : ∃ m, a.length = m + b.length := ⟨a.length - b.length, by omega⟩
  obtain ⟨n, hn⟩ : ∃ n, b.length = n := ⟨_, rfl⟩
  rw [hVf.out.2.2.2] at hVc
  have hnorm := div_norm hcb.1 hn (by omega) ((getD_of_lt (by omega)).trans (by rw [← ht'.out]; congr 1; omega)) hs32 hlz1.out hlz2.out hVc
  have hna : nv a = na := hca.2.2
  have hnb : nv b = nb := hcb.2.2
  have hnvV := hVc.2.2
  rw [hnb] at hnvV
  have hVd := hVc.1
  have hUl : U.length = m + 1 + n := by rw [hUf.out.1, hm, hn]; omega
  have hUd := hUf.out.2.1
  have hst0 := DivInv.start (m := m) (n := n) (a := na) hUd hUl (by omega) (by rw [hUf.out.2.2.2, hna]) (by have := hUf.out.2.2.1; rw [hm, hn] at this; exact this) hs32 hnorm.1 hnorm.2
  obtain ⟨hVn, hVt⟩ := hnorm
  have hst := hid hst0
  have hUo := hU.ext0 (NatIn.elem _) hE2
  rw [hn] at hm ⊢
  rw [hm]
  have hmb : m ≤ 1099511627776 := by omega
  have hnb2 : 2 ≤ n := by omega
  have hnb3 : n ≤ 1099511627776 := by omega
  have hVt' := hid hVt
  have hVn' := hid hVn
  have hUl' := hid hUl
  have hnvV' := hid hnvV
  have hE12 := hE1.trans hE2
  clear hst0 hVt hVn hUl hnvV hna hnb hV1 hUf hVf hV0l hU hsa hsb hsb1 hcb hca hle hb2 hbl hal hhb ht0 htB ht' hlz1 hlz2 hVc hVl' hV0 hUd
  go_wp2_with (at_make; refine st_make slU32 (NatIn.elem .u32) 0 (fun _ => rfl) noY (fun k hk => by simp [noY] at hk) w2.heap.size (Nat.le_refl _) (m + 1) rfl rfl (by omega) (by omega) (by omega) ?_; intro qo w3 hQ hE3)
  have hqb : ∀ k, ob qo k = true → w2.heap.size ≤ k := fun k hk => (hQ.block hk).1
  have hgq : ob qo gu = false := by
    cases hh : ob qo gu
    · rfl
    · have := hqb gu hh; have := hE2.size; omega
  have hU3 : OL (NatIn .u32) 1 (un noY qo) w.heap.size 123 w3 (some ⟨gu, 0, none⟩) U.length U := (hUo.ext0 (NatIn.elem _) hE3).remask (natR0 _) (fun k hk => by have := ob_block hk; subst this; simp [un, noY, hgq])
  have hQ3 : OL (NatIn .u32) 1 (un noY (some ⟨gu, 0, none⟩)) w2.heap.size 123 w3 qo (m + 1) (List.replicate (m + 1) 0) := hQ.remask (natR0 _) (fun k hk => by
    have h1 := hqb k hk
    have h2 : ob (some ⟨gu, 0, none⟩) k = false := ob_ne (by have := hE2.size; omega)
    simp [un, noY, h2])
  have hV3 : Sl (NatIn .u32) 1 (mk (un (un noY qo) (some ⟨gu, 0, none⟩)) w3) vo V := hVs.mono (NatIn.mono _) (mk_over hE3 (fun k _ hk => by simp [noY] at hk) fun k hk hz => by
    have h1 : ob qo k = false := by
      cases hh : ob qo k
      · rfl
      · have := hqb k hh; omega
    simpa [un, noY, h1] using hz)
  have hE13 := hE12.trans hE3
  have hwq : w.heap.size ≤ w2.heap.size := hE12.size
  have hqX : ∀ k, ob qo k = true → X k = false := fun k hk => by
    cases hh : X k
    · rfl
    · have := hX k hh; have := hqb k hk; omega
  have hgw : gu < w2.heap.size := Nat.lt_of_lt_of_le hgu2 hE2.size
  have hUc : m + 1 + n ≤ U.length := by rw [hUl'.out]; exact Nat.le_refl _
  have hhv := hVs.hd
  clear hUo hQ hVs hE1 hE2 hE3 hE12 hm hn
  go_loopw [10] (fun c wr => ∃ (k : Nat) (x : Int) (U' Q : List Nat), c = .int .i64 x ∧ x = (k : Int) - 1 ∧ k ≤ m + 1 ∧ Hid (DivInv (na * 2 ^ s) V U' Q k) ∧ Hid (U'.length = m + 1 + n) ∧ Hid (Q.length = m + 1) ∧ OL (NatIn .u32) 1 (un noY qo) w.heap.size 123 wr (some ⟨gu, 0, none⟩) U.length U' ∧
    OL (NatIn .u32) 1 (un noY (some ⟨gu, 0, none⟩)) w2.heap.size 123 wr qo (m + 1) Q ∧ Sl (NatIn .u32) 1 (mk (un (un noY qo) (some ⟨gu, 0, none⟩)) wr) vo V ∧ Ext w wr) (fun c _ => (intOf c + 1).toNat)
  case atStart => exact ⟨m + 1, _, U, _, rfl, by omega, by omega, hst, hUl', hid (by simp), hU3, hQ3, hV3, hE13⟩
  case round =>
    obtain ⟨k, x, U', Q, rfl, hx, hk, hinv, hUl2, hQl, hUr, hQr, hVr, hEr⟩ := hrel
    clear hU3 hQ3 hV3 hE13 hst
    have hhq : Hd qo (m + 1) := by have := hQr.hd; rwa [hQl.out] at this
    cases k with
    | zero =>
      obtain rfl : x = -1 := by omega
      obtain ⟨hd1, hd2, hd3⟩ := hinv.out.done rfl hnvV'.out
      have hUd := hinv.out.1
      have hQd := hinv.out.2.1
      have hd1' := hid hd1
      have hd2' := hid hd2
      have hlast : Hid (nv U' / 2 ^ s < B ^ n) := hid (Nat.lt_of_le_of_lt (Nat.div_le_self _ _) (Nat.lt_trans hd3 (by have := nv_lt hVd; rwa [hVn'.out] at this)))
      have hUr2 := hUr.remask (natR0 _) (Z := noY) (fun k hk => rfl)
      have hub : ∀ k, ob (some ⟨gu, 0, none⟩) k = true → k < wr.heap.size := fun k hk => (hUr.block hk).2
      have hqb2 : ∀ k, ob qo k = true → k < wr.heap.size := fun k hk => (hQr.block hk).2
      have hwr : w.heap.size ≤ wr.heap.size := hEr.size
      have hQr2 := hQr.remask (natR0 _) (Z := noY) (fun k hk => rfl)
      clear hx hd1 hd2 hd3 hinv hUr hQr hVr hqb hgq hwq hgw hgu1 hgu2 hhv
      go_wp2_with (at_make; refine st_make slU32 (NatIn.elem .u32) 0 (fun _ => rfl) noY (fun k hk => by simp [noY] at hk) wr.heap.size (Nat.le_refl _) n rfl rfl (by omega) (by omega) (by omega) ?_; intro ro w4 hR hE4)
      have hU4 := hUr2.ext0 (NatIn.elem _) hE4
      have hQ4 := hQr2.ext0 (NatIn.elem _) hE4
      have hE5 := hEr.trans hE4
      have hrb : ∀ k, ob ro k = true → wr.heap.size ≤ k := fun k hk => (hR.block hk).1
      have hrX : ∀ k, ob ro k = true → X k = false := fun k hk => by
        cases hh : X k
        · rfl
        · have := hX k hh; have := hrb k hk; omega
      clear hUr2 hQr2 hE4 hEr
      go_loopw [103] (fun c wx => ∃ (i : Nat) (o : List Nat), c = .int .i64 i ∧ i ≤ n ∧ Hid (ShrInv U' o s n i) ∧ Hid (o.length = n) ∧ OL (NatIn .u32) 1 noY wr.heap.size 123 wx ro n o ∧ ExtX (ob ro) w4 wx ∧ Ext w wx) (fun c _ => n - (intOf c).toNat)
      case atStart => exact ⟨0, _, rfl, by omega, hid (ShrInv.start U' s n), hid (by simp), hR, ExtX.refl _, hE5⟩
      case round =>
        obtain ⟨i, o, rfl, hi, hinv, hol, hO, hEx, hEw⟩ := hrel
        clear hR hE5
        have hho : Hd ro n := by have := hO.hd; rwa [hol.out] at this
        have hUx := hU4.skip (NatIn.elem _) (natR0 _) hEx (fun k hk => by
          cases hh : ob ro k
          · rfl
          · have := hrb k hh; have := hub k hk; omega)
        by_cases hlt : i < n
        · have hi1 : i + 1 < U'.length := by rw [hUl2.out]; omega
          have hs := hUx.sl (NatIn.elem _)
          have c1 := hs.nat (i + 1) hi1
          have c0 := hs.nat i (by omega)
          obtain ⟨x, hx⟩ : ∃ x, U'[i + 1] = x := ⟨_, rfl⟩
          obtain ⟨y, hy⟩ : ∃ y, U'[i]'(by omega) = y := ⟨_, rfl⟩
          have bx := hUd.get (i + 1) hi1
          have by_ := hUd.get i (by omega)
          rw [hx, B_eq] at bx
          rw [hy, B_eq] at by_
          rw [hx, adr_some, Nat.zero_add] at c1
          rw [hy, adr_some, Nat.zero_add] at c0
          have hst := hid (hinv.out.step hlt hs32 hi1 hUd hx hy)
          have hhu : Hd (some (⟨gu, 0, none⟩ : Addr)) U.length := fun _ => ⟨_, _, rfl⟩
          have i1 : ∀ W, (Instr.indexAt 27 (.slice (some ⟨gu, 0, none⟩) U.length U.length) (.int .i64 ((i : Int) + 1))).run Tryz.prog W = .ok (.pointer (some ⟨gu, i + 1, none⟩)) W := fun W => by
            have := run_ix1 slU32 (some ⟨gu, 0, none⟩) U.length U.length .i64 (i + 1) (m := (i : Int) + 1) hhu (by omega) (by omega) W
            rwa [adr_some, Nat.zero_add] at this
          have i2 : ∀ W, (Instr.indexAt 27 (.slice (some ⟨gu, 0, none⟩) U.length U.length) (.int .i64 (i : Int))).run Tryz.prog W = .ok (.pointer (some ⟨gu, i, none⟩)) W := fun W => by
            have := run_ix1 slU32 (some ⟨gu, 0, none⟩) U.length U.length .i64 i (m := (i : Int)) hhu (by omega) rfl W
            rwa [adr_some, Nat.zero_add] at this
          have i3 : ∀ W, (Instr.indexAt 27 (.slice ro n n) (.int .i64 (i : Int))).run Tryz.prog W = .ok (.pointer (some (adr ro i))) W := run_ix1 slU32 ro n n .i64 i hho hlt rfl
          have s1 : IntKind.i64.wrap ((i : Int) + 1) = (i : Int) + 1 := IntWalk.i64_in _ (by omega)
          have hor := or_shl32 x y bx by_
          have hval : Hid (IntKind.u32.wrap (bits BinOp.or IntKind.u64 (IntKind.u64.wrap (IntKind.u64.wrap (x : Int) * 4294967296)) (IntKind.u64.wrap (y : Int)) / 2 ^ s) = (((x * 4294967296 + y) / 2 ^ s % 4294967296 : Nat) : Int)) := hid (by
            rw [IntWalk.u64_in (x : Int) (by omega), IntWalk.u64_in ((x : Int) * 4294967296) (by omega), IntWalk.u64_in (y : Int) (by omega), hor, IntKind.wrap_u32]
            simp)
          clear hx hy hinv hs
          go_wp2_with fail
          go_still_tail 19, (by kernel_rfl)
          change wpList _ _ _ _ _ wr.drew
          have hEd : ExtX noY wr wr.drew := (ExtX.refl wr).drew
          have hOd := hO.ext0 (NatIn.elem _) hEd
          have hExd := hEx.trans (ExtX.of hEd)
          have hEwd := hEw.trans hEd
          generalize wr.drew = wd at hOd hExd hEwd ⊢
          clear i1 i2 i3 c1 c0 hor s1 hEd hO hEx hEw
          go_wp2_with ((with_reducible show wpList _ _ _ (⟨_, .store _ _ _, _, _, _, _⟩ :: _) _ _); refine st_storeNat tyU32 i ((x * 4294967296 + y) / 2 ^ s % 4294967296) rfl rfl hOd (by rw [hol.out]; exact hlt) rfl hval.out ?_; intro w6 hO6 hE6)
          have hol2 : Hid ((o.set i ((x * 4294967296 + y) / 2 ^ s % 4294967296)).length = n) := hid (by rw [List.length_set]; exact hol.out)
          go_roundw
          case rel => exact ⟨i + 1, _, by go_num, by omega, hst, hol2, hO6, hExd.trans hE6, hEwd.own hOd hwr hE6⟩
          case measure => simp [intOf]; omega
        · have hin : i = n := by omega
          subst hin
          have hQx := hQ4.skip (NatIn.elem _) (natR0 _) hEx (fun k hk => by
            cases hh : ob ro k
            · rfl
            · have := hrb k hh; have := hqb2 k hk; omega)
          have hfin := hid (hinv.out.done hlast.out)
          have hRd := hinv.out.2.1
          have hQs : Sl (NatIn .u32) 1 (mk X wr) qo Q := (hQx.remask (natR0 _) (Z := X) hqX).sl (NatIn.elem _)
          have hOs : Sl (NatIn .u32) 1 (mk X wr) ro o := (hO.remask (natR0 _) (Z := X) hrX).sl (NatIn.elem _)
          have hT1 := trimmed_any X qo Q (m + 1) wr hQs hQd (by rw [hQl.out]; omega) (by rw [hQl.out]; exact Nat.le_refl _)
          have hT2 := trimmed_any X ro o i wr hOs hRd (by rw [hol.out]; omega) (by rw [hol.out]; exact Nat.le_refl _)
          rw [hQl.out] at hT1
          rw [hol.out] at hT2
          have hl1 : Q.length ≤ m + 1 := by rw [hQl.out]; exact Nat.le_refl _
          have hl2 : o.length ≤ i := by rw [hol.out]; exact Nat.le_refl _
          clear hinv hU4 hQ4 hUx hQx hUd
          go_wp2_with fail
          refine hT1.mono ?_
          rintro e w' ⟨rfl, l1, rfl, h11, h12, h13⟩
          go_wp2_with fail
          refine hT2.mono ?_
          rintro e w' ⟨rfl, l2, rfl, h21, h22, h23⟩
          clear hT1 hT2
          go_wp2_with fail
          go_ret2
          rw [hd1'.out] at h12
          rw [hfin.out, hd2'.out] at h22
          exact ⟨hEw, _, _, l1, _, _, l2, rfl, Nat.le_trans h11 hl1, h12, h13, Nat.le_trans h21 hl2, h22, h23⟩
    | succ j =>
      obtain rfl : x = (j : Int) := by omega
      clear hx
      have hjU : j + (n + 1) ≤ U'.length := by rw [hUl2.out]; omega
      obtain ⟨w1, w2', w3', w4, w5, w6, w7⟩ := hinv.out.win hjU hVn'.out hVd
      obtain ⟨W, hW⟩ : ∃ W, (U'.drop j).take (n + 1) = W := ⟨_, rfl⟩
      have hge : ∀ i, i ≤ n → U'.getD (j + i) 0 = W.getD i 0 := fun i hi => by rw [← hW]; exact (win_getD hi).symm
      have hnx := fun (o : List Nat) h1 h2 h3 => (fun (p : _ ∧ _) => And.intro p.1 (p.2.trans hUl2.out)) (hinv.out.next (W' := o) hjU (by rw [hQl.out]; omega) hVn'.out hVd h1 h2 h3)
      rw [hW] at w1 w2' w3' w5 w6
      simp only [hW] at hnx
      obtain ⟨A, hA⟩ : ∃ A, U'.take j = A := ⟨_, rfl⟩
      obtain ⟨R, hR⟩ : ∃ R, U'.drop (j + (n + 1)) = R := ⟨_, rfl⟩
      rw [hA] at w5 w7
      rw [hR] at w5
      simp only [hA, hR] at hnx
      obtain ⟨e1, e2, e3⟩ := est_ok2 w1 hVn'.out hnb2 w2' hVd hVt'.out w3'
      have hVp : 0 < nv V := by
        by_cases h : nv V = 0
        · rw [h] at w3'; omega
        · omega
      have hUs := hUr.sl (NatIn.elem _)
      have c2 := hUs.nat (j + n) (by rw [hUl2.out]; omega)
      have c1 := hUs.nat (j + (n - 1)) (by rw [hUl2.out]; omega)
      have c0 := hUs.nat (j + (n - 2)) (by rw [hUl2.out]; omega)
      rw [← getD_of_lt, hge n (by omega), adr_some, Nat.zero_add] at c2
      rw [← getD_of_lt, hge (n - 1) (by omega), adr_some, Nat.zero_add] at c1
      rw [← getD_of_lt, hge (n - 2) (by omega), adr_some, Nat.zero_add] at c0
      have d1 := hVr.nat (n - 1) (by rw [hVn'.out]; omega)
      have d0 := hVr.nat (n - 2) (by rw [hVn'.out]; omega)
      rw [← getD_of_lt] at d1 d0
      have b2 := w2'.getD n
      have b1 := w2'.getD (n - 1)
      have b0 := w2'.getD (n - 2)
      have f1 := hVd.getD (n - 1)
      have f0 := hVd.getD (n - 2)
      have hvt := hVt'.out
      generalize W.getD n 0 = u2 at *
      generalize W.getD (n - 1) 0 = u1 at *
      generalize W.getD (n - 2) 0 = u0 at *
      generalize V.getD (n - 1) 0 = v1 at *
      generalize V.getD (n - 2) 0 = v0 at *
      rw [B_eq] at b2 b1 b0 f1 f0 hvt
      obtain ⟨x, hx⟩ : ∃ x, estB B u2 u1 u0 v1 v0 = x := ⟨_, rfl⟩
      have hx32 : x < 4294967296 := by rw [← hx]; exact estB_lt
      have hgs : ∀ q, Calls Tryz.prog 231 #[.int .u32 u2, .int .u32 u1, .int .u32 u0, .int .u32 v1, .int .u32 v0] (wr.drewN q) fun e w' => e = .returned (.int .u64 (x : Nat)) ∧ ∃ m, w' = (wr.drewN q).drewN m := fun q => by rw [← hx]; exact guess_any u2 u1 u0 v1 v0 _ (by omega) f1 e1 b1 b0 f0
      rw [hx] at e2 e3
      have hkk := hid (fun (c W' : Nat) => digit_found (c := c) (W' := W') hVp e2 e3 (e := B ^ (n + 1)))
      have hVp' := hid hVp
      have s1 : IntKind.i64.wrap ((j : Int) + (n : Int)) = (j : Int) + (n : Int) := IntWalk.i64_in _ (by omega)
      have s2 : IntKind.i64.wrap ((j : Int) + (n : Int) - 1) = (j : Int) + (n : Int) - 1 := IntWalk.i64_in _ (by omega)
      have s3 : IntKind.i64.wrap ((j : Int) + (n : Int) - 2) = (j : Int) + (n : Int) - 2 := IntWalk.i64_in _ (by omega)
      have s4 : IntKind.i64.wrap ((n : Int) - 1) = (n : Int) - 1 := IntWalk.i64_in _ (by omega)
      have s5 : IntKind.i64.wrap ((n : Int) - 2) = (n : Int) - 2 := IntWalk.i64_in _ (by omega)
      have hhu : Hd (some (⟨gu, 0, none⟩ : Addr)) U.length := fun _ => ⟨_, _, rfl⟩
      have i1 : ∀ W, (Instr.indexAt 27 (.slice (some ⟨gu, 0, none⟩) U.length U.length) (.int .i64 ((j : Int) + (n : Int)))).run Tryz.prog W = .ok (.pointer (some ⟨gu, j + n, none⟩)) W := fun W => by
        have := run_ix1 slU32 (some ⟨gu, 0, none⟩) U.length U.length .i64 (j + n) (m := (j : Int) + (n : Int)) hhu (by omega) (by omega) W
        rwa [adr_some, Nat.zero_add] at this
      have i2 : ∀ W, (Instr.indexAt 27 (.slice (some ⟨gu, 0, none⟩) U.length U.length) (.int .i64 ((j : Int) + (n : Int) - 1))).run Tryz.prog W = .ok (.pointer (some ⟨gu, j + (n - 1), none⟩)) W := fun W => by
        have := run_ix1 slU32 (some ⟨gu, 0, none⟩) U.length U.length .i64 (j + (n - 1)) (m := (j : Int) + (n : Int) - 1) hhu (by omega) (by omega) W
        rwa [adr_some, Nat.zero_add] at this
      have i3 : ∀ W, (Instr.indexAt 27 (.slice (some ⟨gu, 0, none⟩) U.length U.length) (.int .i64 ((j : Int) + (n : Int) - 2))).run Tryz.prog W = .ok (.pointer (some ⟨gu, j + (n - 2), none⟩)) W := fun W => by
        have := run_ix1 slU32 (some ⟨gu, 0, none⟩) U.length U.length .i64 (j + (n - 2)) (m := (j : Int) + (n : Int) - 2) hhu (by omega) (by omega) W
        rwa [adr_some, Nat.zero_add] at this
      have hVle : n ≤ V.length := by rw [hVn'.out]; exact Nat.le_refl _
      have i4 : ∀ W, (Instr.indexAt 27 (.slice vo V.length V0.length) (.int .i64 ((n : Int) - 1))).run Tryz.prog W = .ok (.pointer (some (adr vo (n - 1)))) W := run_ix1 slU32 vo V.length V0.length .i64 (n - 1) hhv (by omega) (by omega)
      have i5 : ∀ W, (Instr.indexAt 27 (.slice vo V.length V0.length) (.int .i64 ((n : Int) - 2))).run Tryz.prog W = .ok (.pointer (some (adr vo (n - 2)))) W := run_ix1 slU32 vo V.length V0.length .i64 (n - 2) hhv (by omega) (by omega)
      have hWh := hid w1
      have hAl := hid w7
      have hUr2 : OL (NatIn .u32) 1 (un noY qo) w.heap.size 123 wr (some ⟨gu, 0, none⟩) U.length (A ++ W ++ R) := by rw [← w5]; exact hUr
      have hnx' := hid hnx
      clear hnx hinv w1 w3' w4 w5 w6 w7 hge hUs hx e1 e2 e3 b2 b1 b0 f1 f0 hvt hA hR hW hVp hUr hUl2 hjU
      clear U'
      go_wp2_with fail
      go_quiet ((go_at_call 231; with_reducible exact Calls.quiet_of (hgs _)))
      clear c2 c1 c0 d1 d0 i1 i2 i3 i4 i5 hgs s2 s3 s4 s5
      have hjc : j < U.length := by omega
      have hjn : j + n + 1 ≤ U.length := by omega
      have hwl : j + n + 1 - j = W.length := by rw [hWh.out]; omega
      have hEd : ExtX noY wr (wr.drewN nq) := (ExtX.refl wr).drewN nq
      have hUd := hUr2.ext0 (NatIn.elem _) hEd
      have hQd := hQr.ext0 (NatIn.elem _) hEd
      have hVd2 : Sl (NatIn .u32) 1 (mk (un (un noY qo) (some ⟨gu, 0, none⟩)) (wr.drewN nq)) vo V := hVr
      have hEn := hEr.trans hEd
      clear hUr2 hQr hVr hEr
      generalize wr.drewN nq = wd at *
      go_wp2_with (first | ((with_reducible show wpList _ _ _ (⟨_, .slice _ _ _ _ _, _, _, _, _⟩ :: _) _ _); refine st_win slU32 j (j + n + 1) rfl rfl rfl rfl (by omega) (by omega) (by omega) ?_))
      have hr := reduce_any (un noY qo) w.heap.size gu U.length (U.length - j) A W R V vo V0.length x n wd hUd hVd2 hWh.out hVn'.out hVd w2' hx32 (by rw [hAl.out]; omega) hnb3
      rw [hAl.out] at hr
      refine hr.mono ?_
      clear hr
      rintro e w6 ⟨hE6, o, ⟨bo, rfl, hol, hod, hcs⟩, hU6⟩
      have hdf := hkk.out bo (nv o) hcs
      have hol' := hid hol
      have hV6 := hVd2.unstep (NatIn.mono _) hE6 (.inl rfl)
      have hQ6 := hQd.skip (NatIn.elem _) (natR0 _) hE6 (fun k hk => ob_ne (by have := hqb k hk; omega))
      have hE7 := hEn.own hUd (Nat.le_refl _) hE6
      clear hkk hol hE6 hUd hQd hVd2 hEn
      rcases hcs with ⟨rfl, _⟩ | ⟨rfl, _⟩
      · obtain ⟨k1, k2⟩ := hdf.1 rfl
        have hn1 := hid (hnx'.out o hod hol'.out k2)
        rw [← k1] at hn1
        clear hdf k1 k2 hnx'
        go_wp2_with (first | (with_reducible refine up_ix1 slU32 (by omega) (by assumption) ?_) | ((with_reducible show wpList _ _ _ (⟨_, .store _ _ _, _, _, _, _⟩ :: _) _ _); refine st_storeNat tyU32 j x rfl rfl hQ6 (by rw [hQl.out]; omega) rfl (by omega) ?_; intro w8 hQ8 hE8))
        have hU8 := hU6.skip (NatIn.elem _) (natR0 _) hE8 (fun k hk => by have := ob_block hk; subst this; exact hgq)
        have hV8 : Sl (NatIn .u32) 1 (mk (un (un noY qo) (some ⟨gu, 0, none⟩)) w8) vo V := hV6.mono (NatIn.mono _) (mk_mono hE8 (fun k hk => un_left (un_right hk)))
        go_roundw
        case rel => exact ⟨j, _, _, _, rfl, rfl, by omega, hid hn1.out.1, hid hn1.out.2, hid (by rw [List.length_set]; exact hQl.out), hU8, hQ8, hV8, hE7.own hQ6 hwq hE8⟩
        case measure => simp [intOf]
      · obtain ⟨k0, k1, k2⟩ := hdf.2 rfl
        have k2' := hid k2
        clear hdf k2
        go_wp2_with (first | ((with_reducible show wpList _ _ _ (⟨_, .slice _ _ _ _ _, _, _, _, _⟩ :: _) _ _); refine st_win slU32 j (j + n + 1) rfl rfl rfl rfl (by omega) (by omega) (by omega) ?_))
        have hr := restore_any (un noY qo) w.heap.size gu U.length (U.length - j) A o R V vo V0.length n w6 hU6 hV6 hol'.out hVn'.out hVd hod (by rw [hAl.out]; omega) hnb3
        rw [hAl.out] at hr
        rw [show o.length = W.length by rw [hol'.out, hWh.out]] at hr
        refine hr.mono ?_
        clear hr
        rintro e w7 ⟨hE9, o2, ⟨c, rfl, hl2, hd2, hc, hs2⟩, hU7⟩
        have hn1 := hid (hnx'.out o2 hd2 hl2 (restored hVd hVn'.out hVp'.out k2'.out hs2 hc hd2 hl2))
        rw [← k1] at hn1
        have hV7 := hV6.unstep (NatIn.mono _) hE9 (.inl rfl)
        have hQ7 := hQ6.skip (NatIn.elem _) (natR0 _) hE9 (fun k hk => ob_ne (by have := hqb k hk; omega))
        have hE10 := hE7.own hU6 (Nat.le_refl _) hE9
        have hx1 : (1 : Int) ≤ (x : Int) := by omega
        clear k1 hnx' hl2 hs2 hU6 hV6 hQ6 hE9 hE7
        go_wp2_with (first | (with_reducible refine up_ix1 slU32 (by omega) (by assumption) ?_) | ((with_reducible show wpList _ _ _ (⟨_, .store _ _ _, _, _, _, _⟩ :: _) _ _); refine st_storeNat tyU32 j (x - 1) rfl rfl hQ7 (by rw [hQl.out]; omega) rfl (by omega) ?_; intro w8 hQ8 hE8))
        have hU8 := hU7.skip (NatIn.elem _) (natR0 _) hE8 (fun k hk => by have := ob_block hk; subst this; exact hgq)
        have hV8 : Sl (NatIn .u32) 1 (mk (un (un noY qo) (some ⟨gu, 0, none⟩)) w8) vo V := hV7.mono (NatIn.mono _) (mk_mono hE8 (fun k hk => un_left (un_right hk)))
        go_roundw
        case rel => exact ⟨j, _, _, _, rfl, rfl, by omega, hid hn1.out.1, hid hn1.out.2, hid (by rw [List.length_set]; exact hQl.out), hU8, hQ8, hV8, hE10.own hQ7 hwq hE8⟩
        case measure => simp [intOf]
end Go.Proofs.YtjbhcniiioepgaaGreat

namespace Go.Lim

theorem canon_len0 {l : List Nat} {n : Nat} (h : Canon l n) : l.length = 0 ↔ n = 0 := by
  rw [← canon_nil_iff h]; exact List.length_eq_zero_iff

/-- Is a sign with digits an integer in its only form? -/
def validZ (s : Bool) (m : List Nat) : Bool := validL m && (decide (0 < m.length) || !s)
/-- The value of a sign with digits: 0 if they are no integer in its only form. -/
noncomputable def zval (s : Bool) (m : List Nat) : Int := if validZ s m then (if s then -(nv m : Int) else nv m) else 0
/-- A sign and digits are the only form of z. -/
def CanZ (s : Bool) (m : List Nat) (z : Int) : Prop := s = decide (z < 0) ∧ Canon m z.natAbs

theorem CanZ.of_valid {s : Bool} {m : List Nat} (hd : Dig m) (h : validZ s m = true) : CanZ s m (zval s m) := by
  have hv : validL m = true := by unfold validZ at h; simp at h; exact h.1
  have hc : Canon m (nv m) := ⟨hd, hv, rfl⟩
  have h0 := canon_len0 hc
  unfold zval
  rw [if_pos h]
  cases s
  · simp only [Bool.false_eq_true, if_false]
    exact ⟨by simp, by simpa using hc⟩
  · have hm : 0 < m.length := by unfold validZ at h; simpa [hv] using h
    simp only [if_true]
    refine ⟨?_, by simpa using hc⟩
    have : nv m ≠ 0 := fun e => by rw [e] at h0; simp at h0; simp [h0] at hm
    symm; rw [decide_eq_true_eq]; omega
theorem CanZ.valid {s : Bool} {m : List Nat} {z : Int} (h : CanZ s m z) : validZ s m = true := by
  obtain ⟨hs, hm⟩ := h
  have h0 := canon_len0 hm
  unfold validZ
  rw [hm.2.1]
  by_cases hz : z < 0
  · have : 0 < m.length := by omega
    simp [this]
  · simp [hs, hz]
theorem CanZ.val {s : Bool} {m : List Nat} {z : Int} (h : CanZ s m z) : zval s m = z := by
  unfold zval
  rw [if_pos h.valid]
  obtain ⟨hs, hm⟩ := h
  rw [hm.2.2]
  by_cases hz : z < 0
  · simp only [hs, hz, decide_true, if_true]; omega
  · simp only [hs, hz, decide_false, Bool.false_eq_true, if_false]; omega
theorem CanZ.zero : CanZ false [] 0 := ⟨rfl, Canon.nil⟩
theorem CanZ.len {s : Bool} {m : List Nat} {z : Int} (h : CanZ s m z) : m.length = lg z.natAbs := h.2.len
theorem CanZ.len0 {s : Bool} {m : List Nat} {z : Int} (h : CanZ s m z) : m.length = 0 ↔ z = 0 := by
  have := canon_len0 h.2; omega
theorem zval_lg (s : Bool) (m : List Nat) (h : Dig m) : lg (zval s m).natAbs ≤ m.length := by
  cases hv : validZ s m
  · unfold zval; rw [hv]; simp [lg_zero]
  · exact Nat.le_of_eq (CanZ.of_valid h hv).len.symm
theorem zval_invalid {s : Bool} {m : List Nat} (h : validZ s m = false) : zval s m = 0 := by unfold zval; rw [h]; rfl

/-- The denominator as it is laid: 0 stands for 1. -/
def dn (q : Rat) : Nat := if q.den = 1 then 0 else q.den
/-- A sign and two lists of digits are the only form of q. -/
def CanQ (s : Bool) (m d : List Nat) (q : Rat) : Prop := CanZ s m q.num ∧ Canon d (dn q)
noncomputable def validQ (s : Bool) (m d : List Nat) : Bool := validZ s m && validL d && (decide (d.length = 0) || (decide (0 < m.length) && !(nv d == 1) && (Nat.gcd (nv m) (nv d) == 1)))
noncomputable def qval (s : Bool) (m d : List Nat) : Rat := if validQ s m d then mkRat (zval s m) (if d.length = 0 then 1 else nv d) else 0

theorem CanQ.of_valid {s : Bool} {m d : List Nat} (hm : Dig m) (hd : Dig d) (h : validQ s m d = true) : CanQ s m d (qval s m d) := by
  have h' := h
  unfold validQ at h'
  simp only [Bool.and_eq_true] at h'
  obtain ⟨⟨h1, h2⟩, h3⟩ := h'
  have hz := CanZ.of_valid hm h1
  have hcd : Canon d (nv d) := ⟨hd, h2, rfl⟩
  have h0 := canon_len0 hcd
  unfold qval
  rw [if_pos h]
  by_cases hl : d.length = 0
  · rw [if_pos hl]
    have e : mkRat (zval s m) 1 = ((zval s m : Int) : Rat) := by rw [← Rat.mk_den_one]; rw [Rat.mk_eq_mkRat]
    rw [e]
    refine ⟨by simpa using hz, ?_⟩
    have : nv d = 0 := h0.1 hl
    simp only [dn, Rat.den_intCast, if_true]
    rw [this] at hcd; exact hcd
  · rw [if_neg hl]
    have hne : nv d ≠ 0 := fun e => hl (h0.2 e)
    simp [hl] at h3
    obtain ⟨⟨h4, h5⟩, h6⟩ := h3
    have habs : (zval s m).natAbs = nv m := by have := hz.2.2.2; omega
    have hg : (nv d).gcd (zval s m).natAbs = 1 := by rw [habs, Nat.gcd_comm]; exact h6
    have e1 : (mkRat (zval s m) (nv d)).num = zval s m := by rw [Rat.num_mkRat, if_neg hne, hg]; simp
    have e2 : (mkRat (zval s m) (nv d)).den = nv d := by rw [Rat.den_mkRat, if_neg hne, hg]; simp
    exact ⟨by rw [e1]; exact hz, by unfold dn; rw [e2, if_neg h5]; exact hcd⟩
theorem CanQ.valid {s : Bool} {m d : List Nat} {q : Rat} (h : CanQ s m d q) : validQ s m d = true := by
  obtain ⟨h1, h2⟩ := h
  have h3 := canon_len0 h2
  have h4 := h1.len0
  have h5 := q.reduced
  have h6 := q.den_nz
  unfold validQ
  rw [h1.valid, h2.2.1, h2.2.2, h1.2.2.2]
  by_cases hd : q.den = 1
  · have : d.length = 0 := by rw [h3]; unfold dn; rw [if_pos hd]
    simp [this]
  · have e : dn q = q.den := by unfold dn; rw [if_neg hd]
    rw [e] at h3 ⊢
    have hn : q.num ≠ 0 := fun e => by rw [e] at h5; simp [Nat.Coprime] at h5; exact hd h5
    have hm : 0 < m.length := by omega
    have hg : q.num.natAbs.gcd q.den = 1 := h5
    simp [hm, hd, hg]
theorem CanQ.val {s : Bool} {m d : List Nat} {q : Rat} (h : CanQ s m d q) : qval s m d = q := by
  unfold qval
  rw [if_pos h.valid]
  obtain ⟨h1, h2⟩ := h
  have h3 := canon_len0 h2
  rw [h1.val, h2.2.2]
  by_cases hd : q.den = 1
  · have : d.length = 0 := by rw [h3]; unfold dn; rw [if_pos hd]
    rw [if_pos this]
    conv => rhs; rw [← Rat.mkRat_self q]
    rw [hd]
  · have e : dn q = q.den := by unfold dn; rw [if_neg hd]
    have hl : d.length ≠ 0 := by rw [e] at h3; have := q.den_nz; omega
    rw [if_neg hl, e, Rat.mkRat_self]
theorem CanQ.unique {s s' : Bool} {m d m' d' : List Nat} {q : Rat} (h : CanQ s m d q) (h' : CanQ s' m' d' q) : s = s' ∧ m = m' ∧ d = d' :=
  ⟨h.1.1.trans h'.1.1.symm, h.1.2.unique h'.1.2, h.2.unique h'.2⟩
theorem CanQ.zero : CanQ false [] [] 0 := ⟨CanZ.zero, by simp [dn]; exact Canon.nil⟩
theorem CanQ.ofInt {s : Bool} {m : List Nat} {z : Int} (h : CanZ s m z) : CanQ s m [] (z : Rat) := ⟨by simpa using h, by simp [dn]; exact Canon.nil⟩
theorem qval_invalid {s : Bool} {m d : List Nat} (h : validQ s m d = false) : qval s m d = 0 := by unfold qval; rw [h]; rfl

/-- The size of a rational number: digits of its numerator and of its denominator. -/
def hq (q : Rat) : Nat := max (lg q.num.natAbs) (lg q.den)
theorem hq_num (q : Rat) : lg q.num.natAbs ≤ hq q := Nat.le_max_left _ _
theorem hq_den (q : Rat) : lg q.den ≤ hq q := Nat.le_max_right _ _
theorem hq_dn (q : Rat) : lg (dn q) ≤ hq q := by
  unfold dn; split
  · simp [lg_zero]
  · exact hq_den q
theorem lg_one : lg 1 = 1 := lg_one_iff (by omega) (by omega)
theorem lg_two_pow_ge {n : Nat} (h : 0 < n) : 1 ≤ lg n := lg_pos h
theorem hq_pos (q : Rat) : 1 ≤ hq q := Nat.le_trans (lg_two_pow_ge q.den_pos) (hq_den q)
theorem hq_mkRat (z : Int) (d k : Nat) (h1 : lg z.natAbs ≤ k) (h2 : lg d ≤ k) (hk : 1 ≤ k) : hq (mkRat z d) ≤ k := by
  by_cases hd : d = 0
  · subst hd; rw [Rat.mkRat_zero]; unfold hq; simp [lg_zero, lg_one]; exact hk
  · unfold hq
    rw [Rat.num_mkRat, Rat.den_mkRat, if_neg hd, if_neg hd]
    refine Nat.max_le.2 ⟨Nat.le_trans (lg_mono ?_) h1, Nat.le_trans (lg_mono (Nat.div_le_self _ _)) h2⟩
    exact Int.natAbs_ediv_le_natAbs _ _
theorem hq_add (x y : Rat) : hq (x + y) ≤ hq x + hq y + 1 := by
  rw [Rat.add_def']
  refine hq_mkRat _ _ _ ?_ (Nat.le_trans (lg_mul _ _) (by have := hq_den x; have := hq_den y; omega)) (by omega)
  refine Nat.le_trans (lg_mono (Int.natAbs_add_le _ _)) ?_
  refine Nat.le_trans (lg_add _ _) ?_
  rw [Int.natAbs_mul, Int.natAbs_mul, Int.natAbs_natCast, Int.natAbs_natCast]
  have a1 := lg_mul x.num.natAbs y.den
  have a2 := lg_mul y.num.natAbs x.den
  have := hq_num x; have := hq_num y; have := hq_den x; have := hq_den y
  omega
theorem hq_mul (x y : Rat) : hq (x * y) ≤ hq x + hq y := by
  rw [Rat.mul_def']
  refine hq_mkRat _ _ _ ?_ (Nat.le_trans (lg_mul _ _) (by have := hq_den x; have := hq_den y; omega)) (by have := hq_pos x; omega)
  rw [Int.natAbs_mul]
  have := lg_mul x.num.natAbs y.num.natAbs
  have := hq_num x; have := hq_num y
  omega
theorem hq_neg (x : Rat) : hq (-x) = hq x := by unfold hq; simp
theorem hq_sub (x y : Rat) : hq (x - y) ≤ hq x + hq y + 1 := by
  rw [Rat.sub_eq_add_neg, ← hq_neg y]; exact hq_add _ _
theorem hq_zero : hq 0 = 1 := by unfold hq; simp [lg_zero, lg_one]
theorem hq_inv (x : Rat) : hq x⁻¹ ≤ hq x := by
  by_cases h : x = 0
  · subst h; simp
  · have hn : x.num ≠ 0 := fun e => h (Rat.num_eq_zero.1 e)
    unfold hq
    rw [Rat.num_inv, Rat.den_inv, if_neg hn, Int.natAbs_mul, Int.natAbs_sign_of_ne_zero hn, Nat.one_mul, Int.natAbs_natCast, Nat.max_comm]
    exact Nat.le_refl _
theorem hq_div (x y : Rat) : hq (x / y) ≤ hq x + hq y := by
  rw [Rat.div_def]; exact Nat.le_trans (hq_mul _ _) (by have := hq_inv y; omega)
theorem hq_int (z : Int) (k : Nat) (h : lg z.natAbs ≤ k) (hk : 1 ≤ k) : hq (z : Rat) ≤ k := by
  unfold hq; rw [Rat.num_intCast, Rat.den_intCast, lg_one]; exact Nat.max_le.2 ⟨h, hk⟩
theorem qval_hq (s : Bool) (m d : List Nat) (k : Nat) (hm : Dig m) (hd : Dig d) (h1 : m.length ≤ k) (h2 : d.length ≤ k) (hk : 1 ≤ k) : hq (qval s m d) ≤ k := by
  cases hv : validQ s m d
  · rw [qval_invalid hv, hq_zero]; exact hk
  · have hc := CanQ.of_valid hm hd hv
    have e1 := hc.1.len
    have e2 := hc.2.len
    unfold hq
    refine Nat.max_le.2 ⟨by omega, ?_⟩
    unfold dn at e2
    split at e2
    · rename_i h; rw [h, lg_one]; exact hk
    · omega

/-- What 'lowest' makes: both parts without their common divisor. -/
theorem CanQ.lowest {s : Bool} {n d : List Nat} {z : Int} {k : Nat} (hk : k ≠ 0) (hs : s = decide (z < 0)) (hn : Canon n (z.natAbs / Nat.gcd z.natAbs k)) (hd : Canon d (k / Nat.gcd z.natAbs k)) : CanQ s n (if k / Nat.gcd z.natAbs k = 1 then [] else d) (mkRat z k) := by
  have hg : 0 < Nat.gcd z.natAbs k := Nat.gcd_pos_of_pos_right _ (by omega)
  have e1 : (mkRat z k).num = z / (Nat.gcd z.natAbs k : Nat) := by rw [Rat.num_mkRat, if_neg hk, Nat.gcd_comm]
  have e2 : (mkRat z k).den = k / Nat.gcd z.natAbs k := by rw [Rat.den_mkRat, if_neg hk, Nat.gcd_comm]
  have hdv : ((Nat.gcd z.natAbs k : Nat) : Int) ∣ z := Int.ofNat_dvd_left.2 (Nat.gcd_dvd_left _ _)
  have e3 : (mkRat z k).num.natAbs = z.natAbs / Nat.gcd z.natAbs k := by rw [e1, Int.natAbs_ediv_of_dvd hdv, Int.natAbs_natCast]
  refine ⟨⟨?_, by rw [e3]; exact hn⟩, ?_⟩
  · rw [hs, Bool.eq_iff_iff]
    simp only [decide_eq_true_eq]
    rw [e1]
    obtain ⟨g, hgg⟩ : ∃ g, Nat.gcd z.natAbs k = g := ⟨_, rfl⟩
    rw [hgg] at hdv hg ⊢
    obtain ⟨c, rfl⟩ := hdv
    rw [Int.mul_ediv_cancel_left _ (by omega)]
    constructor
    · intro h
      by_cases h0 : c < 0
      · exact h0
      · have := Int.mul_nonneg (Int.natCast_nonneg g) (show 0 ≤ c by omega); omega
    · intro h
      exact Int.mul_neg_of_pos_of_neg (by omega) h
  · unfold dn
    rw [e2]
    split
    · exact Canon.nil
    · exact hd
end Go.Lim
