/- Parts of a proof: each theorem states what it proves, and its conditions. -/
import Derived.Test.YtnnpfhoigmegcaaGreatFlC
import Derived.Lib.BitFns
import Derived.StillTailTactics
import Derived.Lib.Strings
import Derived.Lib.Slices
import Derived.Lib.Small
import Derived.Lib.Walk
import Derived.Laws.CopyRow
import Derived.Deep.RegionHeld3
import Derived.Deep.RegionWith
namespace Go.Proofs.YtnnpfhoigmegcaaGreat
open Go.RowKit Go.Rep Go.Lim
theorem tab_size : Lib.len8tab.size = 256 := by decide +kernel
theorem tab_eq0 : ∀ n : Fin 256, (Lib.len8tab[n.val]'(by rw [tab_size]; exact n.isLt)).toNat = Lib.bitLen n.val := by decide +kernel
theorem tab_eq (i : Nat) (h : i < Lib.len8tab.size) : (Lib.len8tab[i]).toNat = Lib.bitLen i := tab_eq0 ⟨i, by rw [tab_size] at h; exact h⟩
theorem wrapB (b : Nat) (h : b <= 64) : wrap64 (b : Int) = b := by unfold wrap64; omega
theorem wrapKB (k b : Nat) (h : b <= 64) (hk : k <= 64) : wrap64 ((k : Int) + wrap64 (b : Int)) = ((k + b : Nat) : Int) := by rw [wrapB b h]; unfold wrap64; omega
theorem lenA (x : Int) (_h0 : 0 <= x) (h : 16777216 <= x) (h1 : x <= 4294967295) (h2 : (x / 65536 / 256).toNat < Lib.len8tab.size) (n : Int) (hn : n = 24) : wrap64 (n + wrap64 ((Lib.len8tab[(x / 65536 / 256).toNat].toNat : Nat) : Int)) = (Lib.bitLen x.toNat : Int) := by
  subst hn
  rw [tab_eq]
  have e : (x / 65536 / 256).toNat = x.toNat / 16777216 := by omega
  rw [e, Lib.bitLen_shift24 x.toNat (by omega) (by omega)]
  exact wrapKB 24 _ (Nat.le_trans (Lib.bitLen_le _ 8 (by omega) (by omega)) (by omega)) (by omega)
theorem lenB (x : Int) (_h0 : 0 <= x) (h : 65536 <= x) (h1 : x < 16777216) (h2 : (x / 65536).toNat < Lib.len8tab.size) (n : Int) (hn : n = 16) : wrap64 (n + wrap64 ((Lib.len8tab[(x / 65536).toNat].toNat : Nat) : Int)) = (Lib.bitLen x.toNat : Int) := by
  subst hn
  rw [tab_eq]
  have e : (x / 65536).toNat = x.toNat / 65536 := by omega
  rw [e, Lib.bitLen_shift16 x.toNat (by omega) (by omega)]
  exact wrapKB 16 _ (Nat.le_trans (Lib.bitLen_le _ 8 (by omega) (by omega)) (by omega)) (by omega)
theorem lenC (x : Int) (_h0 : 0 <= x) (h : 256 <= x) (h1 : x < 65536) (h2 : (x / 256).toNat < Lib.len8tab.size) (n : Int) (hn : n = 8) : wrap64 (n + wrap64 ((Lib.len8tab[(x / 256).toNat].toNat : Nat) : Int)) = (Lib.bitLen x.toNat : Int) := by
  subst hn
  rw [tab_eq]
  have e : (x / 256).toNat = x.toNat / 256 := by omega
  rw [e, Lib.bitLen_shift8 x.toNat (by omega) (by omega)]
  exact wrapKB 8 _ (Nat.le_trans (Lib.bitLen_le _ 8 (by omega) (by omega)) (by omega)) (by omega)
theorem lenD (x : Int) (h0 : 0 <= x) (h1 : x < 256) (h2 : x.toNat < Lib.len8tab.size) : wrap64 (wrap64 ((Lib.len8tab[x.toNat].toNat : Nat) : Int)) = (Lib.bitLen x.toNat : Int) := by
  rw [tab_eq]
  have := Lib.bitLen_le x.toNat 8 (by omega) (by omega)
  rw [wrapB _ (by omega), wrapB _ (by omega)]
set_option maxHeartbeats 4000000 in
set_option maxRecDepth 100000 in
theorem len32_any (x : Int) (w : World) (h0 : 0 <= x) (h1 : x <= 4294967295) :
    Calls Tryz.prog 336 #[.int .u32 x] w fun e w' => e = .returned (.int .i64 (Lib.bitLen x.toNat)) /\ w' = w := by
  have hs := tab_size
  go_enter Tryz.func336, Tryz.ntmps336
  go_wp2
  · go_ret
    exact ⟨congrArg Ending.returned (congrArg (Value.int IntKind.i64) (lenA x h0 (by omega) h1 _ _ rfl)), rfl⟩
  · go_ret
    exact ⟨congrArg Ending.returned (congrArg (Value.int IntKind.i64) (lenB x h0 (by omega) (by omega) _ _ rfl)), rfl⟩
  · go_ret
    exact ⟨congrArg Ending.returned (congrArg (Value.int IntKind.i64) (lenC x h0 (by omega) (by omega) _ _ rfl)), rfl⟩
  · go_ret
    exact ⟨congrArg Ending.returned (congrArg (Value.int IntKind.i64) (lenD x h0 (by omega) _)), rfl⟩
def lz (x : Nat) : Nat := 32 - Lib.bitLen x
theorem bitLenAux_spec : ∀ (f x : Nat), 0 < x -> x < 2 ^ f -> 2 ^ (Lib.bitLenAux f x) <= 2 * x /\ x < 2 ^ (Lib.bitLenAux f x) /\ Lib.bitLenAux f x <= f
  | 0, x, h, h2 => by simp at h2; omega
  | f + 1, x, h, h2 => by
    simp only [Lib.bitLenAux]
    rw [if_neg (by omega)]
    by_cases h1 : x = 1
    · subst h1
      have : Lib.bitLenAux f (1 / 2) = 0 := by cases f <;> simp [Lib.bitLenAux]
      rw [this]; simp
    · obtain ⟨a, b, c⟩ := bitLenAux_spec f (x / 2) (by omega) (by rw [Nat.pow_succ] at h2; omega)
      rw [Nat.add_comm 1, Nat.pow_succ]
      exact ⟨by omega, by omega, by omega⟩
theorem lz_spec {x : Nat} (h0 : 0 < x) (h1 : x < 4294967296) : lz x < 32 /\ 4294967296 <= 2 * (x * 2 ^ lz x) /\ x * 2 ^ lz x < 4294967296 := by
  obtain ⟨a, b, c⟩ := bitLenAux_spec 64 x h0 (by omega)
  have hle : Lib.bitLen x <= 32 := Lib.bitLen_le x 32 (by omega) (by omega)
  have hpos : 1 <= Lib.bitLen x := by
    by_cases h : Lib.bitLen x = 0
    · unfold Lib.bitLen at h; rw [h] at b; simp at b; omega
    · omega
  change 2 ^ Lib.bitLen x <= 2 * x at a
  change x < 2 ^ Lib.bitLen x at b
  have e : 2 ^ Lib.bitLen x * 2 ^ lz x = 4294967296 := by rw [<- Nat.pow_add]; unfold lz; rw [show Lib.bitLen x + (32 - Lib.bitLen x) = 32 by omega]
  refine ⟨by unfold lz; omega, ?_, ?_⟩
  · rw [<- e, <- Nat.mul_assoc]; exact Nat.mul_le_mul_right _ a
  · rw [<- e]; exact Nat.mul_lt_mul_of_pos_right b (Nat.two_pow_pos _)
set_option maxRecDepth 100000 in
theorem lz_any (x : Nat) (w : World) (h0 : 0 < x) (h1 : x < 4294967296) :
    Calls Tryz.prog 329 #[.int .u32 x] w fun e w' => w = w' /\ e = .returned (.int .i64 (lz x : Nat)) := by
  have hle : Lib.bitLen x <= 32 := Lib.bitLen_le x 32 (by omega) (by omega)
  have hz : Hid ((32 : Int) - (Lib.bitLen x : Nat) = (lz x : Nat)) := hid (by unfold lz; omega)
  go_enter Tryz.func329, Tryz.ntmps329
  go_wp2_with fail
  refine (len32_any (x : Int) w (by omega) (by omega)).mono ?_
  rintro e w' ⟨rfl, rfl⟩
  rw [Int.toNat_natCast]
  go_wp2_with fail
  go_ret
  exact ⟨rfl, ret_int hz.out⟩
theorem natR0 (k : IntKind) : ∀ (h h' : Mem) (u : Value) (x : Nat), NatIn k h u x -> NatIn k h' u x := fun _ _ _ _ h => h
theorem _root_.Go.Rep.OL.remask {α : Type} {R : Mem -> Value -> α -> Prop} {sz : Nat} {X Z : Nat -> Bool} {base : Nat} {e : TypeId} {w : World} {ao : Option Addr} {cap : Nat} {l : List α} (hR0 : ∀ h h' u x, R h u x -> R h' u x) (h : OL R sz X base e w ao cap l) (hz : ∀ k, ob ao k = true -> Z k = false) : OL R sz Z base e w ao cap l := by
  obtain ⟨_, us, h1, h2, h3, h4, h5⟩ := h
  exact ⟨hz, us, h1, h2, h3, h4, fun i hi hi' => hR0 _ _ _ _ (h5 i hi hi')⟩
theorem _root_.Go.Rep.OL.skip {α : Type} {R : Mem -> Value -> α -> Prop} {sz : Nat} {X Y : Nat -> Bool} {base : Nat} {e : TypeId} {w w' : World} {ao : Option Addr} {cap : Nat} {l : List α} (hR : Elem R sz) (hR0 : ∀ h h' u x, R h u x -> R h' u x) (h : OL R sz X base e w ao cap l) (hE : ExtX Y w w') (hd : ∀ k, ob ao k = true -> Y k = false) : OL R sz X base e w' ao cap l :=
  ((h.remask hR0 (Z := Y) hd).ext hR hE (Z := Y) (fun _ _ h => h) (fun _ _ h => h)).remask hR0 h.1
theorem ob_block {g k : Nat} (h : ob (some ⟨g, 0, none⟩) k = true) : k = g := by
  have e : g = k := by simpa [ob] using h
  exact e.symm
theorem ob_ne {g k : Nat} (h : k ≠ g) : ob (some ⟨g, 0, none⟩) k = false := by
  cases hh : ob (some ⟨g, 0, none⟩) k
  · rfl
  · exact absurd (ob_block hh) h
theorem _root_.Go.Rep.OL.at_block {α : Type} {R : Mem -> Value -> α -> Prop} {sz : Nat} {X : Nat -> Bool} {base : Nat} {e : TypeId} {w : World} {ao : Option Addr} {cap : Nat} {l : List α} (h : OL R sz X base e w ao cap l) (hl : 0 < l.length) : ∃ g, ao = some ⟨g, 0, none⟩ /\ base <= g /\ g < w.heap.size := by
  rcases h.form with ⟨_, _, rfl⟩ | ⟨g, cur, rfl, h6, h7, _⟩
  · simp at hl
  · exact ⟨g, rfl, h6, (Array.getElem?_eq_some_iff.1 h7).1⟩
theorem _root_.Go.Rep.st_win {P : Program} {ops : Array Oper} {Q : Exit -> Act -> World -> Prop} {rest : List Oper} {a : Act} {w : World} {d : Option Tmp} {ty : TypeId} {ps : String} {af : Array Edge} {t e by_ : Nat} {z : Value} {x lo hi_ : Operand} {k1 k2 : IntKind} {m n : Int} {g len cap : Nat} (T : SliceT P t e 1 by_ z) (i j : Nat) (hx : a.eval x = .slice (some ⟨g, 0, none⟩) len cap) (hlo : a.eval lo = .int k1 m) (hm : m = (i : Int))
    (hhi : a.eval hi_ = .int k2 n) (hn : n = (j : Int)) (hij : i < j) (hj : j <= cap)
    (K : wpList P ops Q rest (a.put d (.slice (some ⟨g, i, none⟩) (j - i) (cap - i))) w) :
    wpList P ops Q (⟨d, .slice t x (some lo) (some hi_) none, ty, ps, af, none⟩ :: rest) a w := by
  refine wpList_plain rfl fun K' hK' => ?_
  subst hm; subst hn
  have hr := run_slice_ij (P := P) (ao := some ⟨g, 0, none⟩) T len cap k1 k2 i j (by omega) hj w
  have e1 : subAddr (some ⟨g, 0, none⟩) i cap 1 = some ⟨g, i, none⟩ := by
    have : ¬ cap = i := by omega
    simp [subAddr, this, Addr.add_lit]
  rw [e1] at hr
  unfold Oper.wp
  simp [execOp, hx, hlo, hhi, hr, Result.andThen]
  exact hK' _ _ K
def QrOut (X : Nat -> Bool) (w : World) (q r : Nat) (e : Ending) (w' : World) : Prop :=
  Ext w w' /\ ∃ ao cap l bo cbp m, e = .returned (.tuple #[.slice ao l.length cap, .slice bo m.length cbp]) /\ l.length <= cap /\ Canon l q /\ Sl (NatIn .u32) 1 (mk X w') ao l /\ m.length <= cbp /\ Canon m r /\ Sl (NatIn .u32) 1 (mk X w') bo m
set_option maxRecDepth 100000 in
set_option maxHeartbeats 400000 in
theorem divide_any (X : Nat -> Bool) (ao bo : Option Addr) (a b : List Nat) (ca cb : Nat) (w : World) (hsa : Sl (NatIn .u32) 1 (mk X w) ao a) (hsb : Sl (NatIn .u32) 1 (mk X w) bo b)
    (na nb : Nat) (hca : Canon a na) (hcb : Canon b nb) (hle : nb <= na) (hb2 : 2 <= b.length) (hal : a.length <= 1099511627776) (hX : ∀ k, X k = true -> k < w.heap.size) :
    Calls Tryz.prog 300 #[.slice ao a.length ca, .slice bo b.length cb] w (QrOut X w (na / nb) (na % nb)) := by
  have hhb := hsb.hd
  have hcbl := hsb.nat (b.length - 1) (by omega)
  have hbl : b.length <= a.length := by rw [hca.len, hcb.len]; exact lg_mono hle
  obtain ⟨t, ht⟩ : ∃ t, b[b.length - 1]'(by omega) = t := ⟨_, rfl⟩
  have htB := hcb.1.get (b.length - 1) (by omega)
  have ht0 : t ≠ 0 := by
    have := hcb.2.1
    rw [validL_last (by omega)] at this
    rw [<- ht]; simpa using this
  rw [ht] at hcbl
  rw [ht, B_eq] at htB
  obtain ⟨s, hs⟩ : ∃ s, lz t = s := ⟨_, rfl⟩
  have hlz := lz_spec (show 0 < t by omega) htB
  rw [hs] at hlz
  obtain ⟨hs32, hn1, hn2⟩ := hlz
  have ht' := hid ht
  have hlz1 := hid hn1
  have hlz2 := hid hn2
  have hlzc : ∀ W, Calls Tryz.prog 329 #[.int .u32 t] W fun e w' => W = w' /\ e = .returned (.int .i64 (s : Nat)) := fun W => by rw [<- hs]; exact lz_any t W (by omega) htB
  clear hn1 hn2 ht
  go_enter Tryz.func300, Tryz.ntmps300
  go_wp2_with (first | (with_reducible refine up_ix1 slU32 (by omega) (by assumption) ?_) | (go_at_call 329; refine (hlzc _).mono ?_; rintro e w' ⟨rfl, rfl⟩))
  clear hs hlzc hcbl
  refine (shifted_any noY ao a ca s w (hsa.mono (NatIn.mono _) (by rw [mk_noY]; exact mk_le X w)) hca.1 hal hs32 (fun k hk => by simp [noY] at hk)).mono ?_
  rintro e w1 ⟨hE1, uo, U, rfl, hU, hUf⟩
  have hsb1 := hsb.mono (NatIn.mono _) (mk_ext hE1)
  go_wp2_with fail
  refine (shifted_any noY bo b cb s w1 (hsb1.mono (NatIn.mono _) (by rw [mk_noY]; exact mk_le X w1)) hcb.1 (by omega) hs32 (fun k hk => by simp [noY] at hk)).mono ?_
  rintro e w2 ⟨hE2, vo, V0, rfl, hV0, hVf⟩
  have hV0l : V0.length <= 1099511627777 := by rw [hVf.out.1]; omega
  obtain ⟨gu, rfl, hgu1, hgu2⟩ := hU.at_block (by rw [hUf.out.1]; omega)
  have hV1 : Sl (NatIn .u32) 1 (mk (ob (some ⟨gu, 0, none⟩)) w2) vo V0 := (hV0.remask (natR0 _) (Z := ob (some ⟨gu, 0, none⟩)) (fun k hk => ob_ne (by have := (hV0.block hk).1; omega))).sl (NatIn.elem _)
  go_wp2_with fail
  refine (trimmed_any (ob (some ⟨gu, 0, none⟩)) vo V0 V0.length w2 hV1 hVf.out.2.1 (by omega) (Nat.le_refl _)).mono ?_
  rintro e w' ⟨rfl, V, rfl, hVl', hVc, hVs⟩
  obtain ⟨m, hm⟩ : ∃ m, a.length = m + b.length := ⟨a.length - b.length, by omega⟩
  obtain ⟨n, hn⟩ : ∃ n, b.length = n := ⟨_, rfl⟩
  rw [hVf.out.2.2.2] at hVc
  have hnorm := div_norm hcb.1 hn (by omega) ((getD_of_lt (by omega)).trans (by rw [<- ht'.out]; congr 1; omega)) hs32 hlz1.out hlz2.out hVc
  have hna : nv a = na := hca.2.2
  have hnb : nv b = nb := hcb.2.2
  have hnvV := hVc.2.2
  rw [hnb] at hnvV
  have hVd := hVc.1
  have hUl : U.length = m + 1 + n := by rw [hUf.out.1, hm, hn]; omega
  have hUd := hUf.out.2.1
  have hst0 := DivInv.start (m := m) (n := n) (a := na) hUd hUl (by omega) (by rw [hUf.out.2.2.2, hna]) (by have := hUf.out.2.2.1; rw [hm, hn] at this; exact this) hs32 hnorm.1 hnorm.2
  obtain ⟨hVn, hVt⟩ := hnorm
  have hst := hid hst0
  have hUo := hU.ext0 (NatIn.elem _) hE2
  rw [hn] at hm |-
  rw [hm]
  have hmb : m <= 1099511627776 := by omega
  have hnb2 : 2 <= n := by omega
  have hnb3 : n <= 1099511627776 := by omega
  have hVt' := hid hVt
  have hVn' := hid hVn
  have hUl' := hid hUl
  have hnvV' := hid hnvV
  have hE12 := hE1.trans hE2
  clear hst0 hVt hVn hUl hnvV hna hnb hV1 hUf hVf hV0l hU hsa hsb hsb1 hcb hca hle hb2 hbl hal hhb ht0 htB ht' hlz1 hlz2 hVc hVl' hV0 hUd
  go_wp2_with (at_make; refine st_make slU32 (NatIn.elem .u32) 0 (fun _ => rfl) noY (fun k hk => by simp [noY] at hk) w2.heap.size (Nat.le_refl _) (m + 1) rfl rfl (by omega) (by omega) (by omega) ?_; intro qo w3 hQ hE3)
  have hqb : ∀ k, ob qo k = true -> w2.heap.size <= k := fun k hk => (hQ.block hk).1
  have hgq : ob qo gu = false := by
    cases hh : ob qo gu
    · rfl
    · have := hqb gu hh; have := hE2.size; omega
  have hU3 : OL (NatIn .u32) 1 (un noY qo) w.heap.size 110 w3 (some ⟨gu, 0, none⟩) U.length U := (hUo.ext0 (NatIn.elem _) hE3).remask (natR0 _) (fun k hk => by have := ob_block hk; subst this; simp [un, noY, hgq])
  have hQ3 : OL (NatIn .u32) 1 (un noY (some ⟨gu, 0, none⟩)) w2.heap.size 110 w3 qo (m + 1) (List.replicate (m + 1) 0) := hQ.remask (natR0 _) (fun k hk => by
    have h1 := hqb k hk
    have h2 : ob (some ⟨gu, 0, none⟩) k = false := ob_ne (by have := hE2.size; omega)
    simp [un, noY, h2])
  have hV3 : Sl (NatIn .u32) 1 (mk (un (un noY qo) (some ⟨gu, 0, none⟩)) w3) vo V := hVs.mono (NatIn.mono _) (mk_over hE3 (fun k _ hk => by simp [noY] at hk) fun k hk hz => by
    have h1 : ob qo k = false := by
      cases hh : ob qo k
      · rfl
      · have := hqb k hh; omega
    simpa [un, noY, h1] using hz)
  have hE13 := hE12.trans hE3
  have hwq : w.heap.size <= w2.heap.size := hE12.size
  have hqX : ∀ k, ob qo k = true -> X k = false := fun k hk => by
    cases hh : X k
    · rfl
    · have := hX k hh; have := hqb k hk; omega
  have hgw : gu < w2.heap.size := Nat.lt_of_lt_of_le hgu2 hE2.size
  have hUc : m + 1 + n <= U.length := by rw [hUl'.out]; exact Nat.le_refl _
  have hhv := hVs.hd
  clear hUo hQ hVs hE1 hE2 hE3 hE12 hm hn
  go_loopw [10] (fun c wr => ∃ (k : Nat) (x : Int) (U' Q : List Nat), c = .int .i64 x /\ x = (k : Int) - 1 /\ k <= m + 1 /\ Hid (DivInv (na * 2 ^ s) V U' Q k) /\ Hid (U'.length = m + 1 + n) /\ Hid (Q.length = m + 1) /\ OL (NatIn .u32) 1 (un noY qo) w.heap.size 110 wr (some ⟨gu, 0, none⟩) U.length U' /\
    OL (NatIn .u32) 1 (un noY (some ⟨gu, 0, none⟩)) w2.heap.size 110 wr qo (m + 1) Q /\ Sl (NatIn .u32) 1 (mk (un (un noY qo) (some ⟨gu, 0, none⟩)) wr) vo V /\ Ext w wr) (fun c _ => (intOf c + 1).toNat)
  case atStart => exact ⟨m + 1, _, U, _, rfl, by omega, by omega, hst, hUl', hid (by simp), hU3, hQ3, hV3, hE13⟩
  case round =>
    obtain ⟨k, x, U', Q, rfl, hx, hk, hinv, hUl2, hQl, hUr, hQr, hVr, hEr⟩ := hrel
    clear hU3 hQ3 hV3 hE13 hst
    have hhq : Hd qo (m + 1) := by have := hQr.hd; rwa [hQl.out] at this
    cases k with
    | zero =>
      obtain rfl : x = -1 := by omega
      obtain ⟨hd1, hd2, hd3⟩ := hinv.out.done rfl hnvV'.out
      have hUd := hinv.out.1
      have hQd := hinv.out.2.1
      have hd1' := hid hd1
      have hd2' := hid hd2
      have hlast : Hid (nv U' / 2 ^ s < B ^ n) := hid (Nat.lt_of_le_of_lt (Nat.div_le_self _ _) (Nat.lt_trans hd3 (by have := nv_lt hVd; rwa [hVn'.out] at this)))
      have hUr2 := hUr.remask (natR0 _) (Z := noY) (fun k hk => rfl)
      have hub : ∀ k, ob (some ⟨gu, 0, none⟩) k = true -> k < wr.heap.size := fun k hk => (hUr.block hk).2
      have hqb2 : ∀ k, ob qo k = true -> k < wr.heap.size := fun k hk => (hQr.block hk).2
      have hwr : w.heap.size <= wr.heap.size := hEr.size
      have hQr2 := hQr.remask (natR0 _) (Z := noY) (fun k hk => rfl)
      clear hx hd1 hd2 hd3 hinv hUr hQr hVr hqb hgq hwq hgw hgu1 hgu2 hhv
      go_wp2_with (at_make; refine st_make slU32 (NatIn.elem .u32) 0 (fun _ => rfl) noY (fun k hk => by simp [noY] at hk) wr.heap.size (Nat.le_refl _) n rfl rfl (by omega) (by omega) (by omega) ?_; intro ro w4 hR hE4)
      have hU4 := hUr2.ext0 (NatIn.elem _) hE4
      have hQ4 := hQr2.ext0 (NatIn.elem _) hE4
      have hE5 := hEr.trans hE4
      have hrb : ∀ k, ob ro k = true -> wr.heap.size <= k := fun k hk => (hR.block hk).1
      have hrX : ∀ k, ob ro k = true -> X k = false := fun k hk => by
        cases hh : X k
        · rfl
        · have := hX k hh; have := hrb k hk; omega
      clear hUr2 hQr2 hE4 hEr
      go_loopw [103] (fun c wx => ∃ (i : Nat) (o : List Nat), c = .int .i64 i /\ i <= n /\ Hid (ShrInv U' o s n i) /\ Hid (o.length = n) /\ OL (NatIn .u32) 1 noY wr.heap.size 110 wx ro n o /\ ExtX (ob ro) w4 wx /\ Ext w wx) (fun c _ => n - (intOf c).toNat)
      case atStart => exact ⟨0, _, rfl, by omega, hid (ShrInv.start U' s n), hid (by simp), hR, ExtX.refl _, hE5⟩
      case round =>
        obtain ⟨i, o, rfl, hi, hinv, hol, hO, hEx, hEw⟩ := hrel
        clear hR hE5
        have hho : Hd ro n := by have := hO.hd; rwa [hol.out] at this
        have hUx := hU4.skip (NatIn.elem _) (natR0 _) hEx (fun k hk => by
          cases hh : ob ro k
          · rfl
          · have := hrb k hh; have := hub k hk; omega)
        by_cases hlt : i < n
        · have hi1 : i + 1 < U'.length := by rw [hUl2.out]; omega
          have hs := hUx.sl (NatIn.elem _)
          have c1 := hs.nat (i + 1) hi1
          have c0 := hs.nat i (by omega)
          obtain ⟨x, hx⟩ : ∃ x, U'[i + 1] = x := ⟨_, rfl⟩
          obtain ⟨y, hy⟩ : ∃ y, U'[i]'(by omega) = y := ⟨_, rfl⟩
          have bx := hUd.get (i + 1) hi1
          have by_ := hUd.get i (by omega)
          rw [hx, B_eq] at bx
          rw [hy, B_eq] at by_
          rw [hx, adr_some, Nat.zero_add] at c1
          rw [hy, adr_some, Nat.zero_add] at c0
          have hst := hid (hinv.out.step hlt hs32 hi1 hUd hx hy)
          have hhu : Hd (some (⟨gu, 0, none⟩ : Addr)) U.length := fun _ => ⟨_, _, rfl⟩
          have i1 : ∀ W, (Instr.indexAt 37 (.slice (some ⟨gu, 0, none⟩) U.length U.length) (.int .i64 ((i : Int) + 1))).run Tryz.prog W = .ok (.pointer (some ⟨gu, i + 1, none⟩)) W := fun W => by
            have := run_ix1 slU32 (some ⟨gu, 0, none⟩) U.length U.length .i64 (i + 1) (m := (i : Int) + 1) hhu (by omega) (by omega) W
            rwa [adr_some, Nat.zero_add] at this
          have i2 : ∀ W, (Instr.indexAt 37 (.slice (some ⟨gu, 0, none⟩) U.length U.length) (.int .i64 (i : Int))).run Tryz.prog W = .ok (.pointer (some ⟨gu, i, none⟩)) W := fun W => by
            have := run_ix1 slU32 (some ⟨gu, 0, none⟩) U.length U.length .i64 i (m := (i : Int)) hhu (by omega) rfl W
            rwa [adr_some, Nat.zero_add] at this
          have i3 : ∀ W, (Instr.indexAt 37 (.slice ro n n) (.int .i64 (i : Int))).run Tryz.prog W = .ok (.pointer (some (adr ro i))) W := run_ix1 slU32 ro n n .i64 i hho hlt rfl
          have s1 : IntKind.i64.wrap ((i : Int) + 1) = (i : Int) + 1 := IntWalk.i64_in _ (by omega)
          have hor := or_shl32 x y bx by_
          have hval : Hid (IntKind.u32.wrap (bits BinOp.or IntKind.u64 (IntKind.u64.wrap (IntKind.u64.wrap (x : Int) * 4294967296)) (IntKind.u64.wrap (y : Int)) / 2 ^ s) = (((x * 4294967296 + y) / 2 ^ s % 4294967296 : Nat) : Int)) := hid (by
            rw [IntWalk.u64_in (x : Int) (by omega), IntWalk.u64_in ((x : Int) * 4294967296) (by omega), IntWalk.u64_in (y : Int) (by omega), hor, IntKind.wrap_u32]
            simp)
          clear hx hy hinv hs
          go_wp2_with fail
          go_still_tail 19, (by kernel_rfl)
          change wpList _ _ _ _ _ wr.drew
          have hEd : ExtX noY wr wr.drew := (ExtX.refl wr).drew
          have hOd := hO.ext0 (NatIn.elem _) hEd
          have hExd := hEx.trans (ExtX.of hEd)
          have hEwd := hEw.trans hEd
          generalize wr.drew = wd at hOd hExd hEwd |-
          clear i1 i2 i3 c1 c0 hor s1 hEd hO hEx hEw
          go_wp2_with ((with_reducible show wpList _ _ _ (⟨_, .store _ _ _, _, _, _, _⟩ :: _) _ _); refine st_storeNat tyU32 i ((x * 4294967296 + y) / 2 ^ s % 4294967296) rfl rfl hOd (by rw [hol.out]; exact hlt) rfl hval.out ?_; intro w6 hO6 hE6)
          have hol2 : Hid ((o.set i ((x * 4294967296 + y) / 2 ^ s % 4294967296)).length = n) := hid (by rw [List.length_set]; exact hol.out)
          go_roundw
          case rel => exact ⟨i + 1, _, by go_num, by omega, hst, hol2, hO6, hExd.trans hE6, hEwd.own hOd hwr hE6⟩
          case measure => simp [intOf]; omega
        · have hin : i = n := by omega
          subst hin
          have hQx := hQ4.skip (NatIn.elem _) (natR0 _) hEx (fun k hk => by
            cases hh : ob ro k
            · rfl
            · have := hrb k hh; have := hqb2 k hk; omega)
          have hfin := hid (hinv.out.done hlast.out)
          have hRd := hinv.out.2.1
          have hQs : Sl (NatIn .u32) 1 (mk X wr) qo Q := (hQx.remask (natR0 _) (Z := X) hqX).sl (NatIn.elem _)
          have hOs : Sl (NatIn .u32) 1 (mk X wr) ro o := (hO.remask (natR0 _) (Z := X) hrX).sl (NatIn.elem _)
          have hT1 := trimmed_any X qo Q (m + 1) wr hQs hQd (by rw [hQl.out]; omega) (by rw [hQl.out]; exact Nat.le_refl _)
          have hT2 := trimmed_any X ro o i wr hOs hRd (by rw [hol.out]; omega) (by rw [hol.out]; exact Nat.le_refl _)
          rw [hQl.out] at hT1
          rw [hol.out] at hT2
          have hl1 : Q.length <= m + 1 := by rw [hQl.out]; exact Nat.le_refl _
          have hl2 : o.length <= i := by rw [hol.out]; exact Nat.le_refl _
          clear hinv hU4 hQ4 hUx hQx hUd
          go_wp2_with fail
          refine hT1.mono ?_
          rintro e w' ⟨rfl, l1, rfl, h11, h12, h13⟩
          go_wp2_with fail
          refine hT2.mono ?_
          rintro e w' ⟨rfl, l2, rfl, h21, h22, h23⟩
          clear hT1 hT2
          go_wp2_with fail
          go_ret2
          rw [hd1'.out] at h12
          rw [hfin.out, hd2'.out] at h22
          exact ⟨hEw, _, _, l1, _, _, l2, rfl, Nat.le_trans h11 hl1, h12, h13, Nat.le_trans h21 hl2, h22, h23⟩
    | succ j =>
      obtain rfl : x = (j : Int) := by omega
      clear hx
      have hjU : j + (n + 1) <= U'.length := by rw [hUl2.out]; omega
      obtain ⟨w1, w2', w3', w4, w5, w6, w7⟩ := hinv.out.win hjU hVn'.out hVd
      obtain ⟨W, hW⟩ : ∃ W, (U'.drop j).take (n + 1) = W := ⟨_, rfl⟩
      have hge : ∀ i, i <= n -> U'.getD (j + i) 0 = W.getD i 0 := fun i hi => by rw [<- hW]; exact (win_getD hi).symm
      have hnx := fun (o : List Nat) h1 h2 h3 => (fun (p : _ /\ _) => And.intro p.1 (p.2.trans hUl2.out)) (hinv.out.next (W' := o) hjU (by rw [hQl.out]; omega) hVn'.out hVd h1 h2 h3)
      rw [hW] at w1 w2' w3' w5 w6
      simp only [hW] at hnx
      obtain ⟨A, hA⟩ : ∃ A, U'.take j = A := ⟨_, rfl⟩
      obtain ⟨R, hR⟩ : ∃ R, U'.drop (j + (n + 1)) = R := ⟨_, rfl⟩
      rw [hA] at w5 w7
      rw [hR] at w5
      simp only [hA, hR] at hnx
      obtain ⟨e1, e2, e3⟩ := est_ok2 w1 hVn'.out hnb2 w2' hVd hVt'.out w3'
      have hVp : 0 < nv V := by
        by_cases h : nv V = 0
        · rw [h] at w3'; omega
        · omega
      have hUs := hUr.sl (NatIn.elem _)
      have c2 := hUs.nat (j + n) (by rw [hUl2.out]; omega)
      have c1 := hUs.nat (j + (n - 1)) (by rw [hUl2.out]; omega)
      have c0 := hUs.nat (j + (n - 2)) (by rw [hUl2.out]; omega)
      rw [<- getD_of_lt, hge n (by omega), adr_some, Nat.zero_add] at c2
      rw [<- getD_of_lt, hge (n - 1) (by omega), adr_some, Nat.zero_add] at c1
      rw [<- getD_of_lt, hge (n - 2) (by omega), adr_some, Nat.zero_add] at c0
      have d1 := hVr.nat (n - 1) (by rw [hVn'.out]; omega)
      have d0 := hVr.nat (n - 2) (by rw [hVn'.out]; omega)
      rw [<- getD_of_lt] at d1 d0
      have b2 := w2'.getD n
      have b1 := w2'.getD (n - 1)
      have b0 := w2'.getD (n - 2)
      have f1 := hVd.getD (n - 1)
      have f0 := hVd.getD (n - 2)
      have hvt := hVt'.out
      generalize W.getD n 0 = u2 at *
      generalize W.getD (n - 1) 0 = u1 at *
      generalize W.getD (n - 2) 0 = u0 at *
      generalize V.getD (n - 1) 0 = v1 at *
      generalize V.getD (n - 2) 0 = v0 at *
      rw [B_eq] at b2 b1 b0 f1 f0 hvt
      obtain ⟨x, hx⟩ : ∃ x, estB B u2 u1 u0 v1 v0 = x := ⟨_, rfl⟩
      have hx32 : x < 4294967296 := by rw [<- hx]; exact estB_lt
      have hgs : ∀ q, Calls Tryz.prog 331 #[.int .u32 u2, .int .u32 u1, .int .u32 u0, .int .u32 v1, .int .u32 v0] (wr.drewN q) fun e w' => e = .returned (.int .u64 (x : Nat)) /\ ∃ m, w' = (wr.drewN q).drewN m := fun q => by rw [<- hx]; exact guess_any u2 u1 u0 v1 v0 _ (by omega) f1 e1 b1 b0 f0
      rw [hx] at e2 e3
      have hkk := hid (fun (c W' : Nat) => digit_found (c := c) (W' := W') hVp e2 e3 (e := B ^ (n + 1)))
      have hVp' := hid hVp
      have s1 : IntKind.i64.wrap ((j : Int) + (n : Int)) = (j : Int) + (n : Int) := IntWalk.i64_in _ (by omega)
      have s2 : IntKind.i64.wrap ((j : Int) + (n : Int) - 1) = (j : Int) + (n : Int) - 1 := IntWalk.i64_in _ (by omega)
      have s3 : IntKind.i64.wrap ((j : Int) + (n : Int) - 2) = (j : Int) + (n : Int) - 2 := IntWalk.i64_in _ (by omega)
      have s4 : IntKind.i64.wrap ((n : Int) - 1) = (n : Int) - 1 := IntWalk.i64_in _ (by omega)
      have s5 : IntKind.i64.wrap ((n : Int) - 2) = (n : Int) - 2 := IntWalk.i64_in _ (by omega)
      have hhu : Hd (some (⟨gu, 0, none⟩ : Addr)) U.length := fun _ => ⟨_, _, rfl⟩
      have i1 : ∀ W, (Instr.indexAt 37 (.slice (some ⟨gu, 0, none⟩) U.length U.length) (.int .i64 ((j : Int) + (n : Int)))).run Tryz.prog W = .ok (.pointer (some ⟨gu, j + n, none⟩)) W := fun W => by
        have := run_ix1 slU32 (some ⟨gu, 0, none⟩) U.length U.length .i64 (j + n) (m := (j : Int) + (n : Int)) hhu (by omega) (by omega) W
        rwa [adr_some, Nat.zero_add] at this
      have i2 : ∀ W, (Instr.indexAt 37 (.slice (some ⟨gu, 0, none⟩) U.length U.length) (.int .i64 ((j : Int) + (n : Int) - 1))).run Tryz.prog W = .ok (.pointer (some ⟨gu, j + (n - 1), none⟩)) W := fun W => by
        have := run_ix1 slU32 (some ⟨gu, 0, none⟩) U.length U.length .i64 (j + (n - 1)) (m := (j : Int) + (n : Int) - 1) hhu (by omega) (by omega) W
        rwa [adr_some, Nat.zero_add] at this
      have i3 : ∀ W, (Instr.indexAt 37 (.slice (some ⟨gu, 0, none⟩) U.length U.length) (.int .i64 ((j : Int) + (n : Int) - 2))).run Tryz.prog W = .ok (.pointer (some ⟨gu, j + (n - 2), none⟩)) W := fun W => by
        have := run_ix1 slU32 (some ⟨gu, 0, none⟩) U.length U.length .i64 (j + (n - 2)) (m := (j : Int) + (n : Int) - 2) hhu (by omega) (by omega) W
        rwa [adr_some, Nat.zero_add] at this
      have hVle : n <= V.length := by rw [hVn'.out]; exact Nat.le_refl _
      have i4 : ∀ W, (Instr.indexAt 37 (.slice vo V.length V0.length) (.int .i64 ((n : Int) - 1))).run Tryz.prog W = .ok (.pointer (some (adr vo (n - 1)))) W := run_ix1 slU32 vo V.length V0.length .i64 (n - 1) hhv (by omega) (by omega)
      have i5 : ∀ W, (Instr.indexAt 37 (.slice vo V.length V0.length) (.int .i64 ((n : Int) - 2))).run Tryz.prog W = .ok (.pointer (some (adr vo (n - 2)))) W := run_ix1 slU32 vo V.length V0.length .i64 (n - 2) hhv (by omega) (by omega)
      have hWh := hid w1
      have hAl := hid w7
      have hUr2 : OL (NatIn .u32) 1 (un noY qo) w.heap.size 110 wr (some ⟨gu, 0, none⟩) U.length (A ++ W ++ R) := by rw [<- w5]; exact hUr
      have hnx' := hid hnx
      clear hnx hinv w1 w3' w4 w5 w6 w7 hge hUs hx e1 e2 e3 b2 b1 b0 f1 f0 hvt hA hR hW hVp hUr hUl2 hjU
      clear U'
      go_wp2_with fail
      go_quiet ((go_at_call 331; with_reducible exact Calls.quiet_of (hgs _)))
      clear c2 c1 c0 d1 d0 i1 i2 i3 i4 i5 hgs s2 s3 s4 s5
      have hjc : j < U.length := by omega
      have hjn : j + n + 1 <= U.length := by omega
      have hwl : j + n + 1 - j = W.length := by rw [hWh.out]; omega
      have hEd : ExtX noY wr (wr.drewN nq) := (ExtX.refl wr).drewN nq
      have hUd := hUr2.ext0 (NatIn.elem _) hEd
      have hQd := hQr.ext0 (NatIn.elem _) hEd
      have hVd2 : Sl (NatIn .u32) 1 (mk (un (un noY qo) (some ⟨gu, 0, none⟩)) (wr.drewN nq)) vo V := hVr
      have hEn := hEr.trans hEd
      clear hUr2 hQr hVr hEr
      generalize wr.drewN nq = wd at *
      go_wp2_with (first | ((with_reducible show wpList _ _ _ (⟨_, .slice _ _ _ _ _, _, _, _, _⟩ :: _) _ _); refine st_win slU32 j (j + n + 1) rfl rfl rfl rfl (by omega) (by omega) (by omega) ?_))
      have hr := reduce_any (un noY qo) w.heap.size gu U.length (U.length - j) A W R V vo V0.length x n wd hUd hVd2 hWh.out hVn'.out hVd w2' hx32 (by rw [hAl.out]; omega) hnb3
      rw [hAl.out] at hr
      refine hr.mono ?_
      clear hr
      rintro e w6 ⟨hE6, o, ⟨bo, rfl, hol, hod, hcs⟩, hU6⟩
      have hdf := hkk.out bo (nv o) hcs
      have hol' := hid hol
      have hV6 := hVd2.unstep (NatIn.mono _) hE6 (.inl rfl)
      have hQ6 := hQd.skip (NatIn.elem _) (natR0 _) hE6 (fun k hk => ob_ne (by have := hqb k hk; omega))
      have hE7 := hEn.own hUd (Nat.le_refl _) hE6
      clear hkk hol hE6 hUd hQd hVd2 hEn
      rcases hcs with ⟨rfl, _⟩ | ⟨rfl, _⟩
      · obtain ⟨k1, k2⟩ := hdf.1 rfl
        have hn1 := hid (hnx'.out o hod hol'.out k2)
        rw [<- k1] at hn1
        clear hdf k1 k2 hnx'
        go_wp2_with (first | (with_reducible refine up_ix1 slU32 (by omega) (by assumption) ?_) | ((with_reducible show wpList _ _ _ (⟨_, .store _ _ _, _, _, _, _⟩ :: _) _ _); refine st_storeNat tyU32 j x rfl rfl hQ6 (by rw [hQl.out]; omega) rfl (by omega) ?_; intro w8 hQ8 hE8))
        have hU8 := hU6.skip (NatIn.elem _) (natR0 _) hE8 (fun k hk => by have := ob_block hk; subst this; exact hgq)
        have hV8 : Sl (NatIn .u32) 1 (mk (un (un noY qo) (some ⟨gu, 0, none⟩)) w8) vo V := hV6.mono (NatIn.mono _) (mk_mono hE8 (fun k hk => un_left (un_right hk)))
        go_roundw
        case rel => exact ⟨j, _, _, _, rfl, rfl, by omega, hid hn1.out.1, hid hn1.out.2, hid (by rw [List.length_set]; exact hQl.out), hU8, hQ8, hV8, hE7.own hQ6 hwq hE8⟩
        case measure => simp [intOf]
      · obtain ⟨k0, k1, k2⟩ := hdf.2 rfl
        have k2' := hid k2
        clear hdf k2
        go_wp2_with (first | ((with_reducible show wpList _ _ _ (⟨_, .slice _ _ _ _ _, _, _, _, _⟩ :: _) _ _); refine st_win slU32 j (j + n + 1) rfl rfl rfl rfl (by omega) (by omega) (by omega) ?_))
        have hr := restore_any (un noY qo) w.heap.size gu U.length (U.length - j) A o R V vo V0.length n w6 hU6 hV6 hol'.out hVn'.out hVd hod (by rw [hAl.out]; omega) hnb3
        rw [hAl.out] at hr
        rw [show o.length = W.length by rw [hol'.out, hWh.out]] at hr
        refine hr.mono ?_
        clear hr
        rintro e w7 ⟨hE9, o2, ⟨c, rfl, hl2, hd2, hc, hs2⟩, hU7⟩
        have hn1 := hid (hnx'.out o2 hd2 hl2 (restored hVd hVn'.out hVp'.out k2'.out hs2 hc hd2 hl2))
        rw [<- k1] at hn1
        have hV7 := hV6.unstep (NatIn.mono _) hE9 (.inl rfl)
        have hQ7 := hQ6.skip (NatIn.elem _) (natR0 _) hE9 (fun k hk => ob_ne (by have := hqb k hk; omega))
        have hE10 := hE7.own hU6 (Nat.le_refl _) hE9
        have hx1 : (1 : Int) <= (x : Int) := by omega
        clear k1 hnx' hl2 hs2 hU6 hV6 hQ6 hE9 hE7
        go_wp2_with (first | (with_reducible refine up_ix1 slU32 (by omega) (by assumption) ?_) | ((with_reducible show wpList _ _ _ (⟨_, .store _ _ _, _, _, _, _⟩ :: _) _ _); refine st_storeNat tyU32 j (x - 1) rfl rfl hQ7 (by rw [hQl.out]; omega) rfl (by omega) ?_; intro w8 hQ8 hE8))
        have hU8 := hU7.skip (NatIn.elem _) (natR0 _) hE8 (fun k hk => by have := ob_block hk; subst this; exact hgq)
        have hV8 : Sl (NatIn .u32) 1 (mk (un (un noY qo) (some ⟨gu, 0, none⟩)) w8) vo V := hV7.mono (NatIn.mono _) (mk_mono hE8 (fun k hk => un_left (un_right hk)))
        go_roundw
        case rel => exact ⟨j, _, _, _, rfl, rfl, by omega, hid hn1.out.1, hid hn1.out.2, hid (by rw [List.length_set]; exact hQl.out), hU8, hQ8, hV8, hE10.own hQ7 hwq hE8⟩
        case measure => simp [intOf]
end Go.Proofs.YtnnpfhoigmegcaaGreat
namespace Go.Lim
theorem lg_two {n : Nat} (h1 : 4294967296 <= n) : 2 <= lg n := by
  by_cases h : lg n <= 1
  · rw [lg_le, Nat.pow_one, B_eq] at h; omega
  · omega
end Go.Lim
namespace Go.Proofs.YtnnpfhoigmegcaaGreat
open Go.RowKit Go.Rep Go.Lim
theorem div_any (X : Nat -> Bool) (ao bo : Option Addr) (la lb : List Nat) (ca cb : Nat) (w : World) (hsa : Sl (NatIn .u32) 1 (mk X w) ao la) (hsb : Sl (NatIn .u32) 1 (mk X w) bo lb)
    (hda : Dig la) (hdb : Dig lb) (hla : la.length <= 1099511627776) (hlb : lb.length <= 1099511627776) (hca : la.length <= ca) (hcb : lb.length <= cb) (hX : ∀ k, X k = true -> k < w.heap.size) (na nb : Nat) (hna : val la = na) (hnb : val lb = nb)
    (h0 : 0 < nb) :
    Calls Tryz.prog 245 #[.slice ao la.length ca, .slice bo lb.length cb] w (DivOut X w (na / nb) (na % nb)) := by
  by_cases h1 : nb < 4294967296
  · exact div1_any X ao bo la lb ca cb w hsa hsb hda hdb hla hlb hca hcb hX na nb hna hnb h0 h1
  have h2 := lg_two (show 4294967296 <= nb by omega)
  clear h1
  go_enter Tryz.func245, Tryz.ntmps245
  go_wp2_with fail
  refine (value_any X _ _ _ _ hsa hda (by omega) hca).mono ?_
  rintro e w' ⟨rfl, ao1, ca1, a, rfl, hca1, hal, hcan, hsa1⟩
  go_wp2_with fail
  refine (value_any X _ _ _ _ hsb hdb (by omega) hcb).mono ?_
  rintro e w' ⟨rfl, bo1, cb1, b, rfl, hcb1, hbl, hcbn, hsb1⟩
  rw [hna] at hcan
  rw [hnb] at hcbn
  have hb2 : 2 <= b.length := by rw [hcbn.len]; exact h2
  have hal' : a.length <= 1099511627776 := Nat.le_trans hal hla
  have hbl' : b.length <= 1099511627776 := Nat.le_trans hbl hlb
  have hva := hid hcan.val
  have hvb := hid hcbn.val
  clear hna hnb hal hbl hsa hsb hla hlb hca hcb h2 hda hdb
  go_wp2_with fail
  refine (compare_any X ao1 bo1 a b ca1 cb1 w hsa1 hsb1 hcan.1 hcbn.1 hal' hbl' hca1 hcb1 na nb hva.out hvb.out).mono ?_
  rintro e w2 ⟨hE2, rfl⟩
  have hsa2 := hsa1.mono (NatIn.mono _) (mk_ext hE2)
  have hsb2 := hsb1.mono (NatIn.mono _) (mk_ext hE2)
  have hX2 : ∀ k, X k = true -> k < w2.heap.size := fun k hk => Nat.lt_of_lt_of_le (hX k hk) hE2.size
  by_cases hlt : na < nb
  · have hcl : cmpN na nb < 0 := (cmpN_lt na nb).2 hlt
    have hq := hid (Nat.div_eq_of_lt hlt)
    have hr := hid (Nat.mod_eq_of_lt hlt)
    generalize cmpN na nb = c at hcl
    go_wp2_with fail
    refine (clone_any X _ _ _ _ na hsa2 hcan (by omega) hX2).mono ?_
    rintro e w3 ⟨hE3, ao3, ca3, l3, rfl, hc3, hcan3, hs3⟩
    go_wp2_with fail
    go_ret3
    refine ⟨hE2.trans hE3, none, 0, [], ao3, ca3, l3, rfl, by simp, ?_, Sl.nil _ _ _ _, hc3, ?_, hs3⟩
    · rw [hq.out]; exact Canon.nil
    · rw [hr.out]; exact hcan3
  · have hcl : ¬ cmpN na nb < 0 := fun h => hlt ((cmpN_lt na nb).1 h)
    generalize cmpN na nb = c at hcl
    go_wp2_with fail
    refine (divide_any X ao1 bo1 a b ca1 cb1 w2 hsa2 hsb2 na nb hcan hcbn (by omega) hb2 hal' hX2).mono ?_
    rintro e w3 ⟨hE3, ao3, ca3, l3, bo4, cb4, l4, rfl, hc3, hcan3, hs3, hc4, hcan4, hs4⟩
    go_wp2_with fail
    go_ret3
    exact ⟨hE2.trans hE3, ao3, ca3, l3, bo4, cb4, l4, rfl, hc3, hcan3, hs3, hc4, hcan4, hs4⟩
def UintOut (w : World) (n : Nat) (e : Ending) (w' : World) : Prop :=
  w = w' /\ ((n < 18446744073709551616 /\ e = .returned (.tuple #[.int .u64 n, .bool true])) \/ (18446744073709551616 <= n /\ e = .returned (.tuple #[.int .u64 0, .bool false])))
theorem uint_any (X : Nat -> Bool) (ao : Option Addr) (l : List Nat) (c : Nat) (w : World) (hs : Sl (NatIn .u32) 1 (mk X w) ao l) (hd : Dig l) (hl : l.length <= 1099511627776) (hc : l.length <= c) (n : Nat) (hn : val l = n) :
    Calls Tryz.prog 325 #[.slice ao l.length c] w (UintOut w n) := by
  go_enter Tryz.func325, Tryz.ntmps325
  go_wp2_with fail
  refine (value_any X _ _ _ _ hs hd (by omega) hc).mono ?_
  rintro e w' ⟨rfl, ao1, ca1, a, rfl, hca1, hal, hcan, hsa1⟩
  rw [hn] at hcan
  have hal' : a.length <= 1099511627776 := Nat.le_trans hal hl
  have hha := hsa1.hd
  have hnv := hid hcan.2.2
  have hda := hcan.1
  have hlen := hid hcan.len
  clear hn hs hd hl hc hal
  by_cases h2 : 2 < a.length
  · have hbig : 18446744073709551616 <= n := by
      by_cases h : n < 18446744073709551616
      · have : lg n <= 2 := by rw [lg_le, B_eq]; omega
        have := hlen.out; omega
      · omega
    have hb' := hid hbig
    clear hbig
    go_wp2_with fail
    go_ret2
    exact ⟨rfl, .inr ⟨hb'.out, rfl⟩⟩
  · have hsm : Hid (n < 18446744073709551616) := hid (by
      have : lg n <= 2 := by rw [<- hlen.out]; omega
      rw [lg_le, B_eq] at this; omega)
    go_wp2_with fail
    go_loop [2, 13] (fun v i => ∃ k : Nat, i = .int .i64 k /\ v = .int .u64 (nv (a.take k) : Nat) /\ k <= a.length) (fun _ i => a.length - (intOf i).toNat)
    case atStart => exact ⟨0, rfl, rfl, by omega⟩
    case round =>
      obtain ⟨k, rfl, rfl, hk⟩ := hrel
      by_cases hlt : k < a.length
      · have hcell := hsa1.nat k hlt
        have hx := hda.get k hlt
        have hstep := nv_take_succ a k hlt
        obtain ⟨x, hxx⟩ : ∃ x, a[k] = x := ⟨_, rfl⟩
        rw [hxx] at hcell hx hstep
        rw [B_eq] at hx hstep
        have hlow := nv_take_lt hda k
        obtain ⟨v, hv⟩ : ∃ v, nv (a.take k) = v := ⟨_, rfl⟩
        rw [hv] at hstep hlow |-
        have hst' := hid hstep
        clear hstep hxx hv
        rcases (by omega : k = 0 \/ k = 1) with rfl | rfl
        · rw [Nat.pow_zero] at hlow
          obtain rfl : v = 0 := by omega
          clear hlow
          have hor : bits BinOp.or IntKind.u64 0 (x : Int) = (x : Int) := by
            have := bits_or_u64_nat 0 x (by omega) (by omega)
            rw [Nat.zero_or] at this; exact this
          have hcell0 : w.cell? (adr ao1 0) = some (.int .u32 x) := hcell
          go_wp2_with (with_reducible refine up_ix1 slU32 (by omega) (by assumption) ?_)
          have hfin : nv (a.take 1) = x := by have := hst'.out; simpa using this
          go_round
          case rel => exact ⟨1, rfl, by rw [hfin], by omega⟩
          case measure => simp [intOf]; omega
        · rw [Nat.pow_one, B_eq] at hlow
          have hor0 : bits BinOp.or IntKind.u64 (v : Int) ((x : Int) * 4294967296) = ((v + 4294967296 * x : Nat) : Int) := by
            have e := bits_or_u64_nat v (x * 4294967296) (by omega) (by omega)
            have e2 := Nat.two_pow_add_eq_or_of_lt (i := 32) (b := v) (by omega) x
            rw [Nat.or_comm, Nat.mul_comm x, show (4294967296 : Nat) * x = 2 ^ 32 * x from rfl, <- e2] at e
            have e3 : ((2 ^ 32 * x : Nat) : Int) = (x : Int) * 4294967296 := by omega
            rw [e3] at e
            rw [e]
            omega
          have hfin0 : nv (a.take 2) = v + 4294967296 * x := by have := hst'.out; simpa using this
          obtain ⟨T, hT⟩ : ∃ T, v + 4294967296 * x = T := ⟨_, rfl⟩
          rw [hT] at hor0 hfin0
          have hfin := hid hfin0
          have hor := hor0
          clear hor0 hT hfin0
          have hcell0 : w.cell? (adr ao1 1) = some (.int .u32 x) := hcell
          have hvI : (v : Int) < 4294967296 := by omega
          have hxI : (x : Int) < 4294967296 := by omega
          clear hlow hx
          have hltI : (1 : Int) < (a.length : Int) := by omega
          have hltI2 : decide ((1 : Int) < (a.length : Int)) = true := decide_eq_true hltI
          go_wp2_with (with_reducible refine up_ix1 slU32 (by omega) (by assumption) ?_)
          go_round
          case rel => exact ⟨2, rfl, by rw [hfin.out], by omega⟩
          case measure => simp [intOf]; omega
      · have hka : k = a.length := by omega
        have hfin : nv (a.take k) = n := by rw [hka, List.take_length]; exact hnv.out
        rw [hfin]
        go_wp2_with fail
        go_ret2
        exact ⟨rfl, .inl ⟨hsm.out, rfl⟩⟩
theorem gcd64_any (a b : Nat) (w : World) (_ha : a < 18446744073709551616) (hb : b < 18446744073709551616) :
    Calls Tryz.prog 326 #[.int .u64 a, .int .u64 b] w (QuietOut w .u64 (Nat.gcd a b)) := by
  obtain ⟨g, hg⟩ : ∃ g, Nat.gcd a b = g := ⟨_, rfl⟩
  rw [hg]
  have hg' := hid hg
  clear hg
  have hbI : Hid (b < 18446744073709551616) := hid hb
  clear _ha hb
  go_enter Tryz.func326, Tryz.ntmps326
  go_wp2_with fail
  go_loopw [0, 1] (fun x y wr => ∃ p q m : Nat, x = .int .u64 p /\ y = .int .u64 q /\ Hid (Nat.gcd p q = g) /\ wr = w.drewN m) (fun _ y _ => (intOf y).toNat)
  case atStart => exact ⟨a, b, 0, rfl, rfl, hg', rfl⟩
  case round =>
    obtain ⟨p, q, m, rfl, rfl, hpq, rfl⟩ := hrel
    by_cases hq : q = 0
    · subst hq
      have hfin := hid (by have := hpq.out; rwa [Nat.gcd_zero_right] at this)
      have t1 : (((0 : Nat) : Int) != 0) = false := rfl
      go_wp2_with fail
      go_ret
      exact ⟨ret_int (congrArg Nat.cast hfin.out), m, rfl⟩
    · have t1 : ((q : Int) == 0) = false := beqF (by omega)
      have t2 : ((q : Int) != 0) = true := bneT (by omega)
      have hst : Hid (Nat.gcd q (p % q) = g) := hid (by rw [Nat.gcd_comm, <- Nat.gcd_rec, Nat.gcd_comm]; exact hpq.out)
      have hlt : p % q < q := Nat.mod_lt _ (by omega)
      have hq' := hid hq
      clear hq
      go_wp2_with fail
      go_quiet (fail)
      go_wp2_with fail
      go_roundw
      case rel => exact ⟨q, p % q, _, rfl, by rw [Int.natCast_emod], hst, World.drewN_drewN _ _ _⟩
      case measure =>
        simp only [intOf, Int.toNat_natCast]
        rw [<- Int.natCast_emod, Int.toNat_natCast]
        exact hlt
noncomputable def nvAt (w : World) : Value -> Nat
  | .slice ao n _ => nv ((List.range n).map fun i => match w.cell? (adr ao i) with | some (.int _ x) => x.toNat | _ => 0)
  | _ => 0
theorem nvAt_eq {X : Nat -> Bool} {w : World} {ao : Option Addr} {l : List Nat} (c : Nat) (hs : Sl (NatIn .u32) 1 (mk X w) ao l) : nvAt w (.slice ao l.length c) = nv l := by
  show nv _ = nv l
  congr 1
  apply List.ext_getElem
  · simp
  · intro i h1 h2
    simp only [List.getElem_map, List.getElem_range, hs.nat i h2, Int.toNat_natCast]
theorem gcd_any (X : Nat -> Bool) (ao bo : Option Addr) (la lb : List Nat) (ca cb : Nat) (w : World) (hsa : Sl (NatIn .u32) 1 (mk X w) ao la) (hsb : Sl (NatIn .u32) 1 (mk X w) bo lb)
    (hda : Dig la) (hdb : Dig lb) (hla : la.length <= 1099511627776) (hlb : lb.length <= 1099511627776) (hca : la.length <= ca) (hcb : lb.length <= cb) (hX : ∀ k, X k = true -> k < w.heap.size) (na nb : Nat) (hna : val la = na) (hnb : val lb = nb) :
    Calls Tryz.prog 293 #[.slice ao la.length ca, .slice bo lb.length cb] w (NatOut X w (Nat.gcd na nb)) := by
  go_enter Tryz.func293, Tryz.ntmps293
  go_wp2_with fail
  refine (value_any X _ _ _ _ hsa hda (by omega) hca).mono ?_
  rintro e w' ⟨rfl, ao1, ca1, a, rfl, hca1, hal, hcan, hsa1⟩
  go_wp2_with fail
  refine (value_any X _ _ _ _ hsb hdb (by omega) hcb).mono ?_
  rintro e w' ⟨rfl, bo1, cb1, b, rfl, hcb1, hbl, hcbn, hsb1⟩
  rw [hna] at hcan
  rw [hnb] at hcbn
  have hal' : a.length <= 1099511627776 := Nat.le_trans hal hla
  have hbl' : b.length <= 1099511627776 := Nat.le_trans hbl hlb
  obtain ⟨g, hg⟩ : ∃ g, Nat.gcd na nb = g := ⟨_, rfl⟩
  rw [hg]
  have hg' := hid hg
  have hc1 := hid hcan
  have hc2 := hid hcbn
  clear hna hnb hal hbl hsa hsb hla hlb hca hcb hda hdb hg hcan hcbn
  go_wp2_with fail
  go_loopw [0, 1] (fun x y wr => ∃ (p q : Nat) (ao bo : Option Addr) (a b : List Nat) (ca cb : Nat), x = .slice ao a.length ca /\ y = .slice bo b.length cb /\ a.length <= ca /\ b.length <= cb /\ a.length <= 1099511627776 /\ b.length <= 1099511627776 /\ Hid (Canon a p) /\ Hid (Canon b q) /\ Hid (Nat.gcd p q = g) /\
    Sl (NatIn .u32) 1 (mk X wr) ao a /\ Sl (NatIn .u32) 1 (mk X wr) bo b /\ Ext w wr) (fun _ y W => nvAt W y)
  case atStart => exact ⟨na, nb, _, _, _, _, _, _, rfl, rfl, hca1, hcb1, hal', hbl', hc1, hc2, hg', hsa1, hsb1, ExtX.refl _⟩
  case round =>
    clear hc1 hc2 hsa1 hsb1 hca1 hcb1 hal' hbl'
    obtain ⟨p, q, ao2, bo2, a2, b2, ca2, cb2, rfl, rfl, hca, hcb, hal, hbl, hc1, hc2, hg, hsa, hsb, hE⟩ := hrel
    have hX2 : ∀ k, X k = true -> k < wr.heap.size := fun k hk => Nat.lt_of_lt_of_le (hX k hk) hE.size
    by_cases hq : 0 < b2.length
    · have hq0 : Hid (0 < q) := hid (by have := canon_len0 hc2.out; omega)
      have hqI : (0 : Int) < (b2.length : Int) := by omega
      have hd1 := hc1.out.1
      have hd2 := hc2.out.1
      have hv1 := hid hc1.out.val
      have hv2 := hid hc2.out.val
      go_wp2_with fail
      refine (uint_any X ao2 a2 ca2 wr hsa hd1 hal hca p hv1.out).mono ?_
      rintro e w' ⟨rfl, hu1⟩
      rcases hu1 with ⟨u1, rfl⟩ | ⟨u1, rfl⟩
      · have u1' := hid u1
        clear u1
        go_wp2_with fail
        refine (uint_any X bo2 b2 cb2 wr hsb hd2 hbl hcb q hv2.out).mono ?_
        rintro e w' ⟨rfl, hu2⟩
        rcases hu2 with ⟨u2, rfl⟩ | ⟨u2, rfl⟩
        · have hgl : Nat.gcd p q < 18446744073709551616 := Nat.lt_of_le_of_lt (Nat.gcd_le_right _ hq0.out) u2
          rw [hg.out] at hgl
          have u2' := hid u2
          have hgl' := hid hgl
          have hgc := gcd64_any p q wr u1'.out u2'.out
          rw [hg.out] at hgc
          clear u2 hgl
          go_wp2_with fail
          refine hgc.mono ?_
          rintro e w2 ⟨rfl, m, rfl⟩
          go_wp2_with fail
          refine (fromUint_any X g (wr.drewN m) hgl'.out hX2).mono ?_
          rintro e w3 ⟨hE3, ao3, ca3, l3, rfl, hc3, hcan3, hs3⟩
          go_wp2_with fail
          go_ret
          exact ⟨hE.trans (((ExtX.refl wr).drewN m).trans hE3), ao3, ca3, l3, rfl, hc3, by rw [hg'.out]; exact hcan3, hs3⟩
        · clear u2
          go_wp2_with fail
          refine (div_any X ao2 bo2 a2 b2 ca2 cb2 wr hsa hsb hd1 hd2 hal hbl hca hcb hX2 p q hv1.out hv2.out hq0.out).mono ?_
          rintro e w3 ⟨hE3, ao3, ca3, l3, bo4, cb4, l4, rfl, hc3, hcan3, hs3, hc4, hcan4, hs4⟩
          go_wp2_with fail
          have hl4 : l4.length <= 1099511627776 := by
            have h1 : l4.length <= b2.length := by rw [hcan4.len, hc2.out.len]; exact lg_mono (Nat.le_of_lt (Nat.mod_lt _ hq0.out))
            omega
          have hst : Hid (Nat.gcd q (p % q) = g) := hid (by rw [Nat.gcd_comm, <- Nat.gcd_rec, Nat.gcd_comm]; exact hg.out)
          have hsb3 := hsb.mono (NatIn.mono _) (mk_ext hE3)
          have hm1 := nvAt_eq cb4 hs4
          have hm2 := nvAt_eq cb2 hsb
          rw [hcan4.2.2] at hm1
          rw [hc2.out.2.2] at hm2
          have hlt := Nat.mod_lt p hq0.out
          have hcan4' := hid hcan4
          have hm1' := hid hm1
          have hm2' := hid hm2
          clear hcan3 hs3 hcan4 hm1 hm2 hv1 hv2
          go_roundw
          case rel => exact ⟨q, p % q, _, _, _, _, _, _, rfl, rfl, hcb, hc4, hbl, hl4, hc2, hcan4', hst, hsb3, hs4, hE.trans hE3⟩
          case measure => rw [hm1'.out, hm2'.out]; exact hlt
      · clear u1
        go_wp2_with fail
        refine (uint_any X bo2 b2 cb2 wr hsb hd2 hbl hcb q hv2.out).mono ?_
        rintro e w' ⟨rfl, hu2⟩
        rcases hu2 with ⟨u2, rfl⟩ | ⟨u2, rfl⟩
        all_goals
          clear u2
          go_wp2_with fail
          refine (div_any X ao2 bo2 a2 b2 ca2 cb2 wr hsa hsb hd1 hd2 hal hbl hca hcb hX2 p q hv1.out hv2.out hq0.out).mono ?_
          rintro e w3 ⟨hE3, ao3, ca3, l3, bo4, cb4, l4, rfl, hc3, hcan3, hs3, hc4, hcan4, hs4⟩
          go_wp2_with fail
          have hl4 : l4.length <= 1099511627776 := by
            have h1 : l4.length <= b2.length := by rw [hcan4.len, hc2.out.len]; exact lg_mono (Nat.le_of_lt (Nat.mod_lt _ hq0.out))
            omega
          have hst : Hid (Nat.gcd q (p % q) = g) := hid (by rw [Nat.gcd_comm, <- Nat.gcd_rec, Nat.gcd_comm]; exact hg.out)
          have hsb3 := hsb.mono (NatIn.mono _) (mk_ext hE3)
          have hm1 := nvAt_eq cb4 hs4
          have hm2 := nvAt_eq cb2 hsb
          rw [hcan4.2.2] at hm1
          rw [hc2.out.2.2] at hm2
          have hlt := Nat.mod_lt p hq0.out
          have hcan4' := hid hcan4
          have hm1' := hid hm1
          have hm2' := hid hm2
          clear hcan3 hs3 hcan4 hm1 hm2 hv1 hv2
          go_roundw
          case rel => exact ⟨q, p % q, _, _, _, _, _, _, rfl, rfl, hcb, hc4, hbl, hl4, hc2, hcan4', hst, hsb3, hs4, hE.trans hE3⟩
          case measure => rw [hm1'.out, hm2'.out]; exact hlt
    · have hq0 : q = 0 := by have := canon_len0 hc2.out; omega
      subst hq0
      have hfin := hg.out
      rw [Nat.gcd_zero_right] at hfin
      have hfin' := hid hfin
      clear hfin
      have hcc := hc1.out
      clear hg hc2
      go_wp2_with fail
      refine (clone_any X ao2 a2 ca2 wr p hsa hcc (by omega) hX2).mono ?_
      rintro e w3 ⟨hE3, ao3, ca3, l3, rfl, hc3, hcan3, hs3⟩
      go_wp2_with fail
      go_ret
      exact ⟨hE.trans hE3, ao3, ca3, l3, rfl, hc3, by rw [hg'.out, <- hfin'.out]; exact hcan3, hs3⟩
end Go.Proofs.YtnnpfhoigmegcaaGreat
namespace Go.Proofs.YtnnpfhoigmegcaaGreat
open Go.RowKit Go.Rep Go.Lim
theorem rvalid_any (X : Nat -> Bool) (ao : Option Addr) (l : List Nat) (cap : Nat) (w : World) (hs : Sl (NatIn .u32) 1 (mk X w) ao l) (hl : l.length <= 4398046511104) :
    Calls Tryz.prog 274 #[.slice ao l.length cap] w fun e w' => w = w' /\ e = .returned (.bool (validL l)) := by
  have hh := hs.hd
  by_cases h0 : l.length = 0
  · have hl0 : l = [] := List.eq_nil_of_length_eq_zero h0
    subst hl0
    clear hs hh hl h0
    simp only [List.length_nil]
    go_enter Tryz.func274, Tryz.ntmps274
    go_wp2_with fail
    go_ret
    exact ⟨rfl, rfl⟩
  · have hc := hs.nat (l.length - 1) (by omega)
    have hv := hid (validL_last (l := l) (by omega))
    have hz : ((l.length : Int) == 0) = false := beqF (by omega)
    go_enter Tryz.func274, Tryz.ntmps274
    go_wp2_with (with_reducible refine up_ix1 slU32 (by omega) (by assumption) ?_)
    go_ret
    exact ⟨rfl, ret_bool (by rw [hv.out]; exact cast_bne0 _)⟩
theorem rtake_any (X : Nat -> Bool) (ao : Option Addr) (l : List Nat) (cap : Nat) (w : World) (hs : Sl (NatIn .u32) 1 (mk X w) ao l) (hd : Dig l) (hl : l.length <= 4398046511104) (hX : ∀ k, X k = true -> k < w.heap.size) :
    Calls Tryz.prog 196 #[.slice ao l.length cap] w (NatOut X w (val l)) := by
  cases hv : validL l
  · have hv' := hid hv
    go_enter Tryz.func196, Tryz.ntmps196
    go_wp2_with (go_at_call 274; refine (rvalid_any X _ _ _ _ hs hl).mono ?_; rintro e w' ⟨rfl, rfl⟩)
    go_ret
    have : vl l = [] := by unfold vl; rw [hv]; rfl
    exact ⟨ExtX.refl _, none, 0, [], rfl, by simp, this ▸ vl_canon hd, Sl.nil _ _ _ _⟩
  · have hv' := hid hv
    have hO := OL.nil (NatIn .u32) 1 X w.heap.size 110 w
    have hs2 : Sl (NatIn .u32) 1 (mk (un X none) w) ao l := hs.mono (NatIn.mono _) (mk_sub fun k _ hk => by simpa [un, ob] using hk)
    go_enter Tryz.func196, Tryz.ntmps196
    go_wp2_with (first | (go_at_call 274; refine (rvalid_any X _ _ _ _ hs hl).mono ?_; rintro e w' ⟨rfl, rfl⟩) | (at_builtin; refine st_appendl (l := []) slU32 rfl (NatIn.elem .u32) (Nat.le_refl _) hX l rfl rfl hO hs2 (by simp; omega) (by simp; omega) ?_; intro ao2 cap2 w2 hO2 hE2 _))
    go_ret
    have : vl l = l := by unfold vl; rw [hv]; rfl
    have hc := vl_canon hd
    rw [this] at hc
    exact ⟨(ExtX.refl w).own hO (Nat.le_refl _) hE2, _, _, l, rfl, by simpa using hO2.lenCap, hc, by simpa using hO2.sl (NatIn.elem _)⟩
theorem rtrim_any (X : Nat -> Bool) (ao : Option Addr) (l : List Nat) (cap : Nat) (w : World) (hs : Sl (NatIn .u32) 1 (mk X w) ao l) (hd : Dig l) (hl : l.length <= 4398046511104) (hcap : l.length <= cap) :
    Calls Tryz.prog 278 #[.slice ao l.length cap] w (TrimOut X w ao l cap) := by
  have hh := hs.hd
  go_enter Tryz.func278, Tryz.ntmps278
  go_wp2_with fail
  go_loop [0] (fun s => ∃ k : Nat, s = .slice ao k cap /\ Cut l k) (fun s => lenOf s)
  case atStart => exact ⟨_, rfl, Cut.all l⟩
  case round =>
    obtain ⟨k, rfl, hk⟩ := hrel
    have hkl := hk.1
    by_cases hlt : 0 < k
    · have hc := hs.nat (k - 1) (by omega)
      have hhk : Hd ao k := fun _ => hh (by omega)
      by_cases hz : l[k - 1] = 0
      · have hk' := hk.less hlt hz
        have hz' := hid hz
        rw [hz] at hc
        clear hz
        go_wp2_with (with_reducible refine up_ix1 slU32 (by omega) (by assumption) ?_)
        go_round
        case rel => exact ⟨k - 1, by go_num, hk'⟩
        case measure => simp [lenOf]; omega
      · have hcn := hk.canon hd (.inr ⟨by omega, hz⟩)
        have hz' : ((l[k - 1] : Int) == 0) = false := beqF (by omega)
        go_wp2_with (with_reducible refine up_ix1 slU32 (by omega) (by assumption) ?_)
        go_ret
        exact ⟨rfl, l.take k, ret_slice (by simp; omega), by simp; omega, hcn, hs.take k⟩
    · have hcn := hk.canon hd (.inl (by omega))
      go_wp2_with fail
      go_ret
      exact ⟨rfl, l.take k, ret_slice (by simp; omega), by simp; omega, hcn, hs.take k⟩
theorem rlimb_any (X : Nat -> Bool) (ao : Option Addr) (l : List Nat) (cap : Nat) (i : Nat) (w : World) (hs : Sl (NatIn .u32) 1 (mk X w) ao l) (hd : Dig l) (hi : i <= 4398046511104) (x : Nat) (hx : l.getD i 0 = x) :
    Calls Tryz.prog 277 #[.slice ao l.length cap, .int .i64 i] w fun e w' => w = w' /\ e = .returned (.int .u64 x) := by
  have hh := hs.hd
  have hx' := hid hx
  clear hx
  by_cases h : i < l.length
  · have hc := hs.nat i h
    have hD : l.getD i 0 = l[i] := by simp [List.getD, h]
    have hD' := hid hD
    have hdi := hd.get i h
    rw [B_eq] at hdi
    go_enter Tryz.func277, Tryz.ntmps277
    go_wp2_with (with_reducible refine up_ix1 slU32 (by omega) (by assumption) ?_)
    go_ret
    exact ⟨rfl, ret_int (by rw [<- hx'.out, hD'.out])⟩
  · have hD : l.getD i 0 = 0 := by simp [List.getD, h]
    have hD' := hid hD
    go_enter Tryz.func277, Tryz.ntmps277
    go_wp2_with (with_reducible refine up_ix1 slU32 (by omega) (by assumption) ?_)
    go_ret
    exact ⟨rfl, ret_int (by rw [<- hx'.out, hD'.out]; rfl)⟩
theorem rfromUint_any (X : Nat -> Bool) (n : Nat) (w : World) (hn : n < 18446744073709551616) (hX : ∀ k, X k = true -> k < w.heap.size) :
    Calls Tryz.prog 210 #[.int .u64 n] w (NatOut X w n) := by
  have hO : OL (NatIn .u32) 1 X w.heap.size 110 (w.alloc (.cells #[.int .u32 ((n : Int) % 4294967296), .int .u32 ((n : Int) / 4294967296)] 110)) (some ⟨w.heap.size, 0, none⟩) 2 [n % 4294967296, n / 4294967296] :=
    OL.lit (NatIn.elem .u32) hX (Nat.le_refl _) [.int .u32 ((n % 4294967296 : Nat) : Int), .int .u32 ((n / 4294967296 : Nat) : Int)] [n % 4294967296, n / 4294967296] _ (by simp [cellsL, Value.cells]) rfl
      (fun i hi _ => by match i, hi with
                        | 0, _ => rfl
                        | 1, _ => rfl) (by simp)
  go_enter Tryz.func210, Tryz.ntmps210
  go_wp2_with fail
  refine (rtrim_any X _ [n % 4294967296, n / 4294967296] _ _ (hO.sl (NatIn.elem .u32)) (Dig.cons (by rw [B_eq]; exact Nat.mod_lt _ (by decide)) (Dig.cons (by rw [B_eq]; omega) Dig.nil)) (by simp) (by simp)).mono ?_
  rintro e w' ⟨rfl, l', rfl, hl', hc, hs'⟩
  go_wp2_with fail
  go_ret
  have hv : nv [n % 4294967296, n / 4294967296] = n := by simp only [nv, B_eq]; omega
  rw [hv] at hc
  exact ⟨(ExtX.refl w).alloc _, _, 2, _, rfl, by simpa using hl', hc, hs'⟩
theorem rcompare0_any (X : Nat -> Bool) (ao1 bo1 : Option Addr) (a b : List Nat) (ca1 cb1 : Nat) (w : World) (hsa1 : Sl (NatIn .u32) 1 (mk X w) ao1 a) (hsb1 : Sl (NatIn .u32) 1 (mk X w) bo1 b)
    (hal' : a.length <= 1099511627776) (na nb : Nat) (hcan : Canon a na) (hcbn : Canon b nb) :
    Calls Tryz.prog 279 #[.slice ao1 a.length ca1, .slice bo1 b.length cb1] w (IntOut w (cmpN na nb)) := by
  have hha := hsa1.hd
  have hhb := hsb1.hd
  by_cases hlt : a.length < b.length
  · have hv := hid (cmpN_of_len_lt hcan hcbn hlt)
    have hne : ((a.length : Int) != b.length) = true := bneT (by omega)
    go_enter Tryz.func279, Tryz.ntmps279
    go_wp2_with fail
    go_ret
    exact ⟨ExtX.refl _, ret_int hv.out.symm⟩
  by_cases hgt : b.length < a.length
  · have hv := hid (cmpN_of_len_gt hcan hcbn hgt)
    have hne : ((a.length : Int) != b.length) = true := bneT (by omega)
    go_enter Tryz.func279, Tryz.ntmps279
    go_wp2_with fail
    go_ret
    exact ⟨ExtX.refl _, ret_int hv.out.symm⟩
  have hne : ((a.length : Int) != b.length) = false := bneF (by omega)
  have heq : Hid (a.length = b.length) := hid (by omega)
  have hbl : b.length <= a.length := by omega
  have hab : a.length <= b.length := by omega
  clear hlt hgt
  go_enter Tryz.func279, Tryz.ntmps279
  go_wp2_with fail
  go_loopw [5] (fun i wr => ∃ k : Nat, i = .int .i64 ((k : Int) - 1) /\ k <= a.length /\ Hid (a.drop k = b.drop k) /\ Ext w wr) (fun i _ => (intOf i + 1).toNat)
  case atStart => exact ⟨a.length, rfl, Nat.le_refl _, hid (by rw [List.drop_of_length_le (Nat.le_refl _), List.drop_of_length_le hbl]), ExtX.refl _⟩
  case round =>
    obtain ⟨k, rfl, hk, hdr, hE⟩ := hrel
    by_cases hlt : 0 < k
    · have c1 := (hsa1.mono (NatIn.mono _) (mk_ext hE)).nat (k - 1) (by omega)
      have c2 := (hsb1.mono (NatIn.mono _) (mk_ext hE)).nat (k - 1) (by omega)
      have i1 : ∀ W, (Instr.indexAt 37 (.slice ao1 a.length ca1) (.int .i64 ((k : Int) - 1))).run Tryz.prog W = .ok (.pointer (some (adr ao1 (k - 1)))) W := run_ix1 slU32 ao1 a.length ca1 .i64 (k - 1) hha (by omega) (by omega)
      have i2 : ∀ W, (Instr.indexAt 37 (.slice bo1 b.length cb1) (.int .i64 ((k : Int) - 1))).run Tryz.prog W = .ok (.pointer (some (adr bo1 (k - 1)))) W := run_ix1 slU32 bo1 b.length cb1 .i64 (k - 1) hhb (by omega) (by omega)
      by_cases h1 : a[k - 1] < b[k - 1]
      · have hv := hid (cmpN_of_lt hcan hcbn heq.out hlt hk hdr.out h1)
        have t1 : ((a[k - 1] : Int) < (b[k - 1] : Int)) := by omega
        go_wp2_with fail
        go_quiet (fail)
        go_wp2_with fail
        go_ret
        exact ⟨hE.drewN _, ret_int hv.out.symm⟩
      by_cases h2 : b[k - 1] < a[k - 1]
      · have hv := hid (cmpN_of_gt hcan hcbn heq.out hlt hk hdr.out h2)
        go_wp2_with fail
        go_quiet (fail)
        go_wp2_with fail
        go_quiet (fail)
        go_wp2_with fail
        go_ret
        exact ⟨(hE.drewN _).drewN _, ret_int hv.out.symm⟩
      · have hdr' := hid (drop_eq_pred heq.out hlt hk hdr.out (by omega))
        go_wp2_with fail
        go_quiet (fail)
        go_wp2_with fail
        go_quiet (fail)
        go_wp2_with fail
        go_roundw
        case rel => exact ⟨k - 1, by go_num, by omega, hdr', hE.drewN _⟩
        case measure => simp [intOf]; omega
    · have hv := hid (cmpN_of_eq hcan hcbn (k := k) (by omega) hdr.out)
      go_wp2_with fail
      go_ret
      exact ⟨hE, ret_int hv.out.symm⟩
theorem radd_any (X : Nat -> Bool) (ao bo : Option Addr) (la lb : List Nat) (ca cb : Nat) (w : World) (hsa : Sl (NatIn .u32) 1 (mk X w) ao la) (hsb : Sl (NatIn .u32) 1 (mk X w) bo lb)
    (hda : Dig la) (hdb : Dig lb) (hla : la.length <= 1099511627776) (hlb : lb.length <= 1099511627776) (hX : ∀ k, X k = true -> k < w.heap.size) (na nb : Nat) (hna : val la = na) (hnb : val lb = nb) :
    Calls Tryz.prog 201 #[.slice ao la.length ca, .slice bo lb.length cb] w (NatOut X w (na + nb)) := by
  go_enter Tryz.func201, Tryz.ntmps201
  go_wp2_with fail
  refine (rtake_any X _ _ _ _ hsa hda (by omega) hX).mono ?_
  rintro e w1 ⟨hE1, ao1, ca1, a, rfl, hca1, hcan, hsa1⟩
  have hX1 : ∀ k, X k = true -> k < w1.heap.size := fun k hk => Nat.lt_of_lt_of_le (hX k hk) hE1.size
  go_wp2_with fail
  refine (rtake_any X _ _ _ _ (hsb.mono (NatIn.mono _) (mk_ext hE1)) hdb (by omega) hX1).mono ?_
  rintro e w2 ⟨hE2, bo1, cb1, b, rfl, hcb1, hcbn, hsb1⟩
  have hX2 : ∀ k, X k = true -> k < w2.heap.size := fun k hk => Nat.lt_of_lt_of_le (hX1 k hk) hE2.size
  have hal : a.length <= 1099511627776 := by rw [hcan.len]; exact Nat.le_trans (val_lg la hda) hla
  have hbl : b.length <= 1099511627776 := by rw [hcbn.len]; exact Nat.le_trans (val_lg lb hdb) hlb
  replace hsa1 := hsa1.mono (NatIn.mono _) (mk_ext hE2)
  rw [hna] at hcan
  rw [hnb] at hcbn
  have hsum : Hid (nv a + nv b = na + nb) := hid (by rw [hcan.2.2, hcbn.2.2])
  have hda1 := hcan.1
  have hdb1 := hcbn.1
  have hEE := hE1.trans hE2
  clear hna hnb hsa hsb hla hlb hcan hcbn hda hdb hE1 hE2 hX1
  obtain ⟨m, hm⟩ : ∃ m, max a.length b.length = m := ⟨_, rfl⟩
  have hma : a.length <= m := by omega
  have hmb : b.length <= m := by omega
  have hml : m <= 1099511627776 := by omega
  have hmx : (if a.length < b.length then (b.length : Int) else (a.length : Int)) = (m : Int) := by split <;> omega
  have hm' := hid hm
  clear hm
  go_wp2_with fail
  go_loopw [5, 6, 7] (fun v c i wr => ∃ (k : Nat) (o : List Nat) (cy : Nat) (oo : Option Addr) (cp : Nat), i = .int .i64 k /\ c = .int .u64 cy /\ v = .slice oo o.length cp /\ k <= m + 1 /\ RAddInv a b o k cy /\ OL (NatIn .u32) 1 X w2.heap.size 110 wr oo cp o /\ Ext w2 wr) (fun _ _ i _ => m + 1 - (intOf i).toNat)
  case atStart => exact ⟨0, [], 0, none, 0, rfl, rfl, rfl, by omega, RAddInv.start a b, OL.nil _ _ _ _ _ _, ExtX.refl _⟩
  case round =>
    obtain ⟨k, o, cy, oo, cp, rfl, rfl, rfl, hk, hinv, hO, hE⟩ := hrel
    have hol := hid hinv.1
    have hcy := hinv.2.2.1
    have hXr : ∀ k, X k = true -> k < wr.heap.size := fun k hk => Nat.lt_of_lt_of_le (hX2 k hk) hE.size
    have hbase : w2.heap.size <= wr.heap.size := hE.size
    by_cases hlt : k <= m
    · have hsa2 := hsa1.mono (NatIn.mono _) (mk_ext hE)
      have hsb2 := hsb1.mono (NatIn.mono _) (mk_ext hE)
      have hst := hinv.step hda1 hdb1
      have hx := hda1.getD k
      have hy := hdb1.getD k
      rw [B_eq] at hx hy
      obtain ⟨x, hxe⟩ : ∃ x, a.getD k 0 = x := ⟨_, rfl⟩
      obtain ⟨y, hye⟩ : ∃ y, b.getD k 0 = y := ⟨_, rfl⟩
      rw [hxe, hye] at hst
      rw [hxe] at hx
      rw [hye] at hy
      have hxe' := hid hxe
      have hye' := hid hye
      clear hxe hye
      go_wp2_with fail
      refine (rlimb_any X ao1 a ca1 k _ hsa2 hda1 (by omega) x hxe'.out).mono ?_
      rintro e w' ⟨rfl, rfl⟩
      go_wp2_with fail
      refine (rlimb_any X bo1 b cb1 k _ hsb2 hdb1 (by omega) y hye'.out).mono ?_
      rintro e w' ⟨rfl, rfl⟩
      have hlen : o.length <= 2199023255552 := by rw [hol.out]; omega
      go_wp2_with (at_builtin; refine st_append1 slU32 rfl (NatIn.elem .u32) hbase hXr rfl rfl hO (.int .u32 (((x + y + cy) % 4294967296 : Nat) : Int)) ((x + y + cy) % 4294967296) (by simp [Value.cells]) rfl (by omega) (by omega) ?_; intro ao2 cap2 w3 hO2 hE2 _)
      go_roundw
      case rel => exact ⟨k + 1, _, (x + y + cy) / 4294967296, ao2, cap2, by go_num, by simp, by simp, by omega, hst, hO2, hE.own hO (Nat.le_refl _) hE2⟩
      case measure => simp [intOf]; omega
    · have hke : k = m + 1 := by omega
      subst hke
      have hdn := hinv.done hda1 hdb1 hma hmb
      have hod := hinv.2.1
      have hs3 := hO.sl (NatIn.elem .u32)
      have hlen : o.length <= 2199023255552 := by rw [hol.out]; omega
      have hlc := hO.lenCap
      have hdn' := hid hdn
      clear hdn
      go_wp2_with fail
      refine (rtrim_any X _ _ _ _ hs3 hod (by omega) hlc).mono ?_
      rintro e w' ⟨rfl, l', rfl, hl', hc, hs'⟩
      go_wp2_with fail
      go_ret
      rw [hdn'.out, hsum.out] at hc
      exact ⟨hEE.trans hE, _, _, _, rfl, by omega, hc, hs'⟩
end Go.Proofs.YtnnpfhoigmegcaaGreat
namespace Go.Lim
def RSubInv (a b o : List Nat) (i c : Nat) : Prop := o.length = i /\ Dig o /\ c <= 1 /\ nv o + nv (b.take i) = nv (a.take i) + B ^ i * c
theorem RSubInv.start (a b : List Nat) : RSubInv a b [] 0 0 := ⟨rfl, Dig.nil, by omega, by simp [nv]⟩
theorem RSubInv.step {a b o : List Nat} {i c x y : Nat} (h : RSubInv a b o i c) (hx : a.getD i 0 = x) (hy : b.getD i 0 = y) (ha : Dig a) (hb : Dig b) : RSubInv a b (o ++ [subD x y c]) (i + 1) (subC x y c) := by
  obtain ⟨h1, h2, h3, h4⟩ := h
  have hxB := ha.getD i
  have hyB := hb.getD i
  rw [hx] at hxB
  rw [hy] at hyB
  obtain ⟨e1, e2, e3⟩ := subD_eq hxB hyB h3
  refine ⟨by simp [h1], h2.append (Dig.cons e2 Dig.nil), e3, ?_⟩
  rw [nv_snoc, h1, nv_take_getD, nv_take_getD, hx, hy, Nat.pow_succ]
  generalize subD x y c = d at *
  generalize subC x y c = c' at *
  have e4 : B ^ i * (d + y + c) = B ^ i * (x + B * c') := by rw [e1]
  rw [Nat.mul_add, Nat.mul_add, Nat.mul_add] at e4
  rw [Nat.mul_assoc]
  omega
theorem RSubInv.done {a b o : List Nat} {c : Nat} (h : RSubInv a b o a.length c) (hab : b.length <= a.length) (hle : nv b <= nv a) : nv o = nv a - nv b := by
  obtain ⟨h1, h2, h3, h4⟩ := h
  rw [List.take_of_length_le hab, List.take_of_length_le (Nat.le_refl _)] at h4
  have h5 := nv_lt h2
  rw [h1] at h5
  rcases (by omega : c = 0 \/ c = 1) with rfl | rfl
  · omega
  · omega
theorem sub_digit {x y c : Nat} (hx : x < 4294967296) (hy : y < 4294967296) (hc : c <= 1) : (x + 4294967296 - y - c) % 4294967296 = subD x y c /\ 1 - (x + 4294967296 - y - c) / 4294967296 = subC x y c := by
  unfold subD subC
  refine ⟨rfl, ?_⟩
  split <;> omega
def TimInv (a : List Nat) (v by_ : Nat) (o : List Nat) (i c : Nat) : Prop := o.length = by_ + i /\ Dig o /\ c < B /\ nv o + B ^ (by_ + i) * c = B ^ by_ * (nv (a.take i) * v)
theorem TimInv.start (a : List Nat) (v by_ : Nat) : TimInv a v by_ (List.replicate by_ 0) 0 0 := ⟨by simp, Dig.zeros _, B_pos, by simp [nv, nv_zeros]⟩
theorem TimInv.step {a o : List Nat} {v by_ i c x : Nat} (h : TimInv a v by_ o i c) (hx : a.getD i 0 = x) (ha : Dig a) (hv : v < 4294967296) :
    TimInv a v by_ (o ++ [(x * v + c) % 4294967296]) (i + 1) ((x * v + c) / 4294967296) /\ x * v + c < 18446744073709551616 := by
  obtain ⟨h1, h2, h3, h4⟩ := h
  have hxB := ha.getD i
  rw [hx, B_eq] at hxB
  rw [B_eq] at h3
  have hm : x * v <= 4294967295 * 4294967295 := Nat.mul_le_mul (by omega) (by omega)
  have hlt : x * v + c < 18446744073709551616 := by omega
  refine ⟨⟨by simp [h1]; omega, h2.append (Dig.cons (by rw [B_eq]; exact Nat.mod_lt _ (by decide)) Dig.nil), by rw [B_eq]; omega, ?_⟩, hlt⟩
  rw [nv_snoc, h1, nv_take_getD, hx, <- Nat.add_assoc, Nat.pow_succ]
  have e := Nat.div_add_mod (x * v + c) 4294967296
  generalize (x * v + c) / 4294967296 = q at *
  generalize (x * v + c) % 4294967296 = r at *
  have e1 : B ^ (by_ + i) * (4294967296 * q + r) = B ^ (by_ + i) * (x * v + c) := by rw [e]
  rw [Nat.mul_add, Nat.mul_add] at e1
  have e2 : B ^ (by_ + i) * B * q = B ^ (by_ + i) * (4294967296 * q) := by rw [B_eq, Nat.mul_assoc]
  have e3 : B ^ by_ * ((nv (a.take i) + B ^ i * x) * v) = B ^ by_ * (nv (a.take i) * v) + B ^ (by_ + i) * (x * v) := by
    rw [Nat.add_mul, Nat.mul_add, Nat.pow_add, Nat.mul_assoc (B ^ i), <- Nat.mul_assoc (B ^ by_) (B ^ i)]
  rw [e2, e3]
  omega
theorem TimInv.done {a o : List Nat} {v by_ c : Nat} (h : TimInv a v by_ o (a.length + 1) c) (ha : Dig a) (hv : v < 4294967296) : Dig o /\ nv o = nv a * v * B ^ by_ := by
  obtain ⟨h1, h2, h3, h4⟩ := h
  rw [List.take_of_length_le (by omega)] at h4
  have h5 := nv_lt ha
  have hc : c = 0 := by
    by_cases h0 : c = 0
    · exact h0
    · have e1 : B ^ (by_ + (a.length + 1)) * 1 <= B ^ (by_ + (a.length + 1)) * c := Nat.mul_le_mul_left _ (by omega)
      have e2 : nv a * v < B ^ (a.length + 1) := by
        rw [Nat.pow_succ]
        exact Nat.lt_of_le_of_lt (Nat.mul_le_mul_left _ (Nat.le_of_lt (show v < B by rw [B_eq]; exact hv))) (Nat.mul_lt_mul_of_pos_right h5 B_pos)
      have e3 : B ^ by_ * (nv a * v) < B ^ by_ * B ^ (a.length + 1) := Nat.mul_lt_mul_of_pos_left e2 (Nat.pow_pos B_pos)
      rw [<- Nat.pow_add] at e3
      omega
  subst hc
  exact ⟨h2, by rw [Nat.mul_zero, Nat.add_zero] at h4; rw [h4, Nat.mul_comm]⟩
theorem digit_at {l : List Nat} (hd : Dig l) (k : Nat) : l.getD k 0 = nv l / B ^ k % B := by
  by_cases hk : k < l.length
  · have h1 := nv_split l k (by omega)
    have h2 := nv_take_lt hd k
    have h3 : nv (l.drop k) = l[k] + B * nv (l.drop (k + 1)) := nv_drop_eq hk
    have hQ : 0 < B ^ k := Nat.pow_pos B_pos
    rw [getD_of_lt hk, h1, Nat.add_mul_div_left _ _ hQ, Nat.div_eq_of_lt h2, Nat.zero_add, h3, Nat.add_mul_mod_self_left, Nat.mod_eq_of_lt (hd.get k hk)]
  · have h1 := nv_lt hd
    have h2 : B ^ l.length <= B ^ k := Nat.pow_le_pow_right B_pos (by omega)
    rw [getD_of_ge (by omega), Nat.div_eq_of_lt (by omega)]; simp
theorem bit_at {l : List Nat} {n : Nat} (h : Canon l n) (i : Nat) : l.getD (i / 32) 0 / 2 ^ (i % 32) % 2 = n / 2 ^ i % 2 := by
  rw [digit_at h.1, h.2.2]
  have e : i = 32 * (i / 32) + i % 32 := by omega
  have hs : i % 32 < 32 := Nat.mod_lt _ (by decide)
  generalize i / 32 = p at *
  generalize i % 32 = s at *
  subst e
  rw [B_two, Nat.pow_add, <- Nat.div_div_eq_div_mul]
  generalize n / 2 ^ (32 * p) = y
  have hB : B = 2 ^ s * (2 * 2 ^ (31 - s)) := by
    rw [B_eq, <- Nat.pow_succ', <- Nat.pow_add, show s + (31 - s).succ = 32 by omega]
  rw [hB, Nat.mod_mul_right_div_self]
  rw [Nat.mod_mul_right_mod]
def BitInv (a b q r i : Nat) : Prop := q = a / 2 ^ i / b /\ r = a / 2 ^ i % b
theorem BitInv.start {a b k : Nat} (h : a < 2 ^ k) : BitInv a b 0 0 k := by
  unfold BitInv
  rw [Nat.div_eq_of_lt h]
  exact ⟨by simp, by simp⟩
theorem BitInv.step {a b q r i t : Nat} (h : BitInv a b q r (i + 1)) (hb : 0 < b) (ht : a / 2 ^ i % 2 = t) : r < b /\ (2 * r + t < b -> BitInv a b (2 * q) (2 * r + t) i) /\ (b <= 2 * r + t -> BitInv a b (2 * q + 1) (2 * r + t - b) i) := by
  obtain ⟨h1, h2⟩ := h
  rw [Nat.pow_succ, <- Nat.div_div_eq_div_mul] at h1 h2
  have e := Nat.div_add_mod (a / 2 ^ i) 2
  rw [ht] at e
  have e2 := Nat.div_add_mod (a / 2 ^ i / 2) b
  rw [<- h1, <- h2] at e2
  have hr : r < b := by rw [h2]; exact Nat.mod_lt _ hb
  unfold BitInv
  generalize a / 2 ^ i = y at *
  generalize y / 2 = z at *
  have e3 : y = b * (2 * q) + (2 * r + t) := by
    rw [Nat.mul_left_comm]; omega
  refine ⟨hr, fun hlt => ?_, fun hge => ?_⟩
  · rw [e3]
    exact ⟨by rw [Nat.mul_add_div hb, Nat.div_eq_of_lt hlt, Nat.add_zero], by rw [Nat.mul_add_mod, Nat.mod_eq_of_lt hlt]⟩
  · have hlt : 2 * r + t - b < b := by omega
    have e4 : y = b * (2 * q + 1) + (2 * r + t - b) := by rw [e3, Nat.mul_add, Nat.mul_one]; omega
    rw [e4]
    exact ⟨by rw [Nat.mul_add_div hb, Nat.div_eq_of_lt hlt, Nat.add_zero], by rw [Nat.mul_add_mod, Nat.mod_eq_of_lt hlt]⟩
theorem BitInv.done {a b q r : Nat} (h : BitInv a b q r 0) : q = a / b /\ r = a % b := by
  unfold BitInv at h; simpa using h
end Go.Lim
namespace Go.Rep
open Go.RowKit Go.Lim
def HX (X : Nat -> Bool) (w : World) : Prop := ∀ k, X k = true -> k < w.heap.size
theorem HX.ext {X Y : Nat -> Bool} {w w' : World} (h : HX X w) (hE : ExtX Y w w') : HX X w' := fun k hk => Nat.lt_of_lt_of_le (h k hk) hE.size
theorem HX.none (w : World) : HX noY w := fun k hk => by simp [noY] at hk
def NV (h : Mem) (u : Value) (n : Nat) : Prop := ∃ ao c l, u = .slice ao l.length c /\ l.length <= c /\ Dig l /\ l.length <= 1099511627776 /\ Sl (NatIn .u32) 1 h ao l /\ val l = n
def NC (h : Mem) (u : Value) (n : Nat) : Prop := ∃ ao c l, u = .slice ao l.length c /\ l.length <= c /\ Canon l n /\ Sl (NatIn .u32) 1 h ao l
theorem NV.mono : Mono NV := by rintro h h' u x hl ⟨ao, c, l, rfl, h1, h2, h3, h4, h5⟩; exact ⟨ao, c, l, rfl, h1, h2, h3, h4.mono (NatIn.mono _) hl, h5⟩
theorem NC.mono : Mono NC := by rintro h h' u x hl ⟨ao, c, l, rfl, h1, h2, h3⟩; exact ⟨ao, c, l, rfl, h1, h2, h3.mono (NatIn.mono _) hl⟩
theorem NC.nv {h : Mem} {u : Value} {n : Nat} (hu : NC h u n) (hn : lg n <= 1099511627776) : NV h u n := by
  obtain ⟨ao, c, l, rfl, h1, h2, h3⟩ := hu
  exact ⟨ao, c, l, rfl, h1, h2.1, by rw [h2.len]; exact hn, h3, h2.val⟩
theorem NC.zero (h : Mem) : NC h (.slice none 0 0) 0 := ⟨none, 0, [], rfl, Nat.le_refl _, Canon.nil, Sl.nil _ _ _ _⟩
theorem NC.one {h : Mem} {ao : Option Addr} {c : Nat} (hc : 1 <= c) (hs : Sl (NatIn .u32) 1 h ao [1]) : NC h (.slice ao 1 c) 1 := ⟨ao, c, [1], rfl, hc, canon_of (by omega) (by omega), hs⟩
theorem NV.lg {h : Mem} {u : Value} {n : Nat} (hu : NV h u n) : lg n <= 1099511627776 := by
  obtain ⟨ao, c, l, rfl, h1, h2, h3, h4, rfl⟩ := hu
  exact Nat.le_trans (val_lg l h2) h3
def ROut {α : Type} (X : Nat -> Bool) (w : World) (R : Mem -> Value -> α -> Prop) (x : α) (e : Ending) (w' : World) : Prop := Ext w w' /\ ∃ u, e = .returned u /\ R (mk X w') u x
theorem mkx {X : Nat -> Bool} {w w' : World} {α : Type} {R : Mem -> Value -> α -> Prop} (hR : Mono R) {u : Value} {x : α} (h : R (mk X w) u x) (hE : Ext w w') : R (mk X w') u x := hR _ _ _ _ (mk_ext hE) h
end Go.Rep
namespace Go.Proofs.YtnnpfhoigmegcaaGreat
open Go.RowKit Go.Rep Go.Lim
theorem NatOut.r {X : Nat -> Bool} {w : World} {n : Nat} {e : Ending} {w' : World} (h : NatOut X w n e w') : ROut X w NC n e w' := by
  obtain ⟨hE, ao, c, l, rfl, h1, h2, h3⟩ := h
  exact ⟨hE, _, rfl, ao, c, l, rfl, h1, h2, h3⟩
section
variable {X : Nat -> Bool} {w : World} {u v : Value} {a b : Nat}
theorem nadd (hX : HX X w) (hu : NV (mk X w) u a) (hv : NV (mk X w) v b) : Calls Tryz.prog 166 #[u, v] w (ROut X w NC (a + b)) := by
  obtain ⟨ao, c, l, rfl, h1, h2, h3, h4, h5⟩ := hu
  obtain ⟨bo, d, m, rfl, k1, k2, k3, k4, k5⟩ := hv
  exact (add_any X ao bo l m c d w h4 k4 h2 k2 h3 k3 h1 k1 hX a b h5 k5).mono fun _ _ h => h.r
theorem nmul (hX : HX X w) (hu : NV (mk X w) u a) (hv : NV (mk X w) v b) : Calls Tryz.prog 234 #[u, v] w (ROut X w NC (a * b)) := by
  obtain ⟨ao, c, l, rfl, h1, h2, h3, h4, h5⟩ := hu
  obtain ⟨bo, d, m, rfl, k1, k2, k3, k4, k5⟩ := hv
  exact (mul_any X ao bo l m c d w h4 k4 h2 k2 h3 k3 h1 k1 hX a b h5 k5).mono fun _ _ h => h.r
theorem ngcd (hX : HX X w) (hu : NV (mk X w) u a) (hv : NV (mk X w) v b) : Calls Tryz.prog 293 #[u, v] w (ROut X w NC (Nat.gcd a b)) := by
  obtain ⟨ao, c, l, rfl, h1, h2, h3, h4, h5⟩ := hu
  obtain ⟨bo, d, m, rfl, k1, k2, k3, k4, k5⟩ := hv
  exact (gcd_any X ao bo l m c d w h4 k4 h2 k2 h3 k3 h1 k1 hX a b h5 k5).mono fun _ _ h => h.r
theorem ncmp (hu : NV (mk X w) u a) (hv : NV (mk X w) v b) : Calls Tryz.prog 168 #[u, v] w (IntOut w (cmpN a b)) := by
  obtain ⟨ao, c, l, rfl, h1, h2, h3, h4, h5⟩ := hu
  obtain ⟨bo, d, m, rfl, k1, k2, k3, k4, k5⟩ := hv
  exact compare_any X ao bo l m c d w h4 k4 h2 k2 h3 k3 h1 k1 a b h5 k5
def DOut (X : Nat -> Bool) (w : World) (q r : Nat) (e : Ending) (w' : World) : Prop := Ext w w' /\ ∃ u v, e = .returned (.tuple #[u, v, .bool true]) /\ NC (mk X w') u q /\ NC (mk X w') v r
theorem ndiv (hX : HX X w) (hu : NV (mk X w) u a) (hv : NV (mk X w) v b) (hb : 0 < b) : Calls Tryz.prog 245 #[u, v] w (DOut X w (a / b) (a % b)) := by
  obtain ⟨ao, c, l, rfl, h1, h2, h3, h4, h5⟩ := hu
  obtain ⟨bo, d, m, rfl, k1, k2, k3, k4, k5⟩ := hv
  refine (div_any X ao bo l m c d w h4 k4 h2 k2 h3 k3 h1 k1 hX a b h5 k5 hb).mono ?_
  rintro e w' ⟨hE, a1, c1, l1, a2, c2, l2, rfl, q1, q2, q3, q4, q5, q6⟩
  exact ⟨hE, _, _, rfl, ⟨a1, c1, l1, rfl, q1, q2, q3⟩, ⟨a2, c2, l2, rfl, q4, q5, q6⟩⟩
def SOut (X : Nat -> Bool) (w : World) (d : Nat) (b : Bool) (e : Ending) (w' : World) : Prop := Ext w w' /\ ∃ u, e = .returned (.tuple #[u, .bool b]) /\ NC (mk X w') u d
theorem nsub (hX : HX X w) (hu : NV (mk X w) u a) (hv : NV (mk X w) v b) : Calls Tryz.prog 307 #[u, v] w (SOut X w (a - b) (decide (b <= a))) := by
  obtain ⟨ao, c, l, rfl, h1, h2, h3, h4, h5⟩ := hu
  obtain ⟨bo, d, m, rfl, k1, k2, k3, k4, k5⟩ := hv
  refine (sub_any X ao bo l m c d w h4 k4 h2 k2 h3 k3 h1 k1 hX a b h5 k5).mono ?_
  rintro e w' ⟨hE, a1, c1, l1, rfl, q1, q2, q3⟩
  exact ⟨hE, _, rfl, a1, c1, l1, rfl, q1, q2, q3⟩
theorem nfrom (hX : HX X w) (ha : a < 18446744073709551616) : Calls Tryz.prog 244 #[.int .u64 a] w (ROut X w NC a) :=
  (fromUint_any X a w ha hX).mono fun _ _ h => h.r
theorem rnadd (hX : HX X w) (hu : NV (mk X w) u a) (hv : NV (mk X w) v b) : Calls Tryz.prog 201 #[u, v] w (ROut X w NC (a + b)) := by
  obtain ⟨ao, c, l, rfl, h1, h2, h3, h4, h5⟩ := hu
  obtain ⟨bo, d, m, rfl, k1, k2, k3, k4, k5⟩ := hv
  exact (radd_any X ao bo l m c d w h4 k4 h2 k2 h3 k3 hX a b h5 k5).mono fun _ _ h => h.r
theorem rntake (hX : HX X w) (hu : NV (mk X w) u a) : Calls Tryz.prog 196 #[u] w (ROut X w NC a) := by
  obtain ⟨ao, c, l, rfl, h1, h2, h3, h4, rfl⟩ := hu
  exact (rtake_any X ao l c w h4 h2 (by omega) hX).mono fun _ _ h => h.r
theorem rnfrom (hX : HX X w) (ha : a < 18446744073709551616) : Calls Tryz.prog 210 #[.int .u64 a] w (ROut X w NC a) :=
  (rfromUint_any X a w ha hX).mono fun _ _ h => h.r
end
end Go.Proofs.YtnnpfhoigmegcaaGreat
namespace Go.Proofs.YtnnpfhoigmegcaaGreat
open Go.RowKit Go.Rep Go.Lim
theorem rnsub (X : Nat -> Bool) (w : World) (u v : Value) (na nb : Nat) (hX : HX X w) (hu : NV (mk X w) u na) (hv : NV (mk X w) v nb) : Calls Tryz.prog 202 #[u, v] w (SOut X w (na - nb) (decide (nb <= na))) := by
  have hla := hu.lg
  have hlb := hv.lg
  go_enter Tryz.func202, Tryz.ntmps202
  go_wp2_with fail
  refine (rntake hX hu).mono ?_
  rintro e w1 ⟨hE1, u1, rfl, hu1⟩
  go_wp2_with fail
  refine (rntake (hX.ext hE1) (mkx NV.mono hv hE1)).mono ?_
  rintro e w2 ⟨hE2, v1, rfl, hv1⟩
  obtain ⟨ao, ca, a, rfl, hca, hcan, hsa⟩ := mkx NC.mono hu1 hE2
  obtain ⟨bo, cb, b, rfl, hcb, hcbn, hsb⟩ := hv1
  have hX2 := hX.ext (hE1.trans hE2)
  have hal : a.length <= 1099511627776 := by rw [hcan.len]; exact hla
  have hbl : b.length <= 1099511627776 := by rw [hcbn.len]; exact hlb
  have hE12 := hE1.trans hE2
  have hlen1 := hid hcan.len
  have hlen2 := hid hcbn.len
  clear hu hv hu1 hE1 hE2 hX hla hlb
  go_wp2_with fail
  refine (rcompare0_any X ao bo a b ca cb w2 hsa hsb hal na nb hcan hcbn).mono ?_
  rintro e w3 ⟨hE3, rfl⟩
  have hX3 := hX2.ext hE3
  have hE13 := hE12.trans hE3
  by_cases hlt : na < nb
  · have hc : cmpN na nb < 0 := (cmpN_lt _ _).2 hlt
    have hd : Hid (decide (nb <= na) = false) := hid (decide_eq_false (by omega))
    have hz : Hid (na - nb = 0) := hid (by omega)
    clear hlt
    go_wp2_with fail
    go_ret2
    exact ⟨hE13, .slice none 0 0, by rw [hd.out]; rfl, by rw [hz.out]; exact NC.zero _⟩
  · have hc : ¬ cmpN na nb < 0 := fun h => hlt ((cmpN_lt _ _).1 h)
    have hd : Hid (decide (nb <= na) = true) := hid (decide_eq_true (by omega))
    have hab : b.length <= a.length := by rw [hlen1.out, hlen2.out]; exact lg_mono (by omega)
    have hle : Hid (nv b <= nv a) := hid (by rw [hcan.2.2, hcbn.2.2]; omega)
    have hsum : Hid (nv a - nv b = na - nb) := hid (by rw [hcan.2.2, hcbn.2.2])
    have hda := hcan.1
    have hdb := hcbn.1
    have hsa3 := hsa.mono (NatIn.mono _) (mk_ext hE3)
    have hsb3 := hsb.mono (NatIn.mono _) (mk_ext hE3)
    clear hlt hcan hcbn hE3 hE12 hX2 hsa hsb hlen1 hlen2
    go_wp2_with fail
    go_loopw [6, 7, 8] (fun v c i wr => ∃ (k : Nat) (o : List Nat) (cy : Nat) (oo : Option Addr) (cp : Nat), i = .int .i64 k /\ c = .int .u64 cy /\ v = .slice oo o.length cp /\ k <= a.length /\ cy <= 1 /\ Hid (RSubInv a b o k cy) /\ o.length <= k /\ OL (NatIn .u32) 1 X w3.heap.size 110 wr oo cp o /\ Ext w3 wr) (fun _ _ i _ => a.length - (intOf i).toNat)
    case atStart => exact ⟨0, [], 0, none, 0, rfl, rfl, rfl, by omega, by omega, hid (RSubInv.start a b), by simp, OL.nil _ _ _ _ _ _, ExtX.refl _⟩
    case round =>
      obtain ⟨k, o, cy, oo, cp, rfl, rfl, rfl, hk, hcy, hinv, hol, hO, hE⟩ := hrel
      have hXr : ∀ k, X k = true -> k < wr.heap.size := fun k hk => Nat.lt_of_lt_of_le (hX3 k hk) hE.size
      have hbase : w3.heap.size <= wr.heap.size := hE.size
      by_cases hlt : k < a.length
      · have hsa2 := hsa3.mono (NatIn.mono _) (mk_ext hE)
        have hsb2 := hsb3.mono (NatIn.mono _) (mk_ext hE)
        have hx := hda.getD k
        have hy := hdb.getD k
        rw [B_eq] at hx hy
        obtain ⟨x, hxe⟩ : ∃ x, a.getD k 0 = x := ⟨_, rfl⟩
        obtain ⟨y, hye⟩ : ∃ y, b.getD k 0 = y := ⟨_, rfl⟩
        rw [hxe] at hx
        rw [hye] at hy
        have hst := hid (hinv.out.step hxe hye hda hdb)
        have hsd := hid (sub_digit hx hy hcy)
        have hcy2 : subC x y cy <= 1 := by unfold subC; split <;> omega
        have hxe' := hid hxe
        have hye' := hid hye
        clear hxe hye hinv
        go_wp2_with fail
        refine (rlimb_any X ao a ca k _ hsa2 hda (by omega) x hxe'.out).mono ?_
        rintro e w' ⟨rfl, rfl⟩
        go_wp2_with fail
        refine (rlimb_any X bo b cb k _ hsb2 hdb (by omega) y hye'.out).mono ?_
        rintro e w' ⟨rfl, rfl⟩
        go_wp2_with (at_builtin; refine st_append1 slU32 rfl (NatIn.elem .u32) hbase hXr rfl rfl hO (.int .u32 ((subD x y cy : Nat) : Int)) (subD x y cy) (by rw [<- hsd.out.1]; simp [Value.cells]; omega) rfl (by omega) (by omega) ?_; intro ao2 cap2 w5 hO2 hE2 _)
        have hcI : Hid ((1 : Int) - ((x : Int) + 4294967296 - (y : Int) - (cy : Int)) / 4294967296 = ((subC x y cy : Nat) : Int)) := hid (by have := hsd.out.2; omega)
        go_roundw
        case rel => exact ⟨k + 1, _, subC x y cy, ao2, cap2, by go_num, by rw [hcI.out], by simp, by omega, hcy2, hst, by simp; omega, hO2, hE.own hO (Nat.le_refl _) hE2⟩
        case measure => simp [intOf]; omega
      · have hke : k = a.length := by omega
        subst hke
        have hdn := hid (hinv.out.done hab hle.out)
        have hod := hinv.out.2.1
        have hs3 := hO.sl (NatIn.elem .u32)
        have hlc := hO.lenCap
        go_wp2_with fail
        refine (rtrim_any X _ _ _ _ hs3 hod (by omega) hlc).mono ?_
        rintro e w' ⟨rfl, l', rfl, hl', hc, hs'⟩
        go_wp2_with fail
        go_ret2
        rw [hdn.out, hsum.out] at hc
        exact ⟨hE13.trans hE, _, by rw [hd.out]; rfl, oo, cp, l', rfl, by omega, hc, hs'⟩
theorem rntimes (X : Nat -> Bool) (w : World) (u : Value) (n v by_ : Nat) (hX : HX X w) (hu : NC (mk X w) u n) (hn : lg n <= 549755813888) (hb : by_ <= 549755813888) (hv : v < 4294967296) : Calls Tryz.prog 280 #[u, .int .u32 v, .int .i64 by_] w (ROut X w NC (n * v * B ^ by_)) := by
  obtain ⟨ao, ca, a, rfl, hca, hcan, hsa⟩ := hu
  have hal : a.length <= 549755813888 := by rw [hcan.len]; exact hn
  have hda := hcan.1
  have hnv := hid hcan.2.2
  clear hcan hn
  go_enter Tryz.func280, Tryz.ntmps280
  go_wp2_with (at_make; refine st_make slU32 (NatIn.elem .u32) 0 (fun _ => rfl) X hX w.heap.size (Nat.le_refl _) by_ rfl rfl (by omega) (by omega) (by omega) ?_; intro oo w1 hO hE1)
  go_loopw [7, 8, 9] (fun v_ c i wr => ∃ (k : Nat) (o : List Nat) (cy : Nat) (oo : Option Addr) (cp : Nat), i = .int .i64 k /\ c = .int .u64 cy /\ v_ = .slice oo o.length cp /\ k <= a.length + 1 /\ cy < 4294967296 /\ Hid (TimInv a v by_ o k cy) /\ o.length <= by_ + k /\ OL (NatIn .u32) 1 X w.heap.size 110 wr oo cp o /\ Ext w wr) (fun _ _ i _ => a.length + 1 - (intOf i).toNat)
  case atStart => exact ⟨0, _, 0, oo, by_, rfl, rfl, by simp, by omega, by omega, hid (TimInv.start a v by_), by simp, hO, hE1⟩
  case round =>
    clear hO hE1
    obtain ⟨k, o, cy, oo2, cp, rfl, rfl, rfl, hk, hcy, hinv, hol, hO, hE⟩ := hrel
    have hXr : ∀ k, X k = true -> k < wr.heap.size := fun k hk => Nat.lt_of_lt_of_le (hX k hk) hE.size
    have hbase : w.heap.size <= wr.heap.size := hE.size
    by_cases hlt : k <= a.length
    · have hsa2 := hsa.mono (NatIn.mono _) (mk_ext hE)
      have hx := hda.getD k
      rw [B_eq] at hx
      obtain ⟨x, hxe⟩ : ∃ x, a.getD k 0 = x := ⟨_, rfl⟩
      rw [hxe] at hx
      obtain ⟨hst0, hlt0⟩ := hinv.out.step hxe hda hv
      have hxe' := hid hxe
      obtain ⟨t, ht⟩ : ∃ t, x * v + cy = t := ⟨_, rfl⟩
      rw [ht] at hst0 hlt0
      have hst := hid hst0
      have hw1 : IntKind.u64.wrap ((x : Int) * (v : Int)) = (x : Int) * (v : Int) := IntWalk.u64_in _ (by rw [<- Int.natCast_mul]; omega)
      have hw2 : IntKind.u64.wrap ((x : Int) * (v : Int) + (cy : Int)) = (t : Int) := by
        rw [<- ht, Int.natCast_add, Int.natCast_mul]; exact IntWalk.u64_in _ (by rw [<- Int.natCast_mul]; omega)
      have hcy2 : t / 4294967296 < 4294967296 := by omega
      have hltI : decide ((k : Int) <= (a.length : Int)) = true := decide_eq_true (by omega)
      clear hxe hinv hst0 ht hlt0
      go_wp2_with fail
      refine (rlimb_any X ao a ca k _ hsa2 hda (by omega) x hxe'.out).mono ?_
      rintro e w' ⟨rfl, rfl⟩
      go_wp2_with (at_builtin; refine st_append1 slU32 rfl (NatIn.elem .u32) hbase hXr rfl rfl hO (.int .u32 ((t % 4294967296 : Nat) : Int)) (t % 4294967296) (by simp [Value.cells]) rfl (by omega) (by omega) ?_; intro ao2 cap2 w5 hO2 hE2 _)
      go_roundw
      case rel => exact ⟨k + 1, _, t / 4294967296, ao2, cap2, by go_num, by rw [Int.natCast_ediv]; rfl, by simp, by omega, hcy2, hst, by simp; omega, hO2, hE.own hO (Nat.le_refl _) hE2⟩
      case measure => simp [intOf]; omega
    · have hke : k = a.length + 1 := by omega
      subst hke
      have hdn0 := hinv.out.done hda hv
      have hdn := hid hdn0.2
      have hod := hdn0.1
      have hs3 := hO.sl (NatIn.elem .u32)
      have hlc := hO.lenCap
      have hltI : decide (((a.length + 1 : Nat) : Int) <= (a.length : Int)) = false := decide_eq_false (by omega)
      clear hdn0 hinv
      go_wp2_with fail
      refine (rtrim_any X _ _ _ _ hs3 hod (by omega) hlc).mono ?_
      rintro e w' ⟨rfl, l', rfl, hl', hc, hs'⟩
      go_wp2_with fail
      go_ret
      rw [hdn.out, hnv.out] at hc
      exact ⟨hE, _, rfl, oo2, cp, l', rfl, by omega, hc, hs'⟩
theorem rnmul (X : Nat -> Bool) (w : World) (u v : Value) (na nb : Nat) (hX : HX X w) (hu : NV (mk X w) u na) (hv : NV (mk X w) v nb) (h1 : lg na <= 274877906944) (h2 : lg nb <= 274877906944) : Calls Tryz.prog 203 #[u, v] w (ROut X w NC (na * nb)) := by
  go_enter Tryz.func203, Tryz.ntmps203
  go_wp2_with fail
  refine (rntake hX hu).mono ?_
  rintro e w1 ⟨hE1, u1, rfl, hu1⟩
  go_wp2_with fail
  refine (rntake (hX.ext hE1) (mkx NV.mono hv hE1)).mono ?_
  rintro e w2 ⟨hE2, v1, rfl, hv1⟩
  have hu2 := mkx NC.mono hu1 hE2
  obtain ⟨bo, cb, b, rfl, hcb, hcbn, hsb⟩ := hv1
  have hX2 := hX.ext (hE1.trans hE2)
  have hbl : b.length <= 274877906944 := by rw [hcbn.len]; exact h2
  have hE12 := hE1.trans hE2
  have hdb := hcbn.1
  have hnb := hid hcbn.2.2
  have hhb := hsb.hd
  have h1' := hid h1
  clear hu hv hu1 hE1 hE2 hX h2 hcbn h1
  go_wp2_with fail
  go_loopw [5, 6] (fun o i wr => ∃ (k : Nat), i = .int .i64 k /\ k <= b.length /\ NC (mk X wr) o (na * nv (b.take k)) /\ Ext w2 wr) (fun _ i _ => b.length - (intOf i).toNat)
  case atStart => exact ⟨0, rfl, by omega, by simpa [nv] using NC.zero _, ExtX.refl _⟩
  case round =>
    obtain ⟨k, rfl, hk, ho, hE⟩ := hrel
    have hX3 := hX2.ext hE
    by_cases hlt : k < b.length
    · have hcell := (hsb.mono (NatIn.mono _) (mk_ext hE)).nat k hlt
      have hx := hdb.get k hlt
      obtain ⟨x, hxe⟩ : ∃ x, b[k] = x := ⟨_, rfl⟩
      have hst : Hid (na * nv (b.take k) + na * x * B ^ k = na * nv (b.take (k + 1))) := hid (by rw [nv_take_succ b k hlt, hxe, Nat.mul_add, Nat.mul_assoc na x, Nat.mul_comm x])
      rw [hxe] at hcell hx
      rw [B_eq] at hx
      have hsz : Hid (lg (na * nv (b.take k)) <= 1099511627776) := hid (by
        have e1 := lg_mul na (nv (b.take k))
        have e2 : lg (nv (b.take k)) <= k := lg_le.2 (nv_take_lt hdb k)
        have := h1'.out
        omega)
      have hsz2 : Hid (lg (na * x * B ^ k) <= 1099511627776) := hid (by
        have e1 : na * x * B ^ k < B ^ (lg na + 1 + k) := by
          rw [Nat.pow_add, Nat.pow_succ]
          refine Nat.mul_lt_mul_of_pos_right ?_ (Nat.pow_pos B_pos)
          refine Nat.lt_of_le_of_lt (Nat.mul_le_mul_left _ (show x <= B by rw [B_eq]; omega)) (Nat.mul_lt_mul_of_pos_right (lg_le.1 (Nat.le_refl _)) B_pos)
        have e2 := lg_le.2 e1
        have := h1'.out
        omega)
      clear hxe
      go_wp2_with (with_reducible refine up_ix1 slU32 (by omega) (by assumption) ?_)
      refine (rntimes X wr u1 na x k hX3 (mkx NC.mono hu2 hE) (by have := h1'.out; omega) (by omega) hx).mono ?_
      rintro e w4 ⟨hE4, t, rfl, ht⟩
      go_wp2_with fail
      refine (rnadd (hX3.ext hE4) (mkx NV.mono (ho.nv hsz.out) hE4) (ht.nv hsz2.out)).mono ?_
      rintro e w5 ⟨hE5, t2, rfl, ht2⟩
      rw [hst.out] at ht2
      go_wp2_with fail
      go_roundw
      case rel => exact ⟨k + 1, by go_num, by omega, ht2, hE.trans (hE4.trans hE5)⟩
      case measure => simp [intOf]; omega
    · have hke : k = b.length := by omega
      have hfin : na * nv (b.take k) = na * nb := by rw [hke, List.take_length, hnb.out]
      rw [hfin] at ho
      clear hfin hke
      go_wp2_with fail
      go_ret
      exact ⟨hE12.trans hE, _, rfl, ho⟩
end Go.Proofs.YtnnpfhoigmegcaaGreat
namespace Go.Rep
open Go.RowKit Go.Lim
theorem NC.lit {X : Nat -> Bool} {w : World} (hX : HX X w) (x : Nat) (t : TypeId) (h0 : 0 < x) (h1 : x < 4294967296) : NC (mk X (w.alloc (.cells #[.int .u32 (x : Int)] t))) (.slice (some ⟨w.heap.size, 0, none⟩) 1 1) x := by
  have hO : OL (NatIn .u32) 1 X w.heap.size t (w.alloc (.cells #[.int .u32 (x : Int)] t)) (some ⟨w.heap.size, 0, none⟩) 1 [x] :=
    OL.lit (NatIn.elem .u32) hX (Nat.le_refl _) [.int .u32 (x : Int)] [x] _ (by simp [cellsL, Value.cells]) rfl (fun i hi hi' => by
      have : i = 0 := by simp at hi; omega
      subst this; rfl) (by simp)
  exact ⟨_, 1, [x], rfl, Nat.le_refl _, canon_of h0 h1, hO.sl (NatIn.elem _)⟩
end Go.Rep
namespace Go.Proofs.YtnnpfhoigmegcaaGreat
open Go.RowKit Go.Rep Go.Lim
theorem rbit (X : Nat -> Bool) (w : World) (u : Value) (n i : Nat) (hu : NC (mk X w) u n) (hi : i < 32 * lg n) (hn : lg n <= 1099511627776) : Calls Tryz.prog 323 #[u, .int .i64 i] w fun e w' => w = w' /\ e = .returned (.int .u32 (n / 2 ^ i % 2 : Nat)) := by
  obtain ⟨ao, ca, a, rfl, hca, hcan, hsa⟩ := hu
  have hk : i / 32 < a.length := by rw [hcan.len]; omega
  have hal : a.length <= 1099511627776 := by rw [hcan.len]; exact hn
  have hcell := hsa.nat (i / 32) hk
  have hb := bit_at hcan i
  rw [getD_of_lt hk] at hb
  have hx := hcan.1.get (i / 32) hk
  obtain ⟨x, hxe⟩ : ∃ x, a[i / 32] = x := ⟨_, rfl⟩
  rw [hxe] at hcell hb hx
  rw [B_eq] at hx
  have hh := hsa.hd
  have hb' := hid hb
  have hxl : Hid (x < 4294967296) := hid hx
  have hiI : (i : Int) <= 35184372088832 := by omega
  have e1 : (i : Int) / 32 = ((i / 32 : Nat) : Int) := by omega
  have e2 : (i : Int) % 32 = ((i % 32 : Nat) : Int) := by omega
  have e3 : Hid (i % 32 < 32) := hid (Nat.mod_lt _ (by decide))
  obtain ⟨p, hp⟩ : ∃ p, i / 32 = p := ⟨_, rfl⟩
  obtain ⟨q, hq⟩ : ∃ q, i % 32 = q := ⟨_, rfl⟩
  rw [hp] at e1 hk hcell
  rw [hq] at e2 e3
  have hq32 : q < 32 := e3.out
  have hbb : Hid (x / 2 ^ q % 2 = n / 2 ^ i % 2) := hid (by rw [<- hq]; exact hb)
  clear hxe hb hp hq hb' e3 hcan hx hsa
  go_enter Tryz.func323, Tryz.ntmps323
  go_wp2_with (with_reducible refine up_ix1 slU32 (by omega) (by assumption) ?_)
  go_ret
  have hdl : x / 2 ^ q < 4294967296 := Nat.lt_of_le_of_lt (Nat.div_le_self _ _) hxl.out
  have hv := bits_and_u32_nat (x / 2 ^ q) 1 hdl (by omega)
  rw [Nat.and_one_is_mod, hbb.out] at hv
  exact ⟨rfl, ret_int (by simpa using hv)⟩
theorem rdouble (X : Nat -> Bool) (w : World) (u : Value) (n t : Nat) (hX : HX X w) (hu : NC (mk X w) u n) (hn : lg n <= 549755813887) (ht : t <= 1) : Calls Tryz.prog 322 #[u, .int .u32 t] w (ROut X w NC (2 * n + t)) := by
  have hsz : Hid (lg (n * 2 * B ^ 0) <= 1099511627776) := hid (by
    have e1 := lg_mul n 2
    have e2 : lg 2 = 1 := lg_one_iff (by omega) (by omega)
    rw [Nat.pow_zero, Nat.mul_one]; omega)
  have hs1 : Hid (lg 1 <= 1099511627776) := hid (by rw [lg_one]; decide)
  have hst : Hid (n * 2 * B ^ 0 = 2 * n) := hid (by rw [Nat.pow_zero, Nat.mul_one, Nat.mul_comm])
  go_enter Tryz.func322, Tryz.ntmps322
  go_wp2_with fail
  refine (rntimes X w u n 2 0 hX hu (by omega) (by omega) (by omega)).mono ?_
  rintro e w1 ⟨hE1, u1, rfl, hu1⟩
  have hX1 := hX.ext hE1
  rcases (by omega : t = 0 \/ t = 1) with rfl | rfl
  · rw [hst.out] at hu1
    go_wp2_with fail
    go_ret
    exact ⟨hE1, _, rfl, hu1⟩
  · go_wp2_with fail
    have hl := NC.lit hX1 1 110 (by omega) (by omega)
    have hE2 := hE1.alloc (.cells #[.int .u32 ((1 : Nat) : Int)] 110)
    have hE3 : Ext w1 (w1.alloc (.cells #[.int .u32 ((1 : Nat) : Int)] 110)) := (ExtX.refl w1).alloc _
    refine (rnadd (hX1.ext hE3) (mkx NV.mono (hu1.nv hsz.out) hE3) (hl.nv hs1.out)).mono ?_
    rintro e w5 ⟨hE5, t2, rfl, ht2⟩
    rw [hst.out] at ht2
    go_wp2_with fail
    go_ret
    exact ⟨hE2.trans hE5, _, rfl, ht2⟩
theorem rndiv (X : Nat -> Bool) (w : World) (u v : Value) (na nb : Nat) (hX : HX X w) (hu : NV (mk X w) u na) (hv : NV (mk X w) v nb) (h1 : lg na <= 274877906944) (h2 : lg nb <= 274877906944) (h0 : 0 < nb) : Calls Tryz.prog 276 #[u, v] w (DOut X w (na / nb) (na % nb)) := by
  go_enter Tryz.func276, Tryz.ntmps276
  go_wp2_with fail
  refine (rntake hX hu).mono ?_
  rintro e w1 ⟨hE1, u1, rfl, hu1⟩
  go_wp2_with fail
  refine (rntake (hX.ext hE1) (mkx NV.mono hv hE1)).mono ?_
  rintro e w2 ⟨hE2, v1, rfl, hv1⟩
  have hu2 := mkx NC.mono hu1 hE2
  obtain ⟨ao, ca, a, rfl, hca, hcan, hsa⟩ := id hu2
  obtain ⟨bo, cb, b, rfl, hcb, hcbn, hsb⟩ := id hv1
  have hX2 := hX.ext (hE1.trans hE2)
  have hal : a.length <= 274877906944 := by rw [hcan.len]; exact h1
  have hall := hid hcan.len
  have hE12 := hE1.trans hE2
  have hbl : ¬ b.length = 0 := by have := canon_len0 hcbn; omega
  have hbI : (0 : Int) < (b.length : Int) := by omega
  have hbz : ((b.length : Int) == 0) = false := beqF (by omega)
  have hst : Hid (BitInv na nb 0 0 (32 * a.length)) := hid (BitInv.start (by rw [<- B_two, hcan.len]; exact lg_le.1 (Nat.le_refl _)))
  have h1' := hid h1
  have h2' := hid h2
  have h0' := hid h0
  clear hu hv hu1 hE1 hE2 hX h1 h2 h0 hcan hcbn hsa hsb hbl hca hcb
  go_wp2_with fail
  go_loopw [7, 8, 9] (fun q r i wr => ∃ (k Q R : Nat) (x : Int), i = .int .i64 x /\ x = (k : Int) - 1 /\ k <= 32 * a.length /\ Hid (BitInv na nb Q R k) /\ NC (mk X wr) q Q /\ NC (mk X wr) r R /\ Ext w2 wr) (fun _ _ i _ => (intOf i + 1).toNat)
  case atStart => exact ⟨32 * a.length, 0, 0, _, rfl, by omega, by omega, hst, NC.zero _, NC.zero _, ExtX.refl _⟩
  case round =>
    obtain ⟨k, Q, R, x, rfl, hx, hk, hinv, hq, hr, hE⟩ := hrel
    have hX3 := hX2.ext hE
    cases k with
    | zero =>
      obtain rfl : x = -1 := by omega
      obtain ⟨rfl, rfl⟩ := hinv.out.done
      clear hinv hx hst
      go_wp2_with fail
      go_ret3
      exact ⟨hE12.trans hE, _, _, rfl, hq, hr⟩
    | succ i =>
      obtain rfl : x = (i : Int) := by omega
      have hi : i < 32 * lg na := by rw [<- hall.out]; omega
      obtain ⟨t, ht⟩ : ∃ t, na / 2 ^ i % 2 = t := ⟨_, rfl⟩
      have ht1 : t <= 1 := by omega
      obtain ⟨hR, hs1, hs2⟩ := hinv.out.step h0'.out ht
      have hQb : Hid (lg Q <= 274877906944) := hid (by
        have e1 : Q <= na := by rw [hinv.out.1]; exact Nat.le_trans (Nat.div_le_self _ _) (Nat.div_le_self _ _)
        exact Nat.le_trans (lg_mono e1) h1'.out)
      have hRb : Hid (lg R <= 274877906944) := hid (Nat.le_trans (lg_mono (Nat.le_of_lt hR)) h2'.out)
      have hRb2 : Hid (lg (2 * R + t) <= 1099511627776) := hid (by
        have e1 := lg_add (2 * R) t
        have e2 := lg_mul 2 R
        have e3 : lg 2 = 1 := lg_one_iff (by omega) (by omega)
        have e4 : lg t <= 1 := by have := lg_mono ht1; rw [lg_one] at this; exact this
        have := hRb.out
        omega)
      have hs1' := hid hs1
      have hs2' := hid hs2
      have hbit := rbit X wr _ na i (mkx NC.mono hu2 hE) hi (by have := h1'.out; omega)
      rw [ht] at hbit
      clear hinv hR hs1 hs2 hst ht hi hx
      go_wp2_with fail
      refine hbit.mono ?_
      rintro e w' ⟨rfl, rfl⟩
      go_wp2_with fail
      refine (rdouble X wr _ R t hX3 hr (by have := hRb.out; omega) ht1).mono ?_
      rintro e w4 ⟨hE4, r1, rfl, hr1⟩
      have hX4 := hX3.ext hE4
      have hq4 := mkx NC.mono hq hE4
      have hb4 := (mkx NC.mono hv1 (hE.trans hE4)).nv (by have := h2'.out; omega)
      clear hbit
      go_wp2_with fail
      refine (rnsub X w4 r1 _ (2 * R + t) nb hX4 (hr1.nv hRb2.out) hb4).mono ?_
      rintro e w5 ⟨hE5, d, rfl, hd⟩
      have hX5 := hX4.ext hE5
      have hq5 := mkx NC.mono hq4 hE5
      by_cases hge : nb <= 2 * R + t
      · have hi2 := hid (hs2'.out hge)
        have hdt : decide (nb <= 2 * R + t) = true := decide_eq_true hge
        rw [hdt]
        clear hge hdt
        go_wp2_with fail
        refine (rdouble X w5 _ Q 1 hX5 hq5 (by have := hQb.out; omega) (by omega)).mono ?_
        rintro e w6 ⟨hE6, q1, rfl, hq1⟩
        go_wp2_with fail
        go_roundw
        case rel => exact ⟨i, _, _, _, rfl, rfl, by omega, hi2, hq1, mkx NC.mono hd hE6, hE.trans (hE4.trans (hE5.trans hE6))⟩
        case measure => simp [intOf]
      · have hi2 := hid (hs1'.out (by omega))
        have hdt : decide (nb <= 2 * R + t) = false := decide_eq_false hge
        rw [hdt]
        clear hge hdt
        go_wp2_with fail
        refine (rdouble X w5 _ Q 0 hX5 hq5 (by have := hQb.out; omega) (by omega)).mono ?_
        rintro e w6 ⟨hE6, q1, rfl, hq1⟩
        go_wp2_with fail
        go_roundw
        case rel => exact ⟨i, _, _, _, rfl, rfl, by omega, hi2, hq1, mkx NC.mono hr1 (hE5.trans hE6), hE.trans (hE4.trans (hE5.trans hE6))⟩
        case measure => simp [intOf]
theorem rngcd (X : Nat -> Bool) (w : World) (u v : Value) (na nb : Nat) (hX : HX X w) (hu : NV (mk X w) u na) (hv : NV (mk X w) v nb) (h1 : lg na <= 274877906944) (h2 : lg nb <= 274877906944) : Calls Tryz.prog 275 #[u, v] w (ROut X w NC (Nat.gcd na nb)) := by
  go_enter Tryz.func275, Tryz.ntmps275
  go_wp2_with fail
  refine (rntake hX hu).mono ?_
  rintro e w1 ⟨hE1, u1, rfl, hu1⟩
  go_wp2_with fail
  refine (rntake (hX.ext hE1) (mkx NV.mono hv hE1)).mono ?_
  rintro e w2 ⟨hE2, v1, rfl, hv1⟩
  have hu2 := mkx NC.mono hu1 hE2
  have hX2 := hX.ext (hE1.trans hE2)
  have hE12 := hE1.trans hE2
  have h1' := hid h1
  have h2' := hid h2
  clear hu hv hu1 hE1 hE2 hX h1 h2
  go_wp2_with fail
  go_loopw [0, 1] (fun x y wr => ∃ (p q : Nat) (bo : Option Addr) (l cb : Nat), y = .slice bo l cb /\ NC (mk X wr) x p /\ NC (mk X wr) (.slice bo l cb) q /\ Hid (lg p <= 274877906944) /\ Hid (lg q <= 274877906944) /\ Hid (Nat.gcd p q = Nat.gcd na nb) /\ Ext w2 wr) (fun _ y W => nvAt W y)
  case atStart =>
    obtain ⟨bo, cb, b, rfl, _⟩ := id hv1
    exact ⟨na, nb, bo, _, cb, rfl, hu2, hv1, h1', h2', hid rfl, ExtX.refl _⟩
  case round =>
    obtain ⟨p, q, bo, l, cb, rfl, hx, hy, hp, hq, hg, hE⟩ := hrel
    have hX3 := hX2.ext hE
    obtain ⟨bo', cb', b, heq, hcb, hcn, hsb⟩ := id hy
    simp only [Value.slice.injEq] at heq
    obtain ⟨rfl, rfl, rfl⟩ := heq
    have hl0 := canon_len0 hcn
    have hm2 := nvAt_eq cb hsb
    rw [hcn.2.2] at hm2
    have hm2' := hid hm2
    clear hm2 hcn hsb hcb hu2 hv1
    by_cases hl : 0 < b.length
    · have hq0 : 0 < q := by omega
      have hlI : (0 : Int) < (b.length : Int) := by omega
      have hst : Hid (Nat.gcd q (p % q) = Nat.gcd na nb) := hid (by rw [Nat.gcd_comm, <- Nat.gcd_rec, Nat.gcd_comm]; exact hg.out)
      have hlt := hid (Nat.mod_lt p hq0)
      have hq0' := hid hq0
      have hr : Hid (lg (p % q) <= 274877906944) := hid (Nat.le_trans (lg_mono (Nat.le_of_lt hlt.out)) hq.out)
      clear hl0 hq0
      go_wp2_with fail
      refine (rndiv X wr _ _ p q hX3 (hx.nv (by have := hp.out; omega)) (hy.nv (by have := hq.out; omega)) hp.out hq.out hq0'.out).mono ?_
      rintro e w4 ⟨hE4, d, r, rfl, hd, hr4⟩
      obtain ⟨ro, cr, rl, rfl, hr5⟩ := id hr4
      have hm1 := nvAt_eq cr hr5.2.2
      rw [hr5.2.1.2.2] at hm1
      have hm1' := hid hm1
      clear hm1 hr5
      go_wp2_with fail
      go_roundw
      case rel => exact ⟨q, p % q, ro, _, cr, rfl, mkx NC.mono hy hE4, hr4, hq, hr, hst, hE.trans hE4⟩
      case measure => rw [hm1'.out, hm2'.out]; exact hlt.out
    · have hq0 : q = 0 := by omega
      have hfin := hg.out
      rw [hq0, Nat.gcd_zero_right] at hfin
      have hlI : ((b.length : Int)) = 0 := by omega
      rw [hfin] at hx
      clear hfin hq0 hl0 hg hp hm2'
      go_wp2_with fail
      go_ret
      exact ⟨hE12.trans hE, _, rfl, hx⟩
end Go.Proofs.YtnnpfhoigmegcaaGreat
namespace Go.Rep
open Go.RowKit
def Bx (w : World) (b : Nat) (cs : Array Value) (T : TypeId) : Prop := w.heap[b]? = some (.cells cs T (0, 0))
theorem Bx.lt {w : World} {b : Nat} {cs : Array Value} {T : TypeId} (h : Bx w b cs T) : b < w.heap.size := (Array.getElem?_eq_some_iff.1 h).1
theorem Bx.cell {w : World} {b : Nat} {cs : Array Value} {T : TypeId} (h : Bx w b cs T) (i : Nat) {u : Value} (hu : cs[i]? = some u) : w.cell? ⟨b, i, none⟩ = some u := by
  unfold Bx at h; unfold World.cell?; rw [h]; simpa using hu
theorem Bx.frozen {w : World} {b : Nat} {cs : Array Value} {T : TypeId} (h : Bx w b cs T) (i : Nat) : w.frozen? ⟨b, i, none⟩ = false := by
  unfold Bx at h; unfold World.frozen?; rw [h]; simp
theorem Bx.ext {Y : Nat -> Bool} {w w' : World} {b : Nat} {cs : Array Value} {T : TypeId} (h : Bx w b cs T) (hE : ExtX Y w w') (hY : Y b = false) : Bx w' b cs T := by
  unfold Bx; rw [hE.block b h.lt hY]; exact h
theorem Bx.ext0 {w w' : World} {b : Nat} {cs : Array Value} {T : TypeId} (h : Bx w b cs T) (hE : Ext w w') : Bx w' b cs T := h.ext hE rfl
theorem Bx.new (w : World) (cs : Array Value) (T : TypeId) : Bx (w.alloc (.cells cs T)) w.heap.size cs T := heap_alloc_new w _
theorem ob_self (g : Nat) : ob (some ⟨g, 0, none⟩) g = true := by simp [ob]
theorem ob_other {g k : Nat} (h : k ≠ g) : ob (some ⟨g, 0, none⟩) k = false := by
  cases hh : ob (some ⟨g, 0, none⟩) k
  · rfl
  · have e : g = k := by simpa [ob] using hh
    exact absurd e.symm h
theorem setCell_block {w : World} {b i : Nat} {cs : Array Value} {T : TypeId} (h : Bx w b cs T) (v : Value) (hi : i < cs.size) : Bx (w.setCell ⟨b, i, none⟩ v) b (cs.set i v) T /\ ExtX (ob (some ⟨b, 0, none⟩)) w (w.setCell ⟨b, i, none⟩ v) := by
  unfold Bx at *
  have hb : b < w.heap.size := (Array.getElem?_eq_some_iff.1 h).1
  refine ⟨?_, ⟨rfl, rfl, rfl, ?_, ?_⟩⟩
  · simp only [World.setCell, Array.getElem?_modify, if_true, h, Option.map_some]
    simp [hi, Array.setIfInBounds]
  · simp [World.setCell]
  · intro k _ hk
    have hkb : b ≠ k := fun e => by subst e; rw [ob_self] at hk; simp at hk
    simp only [World.setCell, Array.getElem?_modify, if_neg hkb]
theorem Bx.set2 {w : World} {b : Nat} {x0 x1 : Value} {T : TypeId} (h : Bx w b #[x0, x1] T) (v0 v1 : Value) : Bx ((w.setCell ⟨b, 0, none⟩ v0).setCell ⟨b, 1, none⟩ v1) b #[v0, v1] T /\ ExtX (ob (some ⟨b, 0, none⟩)) w ((w.setCell ⟨b, 0, none⟩ v0).setCell ⟨b, 1, none⟩ v1) := by
  obtain ⟨h1, h2⟩ := setCell_block h v0 (i := 0) (by simp)
  obtain ⟨h3, h4⟩ := setCell_block h1 v1 (i := 1) (by simp)
  exact ⟨by simpa using h3, h2.trans h4⟩
theorem Bx.set3 {w : World} {b : Nat} {x0 x1 x2 : Value} {T : TypeId} (h : Bx w b #[x0, x1, x2] T) (v0 v1 v2 : Value) : Bx (((w.setCell ⟨b, 0, none⟩ v0).setCell ⟨b, 1, none⟩ v1).setCell ⟨b, 2, none⟩ v2) b #[v0, v1, v2] T /\ ExtX (ob (some ⟨b, 0, none⟩)) w (((w.setCell ⟨b, 0, none⟩ v0).setCell ⟨b, 1, none⟩ v1).setCell ⟨b, 2, none⟩ v2) := by
  obtain ⟨h1, h2⟩ := setCell_block h v0 (i := 0) (by simp)
  obtain ⟨h3, h4⟩ := setCell_block h1 v1 (i := 1) (by simp)
  obtain ⟨h5, h6⟩ := setCell_block h3 v2 (i := 2) (by simp)
  exact ⟨by simpa using h5, (h2.trans h4).trans h6⟩
section
variable {P : Program} {ops : Array Oper} {Q : Exit -> Act -> World -> Prop} {rest : List Oper} {a : Act} {w : World}
variable {d : Option Tmp} {ty : TypeId} {ps : String} {af : Array Edge}
theorem run_storeBox {t : TypeId} {n b : Nat} {cs vs : Array Value} {T : TypeId} (hT : StructT P t n) (hb : Bx w b cs T) (hcs : cs.size = n) (hvs : vs.size = n) (hone : ∀ v ∈ vs.toList, v.oneCell' = true) :
    ∃ w', (storeVar t ⟨b, 0, none⟩ (.agg vs)).run P w = .ok () w' /\ Bx w' b vs T /\ ExtX (ob (some ⟨b, 0, none⟩)) w w' := by
  obtain ⟨fs, ti, h1, h2, h3⟩ := hT
  have hst := run_storeCells_at P b 0 T vs.toList 0 cs w hb (by simp [hcs, hvs]) hone
  refine ⟨w.setRow b (cs.toList.take (0 + 0) ++ vs.toList ++ cs.toList.drop (0 + 0 + vs.toList.length)).toArray, ?_, ?_, ?_⟩
  rotate_left
  · unfold Bx
    have := setRow_heap w b cs (cs.toList.take (0 + 0) ++ vs.toList ++ cs.toList.drop (0 + 0 + vs.toList.length)).toArray T (0, 0) hb
    rw [this]
    congr 2
    have e : cs.toList.drop (0 + 0 + vs.toList.length) = [] := List.drop_of_length_le (by simp [hvs, hcs])
    rw [e]; simp
  · exact ⟨rfl, rfl, rfl, by simp, fun k _ hk => setRow_other w b k _ (fun ek => by subst ek; simp [ob] at hk)⟩
  · simp [storeVar, sizeOf, typeInfo, h2, h3, Value.cells, hvs]
    simp only [Nat.zero_add, Array.length_toList, List.take_zero, List.nil_append, hvs] at hst |-
    exact hst
theorem st_storeBox {t : TypeId} {x y : Operand} {n b : Nat} {cs vs : Array Value} {T : TypeId} (hT : StructT P t n) (hx : a.eval x = .pointer (some ⟨b, 0, none⟩)) (hy : a.eval y = .agg vs) (hb : Bx w b cs T) (hcs : cs.size = n) (hvs : vs.size = n) (hone : ∀ v ∈ vs.toList, v.oneCell' = true)
    (K : ∀ w', Bx w' b vs T -> ExtX (ob (some ⟨b, 0, none⟩)) w w' -> wpList P ops Q rest (a.put d undef) w') :
    wpList P ops Q (⟨d, .store t x y, ty, ps, af, none⟩ :: rest) a w := by
  refine wpList_plain rfl fun K' hK' => ?_
  obtain ⟨w', hr, h1, h2⟩ := run_storeBox (P := P) hT hb hcs hvs hone
  unfold Oper.wp
  simp [execOp, hx, hy, Instr.storeAt, Instr.sureAddr, hr, Result.andThen]
  exact hK' _ _ (K w' h1 h2)
theorem run_loadBox {t : TypeId} {n b : Nat} {cs : Array Value} {T : TypeId} (hT : StructT P t n) (hb : Bx w b cs T) (hcs : cs.size = n) : (loadVar t ⟨b, 0, none⟩).run P w = .ok (.agg cs) w := by
  obtain ⟨fs, ti, h1, h2, h3⟩ := hT
  have hl := run_loadCells_list (P := P) w ⟨b, 0, none⟩ cs.toList (fun j v hj => by
    rw [Addr.add_lit, Nat.zero_add]
    exact hb.cell j (by simpa using hj))
  have hsz : cs.toList.length = n := by simpa using hcs
  rw [hsz] at hl
  simp [loadVar, isAgg, run_underlying h1, sizeOf, typeInfo, h2, h3, hl]
theorem results_box {fn : Func} {tmps : Array Value} {c : Tmp} {t : TypeId} {n b : Nat} {cs : Array Value} {T : TypeId} (h : fn.results = #[.cell c t]) (hp : tmps.getD c undef = .pointer (some ⟨b, 0, none⟩)) (hT : StructT P t n) (hb : Bx w b cs T) (hcs : cs.size = n) :
    (results fn tmps).run P w = .ok (.agg cs) w := by
  have hl := run_loadBox (P := P) hT hb hcs
  rw [Array.getD_eq_getD_getElem?] at hp
  simp [results, h, hp, asAddr, hl]
theorem results_box2 {fn : Func} {tmps : Array Value} {c d : Tmp} {t : TypeId} {n b : Nat} {cs : Array Value} {T : TypeId} (h : fn.results = #[.cell c t, .tmp d]) (hp : tmps.getD c undef = .pointer (some ⟨b, 0, none⟩)) (hT : StructT P t n) (hb : Bx w b cs T) (hcs : cs.size = n) :
    (results fn tmps).run P w = .ok (.tuple #[.agg cs, tmps.getD d undef]) w := by
  have hl := run_loadBox (P := P) hT hb hcs
  rw [Array.getD_eq_getD_getElem?] at hp
  simp [results, h, hp, asAddr, hl]
end
theorem boxes1 (w : World) (x : Array Value) (T : TypeId) : ∃ W, w.alloc (.cells x T) = W /\ Ext w W /\ Bx W w.heap.size x T /\ W.heap.size = w.heap.size + 1 :=
  ⟨_, rfl, (ExtX.refl w).alloc _, Bx.new w _ _, by simp⟩
theorem boxes2 (w : World) (x y : Array Value) (T U : TypeId) : ∃ W, (w.alloc (.cells x T)).alloc (.cells y U) = W /\ Ext w W /\ Bx W w.heap.size x T /\ Bx W (w.heap.size + 1) y U /\ W.heap.size = w.heap.size + 2 := by
  obtain ⟨W, h1, h2, h3, h4⟩ := boxes1 w x T
  obtain ⟨V, k1, k2, k3, k4⟩ := boxes1 W y U
  exact ⟨V, by rw [h1, k1], h2.trans k2, h3.ext0 k2, by rw [<- h4]; exact k3, by omega⟩
theorem boxes3 (w : World) (x y z : Array Value) (T U S : TypeId) : ∃ W, ((w.alloc (.cells x T)).alloc (.cells y U)).alloc (.cells z S) = W /\ Ext w W /\ Bx W w.heap.size x T /\ Bx W (w.heap.size + 1) y U /\ Bx W (w.heap.size + 1 + 1) z S /\ W.heap.size = w.heap.size + 3 := by
  obtain ⟨W, h1, h2, h3, h5, h4⟩ := boxes2 w x y T U
  obtain ⟨V, k1, k2, k3, k4⟩ := boxes1 W z S
  exact ⟨V, by rw [h1, k1], h2.trans k2, h3.ext0 k2, h5.ext0 k2, by rw [<- h4]; exact k3, by omega⟩
theorem boxes4 (w : World) (x y z u : Array Value) (T U S R : TypeId) : ∃ W, (((w.alloc (.cells x T)).alloc (.cells y U)).alloc (.cells z S)).alloc (.cells u R) = W /\ Ext w W /\ Bx W w.heap.size x T /\ Bx W (w.heap.size + 1) y U /\ Bx W (w.heap.size + 1 + 1) z S /\ Bx W (w.heap.size + 1 + 1 + 1) u R /\ W.heap.size = w.heap.size + 4 := by
  obtain ⟨W, h1, h2, h3, h5, h6, h4⟩ := boxes3 w x y z T U S
  obtain ⟨V, k1, k2, k3, k4⟩ := boxes1 W u R
  exact ⟨V, by rw [h1, k1], h2.trans k2, h3.ext0 k2, h5.ext0 k2, h6.ext0 k2, by rw [<- h4]; exact k3, by omega⟩
end Go.Rep
namespace Go.Rep
open Go.RowKit Go.Lim
def ZV (h : Mem) (u : Value) (z : Int) : Prop := ∃ s ao c l, u = .agg #[.bool s, .slice ao l.length c] /\ l.length <= c /\ Dig l /\ l.length <= 549755813888 /\ Sl (NatIn .u32) 1 h ao l /\ zval s l = z
def ZC (h : Mem) (u : Value) (z : Int) : Prop := ∃ s ao c l, u = .agg #[.bool s, .slice ao l.length c] /\ l.length <= c /\ CanZ s l z /\ Sl (NatIn .u32) 1 h ao l
theorem ZV.mono : Mono ZV := by rintro h h' u x hl ⟨s, ao, c, l, rfl, h1, h2, h3, h4, h5⟩; exact ⟨s, ao, c, l, rfl, h1, h2, h3, h4.mono (NatIn.mono _) hl, h5⟩
theorem ZC.mono : Mono ZC := by rintro h h' u x hl ⟨s, ao, c, l, rfl, h1, h2, h3⟩; exact ⟨s, ao, c, l, rfl, h1, h2, h3.mono (NatIn.mono _) hl⟩
theorem ZC.zv {h : Mem} {u : Value} {z : Int} (hu : ZC h u z) (hn : lg z.natAbs <= 549755813888) : ZV h u z := by
  obtain ⟨s, ao, c, l, rfl, h1, h2, h3⟩ := hu
  exact ⟨s, ao, c, l, rfl, h1, h2.2.1, by rw [h2.len]; exact hn, h3, h2.val⟩
theorem ZC.zero (h : Mem) : ZC h (.agg #[.bool false, .slice none 0 0]) 0 := ⟨false, none, 0, [], rfl, Nat.le_refl _, CanZ.zero, Sl.nil _ _ _ _⟩
theorem ZV.lg {h : Mem} {u : Value} {z : Int} (hu : ZV h u z) : lg z.natAbs <= 549755813888 := by
  obtain ⟨s, ao, c, l, rfl, h1, h2, h3, h4, rfl⟩ := hu
  exact Nat.le_trans (zval_lg s l h2) h3
end Go.Rep
namespace Go.Proofs.YtnnpfhoigmegcaaGreat
open Go.RowKit Go.Rep Go.Lim
theorem ivalid (X : Nat -> Bool) (w : World) (s : Bool) (ao : Option Addr) (c : Nat) (l : List Nat) (hs : Sl (NatIn .u32) 1 (mk X w) ao l) (hl : l.length <= 549755813888) : Calls Tryz.prog 324 #[.agg #[.bool s, .slice ao l.length c]] w fun e w' => Ext w w' /\ e = .returned (.bool (validZ s l)) := by
  have hE : Ext w (w.alloc (.cells #[.bool s, .slice ao l.length c] 39)) := (ExtX.refl w).alloc _
  have hs1 := hs.mono (NatIn.mono _) (mk_ext hE)
  have hdef : Hid (validZ s l = (validL l && (decide (0 < l.length) || !s))) := hid rfl
  cases hv : validL l
  · have hf : Hid (validZ s l = false) := hid (by rw [hdef.out, hv]; rfl)
    have hv' := hid hv
    clear hv
    go_enter Tryz.func324, Tryz.ntmps324
    go_wp2_with fail
    refine (valid_any X _ _ _ _ hs1 (by omega)).mono ?_
    rintro e w' ⟨rfl, rfl⟩
    rw [hv'.out]
    go_wp2_with fail
    go_ret
    exact ⟨hE, ret_bool hf.out.symm⟩
  · have hf : Hid (validZ s l = (decide (0 < l.length) || !s)) := hid (by rw [hdef.out, hv]; rfl)
    have hv' := hid hv
    clear hv
    by_cases h0 : 0 < l.length
    · have hI : (0 : Int) < (l.length : Int) := by omega
      have hf2 : Hid (validZ s l = true) := hid (by rw [hf.out, decide_eq_true h0]; rfl)
      go_enter Tryz.func324, Tryz.ntmps324
      go_wp2_with fail
      refine (valid_any X _ _ _ _ hs1 (by omega)).mono ?_
      rintro e w' ⟨rfl, rfl⟩
      rw [hv'.out]
      go_wp2_with fail
      go_ret
      exact ⟨hE, ret_bool hf2.out.symm⟩
    · have hf2 : Hid (validZ s l = !s) := hid (by rw [hf.out, decide_eq_false h0]; rfl)
      obtain rfl : l = [] := List.eq_nil_of_length_eq_zero (by omega)
      clear h0 hf
      simp only [List.length_nil] at hE hs1 |-
      go_enter Tryz.func324, Tryz.ntmps324
      go_wp2_with fail
      refine (valid_any X _ [] _ _ hs1 (by simp)).mono ?_
      rintro e w' ⟨rfl, rfl⟩
      rw [hv'.out]
      go_wp2_with fail
      go_ret
      exact ⟨hE, ret_bool hf2.out.symm⟩
theorem stInt : StructT Tryz.prog 39 2 := by
  have h : (Tryz.prog.info? 39).map (fun i => (i.zero, i.size, i.bytes)) = some (some (.agg #[.bool false, .slice none 0 0]), 2, 32) := by kernel_rfl
  obtain ⟨ti, h1, _, h2, _⟩ := info_parts h
  exact ⟨_, ti, Tryz.underlying39, h1, h2⟩
theorem one2 (s : Bool) (ao : Option Addr) (n c : Nat) : ∀ v ∈ (#[Value.bool s, .slice ao n c] : Array Value).toList, v.oneCell' = true := by
  intro v hv; simp at hv; rcases hv with rfl | rfl <;> rfl
def hidB (X : Nat -> Bool) (lo nb : Nat) : Nat -> Bool := fun k => X k || (decide (lo <= k) && decide (k < lo + nb))
theorem hidB_in {X : Nat -> Bool} {lo nb k : Nat} (h1 : lo <= k) (h2 : k < lo + nb) : hidB X lo nb k = true := by simp [hidB, h1, h2]
theorem hidB_X {X : Nat -> Bool} {lo nb k : Nat} (h : X k = true) : hidB X lo nb k = true := by simp [hidB, h]
theorem _root_.Go.Rep.HX.boxes {X : Nat -> Bool} {w w' : World} {nb : Nat} (h : HX X w) (hz : w'.heap.size = w.heap.size + nb) : HX (hidB X w.heap.size nb) w' := fun k hk => by
  by_cases hx : X k = true
  · have := h k hx; omega
  · simp [hidB, hx] at hk; omega
theorem _root_.Go.Rep.HX.boxes' {X : Nat -> Bool} {w w' : World} {b nb : Nat} (h : HX X w) (hE : Ext w w') (hb : b + nb <= w'.heap.size) (_hz : w.heap.size + nb <= w'.heap.size) : HX (hidB X b nb) w' := fun k hk => by
  by_cases hx : X k = true
  · exact Nat.lt_of_lt_of_le (h k hx) hE.size
  · simp [hidB, hx] at hk; omega
theorem le_boxes {X : Nat -> Bool} {w w' : World} {nb : Nat} (hE : Ext w w') : Le (mk X w) (mk (hidB X w.heap.size nb) w') :=
  mk_over hE (fun k _ hk => by simp [noY] at hk) fun k hk hz => by
    by_cases hx : X k = true
    · exact hx
    · simp [hidB, hx] at hz; omega
theorem le_unbox {X : Nat -> Bool} {w : World} {lo nb : Nat} : Le (mk (hidB X lo nb) w) (mk X w) := mk_sub fun _ _ hk => hidB_X hk
theorem le_store {X : Nat -> Bool} {w w' : World} {lo nb b : Nat} (hE : ExtX (ob (some ⟨b, 0, none⟩)) w w') (h1 : lo <= b) (h2 : b < lo + nb) : Le (mk (hidB X lo nb) w) (mk (hidB X lo nb) w') :=
  mk_mono hE fun k hk => by
    have e : b = k := by simpa [ob] using hk
    subst e; exact hidB_in h1 h2
theorem ExtX.box {w0 w w' : World} {b : Nat} (h : Ext w0 w) (hE : ExtX (ob (some ⟨b, 0, none⟩)) w w') (hb : w0.heap.size <= b) : Ext w0 w' :=
  h.then_ hE fun i hi _ => ob_other (by omega)
theorem two_stores {X : Nat -> Bool} {w w6 : World} {b nb : Nat} {x0 x1 y0 y1 : Value} {T U : TypeId} (h0 : Bx w6 b #[x0, x1] T) (h1 : Bx w6 (b + 1) #[y0, y1] U) (hE : Ext w w6) (hb : w.heap.size <= b) (hn : 2 <= nb) (v0 v1 u0 u1 : Value) :
    ∃ wf, ((((w6.setCell ⟨b, 0, none⟩ v0).setCell ⟨b, 1, none⟩ v1).setCell ⟨b + 1, 0, none⟩ u0).setCell ⟨b + 1, 1, none⟩ u1) = wf /\ Bx wf b #[v0, v1] T /\ Bx wf (b + 1) #[u0, u1] U /\ (∀ k cs V, k ≠ b -> k ≠ b + 1 -> Bx w6 k cs V -> Bx wf k cs V) /\ Ext w wf /\ Le (mk (hidB X b nb) w6) (mk (hidB X b nb) wf) := by
  obtain ⟨r1, r2⟩ := h0.set2 v0 v1
  have h1' := h1.ext r2 (ob_other (by omega))
  obtain ⟨r3, r4⟩ := h1'.set2 u0 u1
  refine ⟨_, rfl, r1.ext r4 (ob_other (by omega)), r3, fun k cs V k1 k2 h => (h.ext r2 (ob_other k1)).ext r4 (ob_other k2), ExtX.box (ExtX.box hE r2 hb) r4 (by omega), (le_store r2 (Nat.le_refl _) (by omega)).trans (le_store r4 (by omega) (by omega))⟩
set_option maxRecDepth 100000 in
theorem ivalue (X : Nat -> Bool) (w : World) (u : Value) (z : Int) (hX : HX X w) (hu : ZV (mk X w) u z) : Calls Tryz.prog 282 #[u] w (ROut X w ZC z) := by
  obtain ⟨s, ao, c, l, rfl, h1, h2, h3, h4, rfl⟩ := hu
  obtain ⟨W, hW⟩ : ∃ W, (w.alloc (.cells #[.bool s, .slice ao l.length c] 39)).alloc (.cells #[.bool false, .slice none 0 0] 39) = W := ⟨_, rfl⟩
  have hE : Ext w W := by rw [<- hW]; exact ((ExtX.refl w).alloc _).alloc _
  have b0 : Bx W w.heap.size #[.bool s, .slice ao l.length c] 39 := by
    rw [<- hW]; exact (Bx.new w _ _).ext0 ((ExtX.refl _).alloc _)
  have b1 : Bx W (w.heap.size + 1) #[.bool false, .slice none 0 0] 39 := by
    rw [<- hW]; have := Bx.new (w.alloc (.cells #[.bool s, .slice ao l.length c] 39)) #[.bool false, .slice none 0 0] 39; simpa using this
  have hz : W.heap.size = w.heap.size + 2 := by rw [<- hW]; simp
  have hs1 : Sl (NatIn .u32) 1 (mk (hidB X w.heap.size 2) W) ao l := h4.mono (NatIn.mono _) (le_boxes hE)
  obtain ⟨b, hb⟩ : ∃ b, w.heap.size = b := ⟨_, rfl⟩
  have hbw : w.heap.size <= b := by omega
  have hXb : HX X w := hX
  rw [hb] at b0 b1 hz hs1
  have c0 := b0.cell 0 rfl
  have c1 := b0.cell 1 rfl
  cases hv : validZ s l
  · have hz0 := hid (zval_invalid hv)
    have hv' := hid hv
    clear hv
    go_enter Tryz.func282, Tryz.ntmps282
    go_wp2_with fail
    refine (ivalid (hidB X b 2) W s ao c l hs1 h3).mono ?_
    rintro e w1 ⟨hE1, rfl⟩
    rw [hv'.out]
    have b1' := b1.ext0 hE1
    clear c0 c1
    go_wp2_with ((with_reducible show wpList _ _ _ (⟨_, .store _ _ _, _, _, _, _⟩ :: _) _ _); refine st_storeBox stInt rfl rfl b1' rfl rfl (one2 _ _ _ _) ?_; intro w2 b2 hE2)
    exact bodyPost_ret (results_box rfl rfl stInt b2 rfl) rfl ⟨ExtX.box (hE.trans hE1) hE2 (by omega), _, rfl, by rw [hz0.out]; exact ZC.zero _⟩
  · have hv' := hid hv
    clear hv
    go_enter Tryz.func282, Tryz.ntmps282
    go_wp2_with fail
    refine (ivalid (hidB X b 2) W s ao c l hs1 h3).mono ?_
    rintro e w1 ⟨hE1, rfl⟩
    rw [hv'.out]
    have b0' := b0.ext0 hE1
    have b1' := b1.ext0 hE1
    have hs2 := hs1.mono (NatIn.mono _) (mk_ext hE1)
    clear c0 c1
    have c0 := b0'.cell 0 rfl
    have c1 := b0'.cell 1 rfl
    go_wp2_with ((with_reducible show wpList _ _ _ (⟨_, .store _ _ _, _, _, _, _⟩ :: _) _ _); refine st_storeBox stInt rfl rfl b1' rfl rfl (one2 _ _ _ _) ?_; intro w2 b2 hE2)
    have hs3 := (hs2.mono (NatIn.mono _) (le_store hE2 (by omega) (by omega))).mono (NatIn.mono _) le_unbox
    exact bodyPost_ret (results_box rfl rfl stInt b2 rfl) rfl ⟨ExtX.box (hE.trans hE1) hE2 (by omega), _, rfl, s, ao, c, l, rfl, h1, CanZ.of_valid h2 hv'.out, hs3⟩
end Go.Proofs.YtnnpfhoigmegcaaGreat
