/- More readings: leaves; lists under a new mask. Conditions: none. natural.guess, shifted, reduce, restore: parts of the long division. Conditions: lengths far below any machine's. natural.Sub. Conditions: lengths far below any machine's. -/
import Derived.Test.YtjbhcniiioepgaaGreatSoC
import Derived.BigQuiet
namespace Go.Rep
open Go.RowKit Go.Lim

/-- A leaf: two lists of integers. -/
def LeafR : Mem → Value → Leaf → Prop := fun h u x => ∃ a1 c1 a2 c2, u = .agg #[.slice a1 x.1.length c1, .slice a2 x.2.length c2] ∧ x.1.length ≤ c1 ∧ x.2.length ≤ c2 ∧ Sl (IntIn .i64) 1 h a1 x.1 ∧ Sl (IntIn .i64) 1 h a2 x.2
theorem LeafR.mono : Mono LeafR := by
  rintro h h' u x hl ⟨a1, c1, a2, c2, rfl, h1, h2, h3, h4⟩
  exact ⟨a1, c1, a2, c2, rfl, h1, h2, h3.mono (IntIn.mono _) hl, h4.mono (IntIn.mono _) hl⟩
theorem LeafR.elem : Elem LeafR 2 := ⟨LeafR.mono, by rintro h u x ⟨a1, c1, a2, c2, rfl, _⟩; rfl, by
  rintro h u x ⟨a1, c1, a2, c2, rfl, _⟩ c hc
  simp [cellsL, Value.cells] at hc
  rcases hc with rfl | rfl <;> rfl, by decide⟩
theorem Sl.leaf {X : Nat → Bool} {w : World} {ao : Option Addr} {l : List Leaf} (s : Sl LeafR 2 (mk X w) ao l) (i : Nat) (hi : i < l.length) :
    ∃ a1 c1 a2 c2, w.cell? (adr ao (i * 2)) = some (.slice a1 l[i].1.length c1) ∧ w.cell? (adr ao (i * 2 + 1)) = some (.slice a2 l[i].2.length c2) ∧ l[i].1.length ≤ c1 ∧ l[i].2.length ≤ c2 ∧ Sl (IntIn .i64) 1 (mk X w) a1 l[i].1 ∧ Sl (IntIn .i64) 1 (mk X w) a2 l[i].2 := by
  obtain ⟨u, h1, h2, a1, c1, a2, c2, rfl, h3, h4, h5, h6⟩ := s.2 i hi
  exact ⟨a1, c1, a2, c2, mk_cell (h2 0 (by simp [Value.cells])), mk_cell (h2 1 (by simp [Value.cells])), h3, h4, h5, h6⟩
/-- What is read outside of X and of a list's own block is still read outside of it behind a step on that list. -/
theorem Sl.unstep {α : Type} {R : Mem → Value → α → Prop} (hR : Mono R) {sz : Nat} {X : Nat → Bool} {w w' : World} {oo oo' ao : Option Addr} {l : List α} (s : Sl R sz (mk (un X oo) w) ao l) (hE : ExtX (ob oo) w w') (ho : oo' = oo ∨ ∃ g, oo' = some ⟨g, 0, none⟩ ∧ w.heap.size ≤ g) : Sl R sz (mk (un X oo') w') ao l :=
  s.mono hR (mkun_over hE ho)
theorem Sl.unX {α : Type} {R : Mem → Value → α → Prop} (hR : Mono R) {sz : Nat} {X : Nat → Bool} {w : World} {oo ao : Option Addr} {l : List α} (s : Sl R sz (mk (un X oo) w) ao l) : Sl R sz (mk X w) ao l :=
  s.mono hR (mk_sub fun k _ hk => un_left hk)
/-- A reading from before the own block was made. -/
theorem Sl.old {α : Type} {R : Mem → Value → α → Prop} (hR : Mono R) {sz : Nat} {X : Nat → Bool} {w w' : World} {oo ao : Option Addr} {l : List α} (s : Sl R sz (mk X w) ao l) (hE : Ext w w') (hb : ∀ j, j < w.heap.size → ob oo j = false) : Sl R sz (mk (un X oo) w') ao l :=
  s.mono hR (mk_over hE (fun k _ hk => by simp [noY] at hk) fun j hk hz => by simpa [un, hb j hk] using hz)

/-- A struct type of the program: its cells. -/
def StructT (P : Program) (t sz : Nat) : Prop := ∃ fs ti, P.underlying t = some (.struct fs) ∧ P.info? t = some ti ∧ ti.size = sz

section
variable {P : Program} {ops : Array Oper} {Q : Exit → Act → World → Prop} {rest : List Oper} {a : Act} {w : World}
variable {α : Type} {R : Mem → Value → α → Prop} {sz : Nat} {X : Nat → Bool} {ao : Option Addr} {l : List α}
variable {d : Option Tmp} {ty : TypeId} {ps : String} {af : Array Edge}

/-- A load of a struct out of a list of structs. -/
theorem st_loadElem {t : TypeId} {x : Operand} {k : Nat} (hT : StructT P t sz) (i : Nat) (hs : Sl R sz (mk X w) ao l) (hi : i < l.length) (hx : a.eval x = .pointer (some (adr ao k))) (hk : k = i * sz) (hag : ∀ h u y, R h u y → ∃ cs, u = .agg cs)
    (K : ∀ u, R (mk X w) u l[i] → wpList P ops Q rest (a.put d u) w) :
    wpList P ops Q (⟨d, .load t x, ty, ps, af, none⟩ :: rest) a w := by
  refine wpList_plain rfl fun K' hK' => ?_
  subst hk
  obtain ⟨fs, ti, h1, h2, h3⟩ := hT
  obtain ⟨u, h4, h5, h6⟩ := hs.2 i hi
  obtain ⟨cs, rfl⟩ := hag _ _ _ h6
  have hl := run_loadCells_list (P := P) w (adr ao (i * sz)) cs.toList (fun j v hj => by
    rw [adr_add]
    obtain ⟨hj1, hj2⟩ := List.getElem?_eq_some_iff.1 hj
    have := mk_cell (h5 j (by simpa [Value.cells] using hj1))
    rw [this]
    simp [Value.cells] at hj2 ⊢
    exact hj2)
  have hsz : cs.toList.length = sz := by simpa [Value.cells] using h4
  rw [hsz] at hl
  unfold Oper.wp
  simp [execOp, hx, Instr.loadAt, Instr.sureAddr, loadVar, isAgg, run_underlying h1, sizeOf, typeInfo, h2, h3, hl, Result.andThen]
  exact hK' _ _ (K _ h6)
end
theorem LeafR.agg : ∀ h u y, LeafR h u y → ∃ cs, u = .agg cs := by rintro h u y ⟨a1, c1, a2, c2, rfl, _⟩; exact ⟨_, rfl⟩
theorem OL.ob_ge {α : Type} {R : Mem → Value → α → Prop} {sz : Nat} {X : Nat → Bool} {base : Nat} {e : TypeId} {w : World} {ao : Option Addr} {cap : Nat} {l : List α} (h : OL R sz X base e w ao cap l) {k : Nat} (hk : w.heap.size ≤ k) : ob ao k = false := by
  cases hb : ob ao k
  · rfl
  · have := h.block hb; omega
/-- append(s, x) of one element, where the slice's length is written otherwise. -/
theorem st_append1n {P : Program} {ops : Array Oper} {Q : Exit → Act → World → Prop} {rest : List Oper} {a : Act} {w : World} {α : Type} {R : Mem → Value → α → Prop} {sz : Nat} {X : Nat → Bool} {base : Nat} {e : TypeId} {ao : Option Addr} {cap : Nat} {l : List α} {d : Option Tmp} {ty : TypeId} {ps : String} {af : Array Edge}
    {t by_ : Nat} {z : Value} {arr : Array Value} {s x : Operand} (T : SliceT P t e sz by_ z) (hzs : z.cells.size = sz) (hR : Elem R sz) (hbase : base ≤ w.heap.size) (hX : ∀ k, X k = true → k < w.heap.size) (n : Nat) (hn : l.length = n)
    (hs : a.eval s = .slice ao n cap) (hx : a.eval x = .slice (some ⟨w.heap.size, 0, none⟩) 1 1) (h : OL R sz X base e w ao cap l)
    (u : Value) (y : α) (harr : arr = u.cells) (hu : R (mk (un X ao) w) u y) (hroom : (n + 1) * by_ ≤ 140737488355328) (hmax : n + 1 ≤ 9223372036854775807)
    (K : ∀ ao' cap' w', OL R sz X base e w' ao' cap' (l ++ [y]) → ExtX (ob ao) w w' → (ao' = ao ∨ ∃ g, ao' = some ⟨g, 0, none⟩ ∧ w.heap.size ≤ g) → wpList P ops Q rest (a.put d (.slice ao' (n + 1) cap')) w') :
    wpList P ops Q (⟨d, .call { callee := .builtin .append, args := #[s, x], argTypes := #[t, t] }, ty, ps, af, none⟩ :: rest) a (w.alloc (.cells arr e)) := by
  subst hn
  exact st_append1 T hzs hR hbase hX hs hx h u y harr hu hroom hmax fun ao' cap' w' h1 h2 h3 => by
    have := K ao' cap' w' h1 h2 h3
    rwa [show l.length + 1 = (l ++ [y]).length from by simp] at this
end Go.Rep

namespace Go.Proofs.YtjbhcniiioepgaaGreat
open Go.RowKit Go.Rep Go.Lim

/-- A number comes back; memory is as it was. -/
def QuietOut (w : World) (k : IntKind) (n : Nat) (e : Ending) (w' : World) : Prop := e = .returned (.int k n) ∧ ∃ m, w' = w.drewN m

theorem or_shl32 (a b : Nat) (ha : a < 4294967296) (hb : b < 4294967296) : bits BinOp.or IntKind.u64 ((a : Int) * 4294967296) (b : Int) = (a : Int) * 4294967296 + b := by
  have e := bits_or_u64_nat (a * 4294967296) b (by omega) (by omega)
  have e2 := Nat.two_pow_add_eq_or_of_lt (i := 32) (b := b) (by omega) a
  rw [Nat.mul_comm] at e2
  rw [← e2] at e
  simpa using e

set_option maxRecDepth 100000 in
set_option maxHeartbeats 400000 in
theorem guess_any (u2 u1 u0 v1 v0 : Nat) (w : World) (hv : 2147483648 ≤ v1) (hv1 : v1 < 4294967296) (h2 : u2 ≤ v1) (h1 : u1 < 4294967296) (h0 : u0 < 4294967296) (hv0 : v0 < 4294967296) :
    Calls Tryz.prog 231 #[.int .u32 u2, .int .u32 u1, .int .u32 u0, .int .u32 v1, .int .u32 v0] w (QuietOut w .u64 (estB B u2 u1 u0 v1 v0)) := by
  have t1 : ((v1 : Int) == 0) = false := beqF (by omega)
  have t2 : ((v1 : Int) != 0) = true := bneT (by omega)
  have hor := or_shl32 u2 u1 (by omega) h1
  have hBe := hid B_eq
  have hst : Hid (GInvB B u2 u1 u0 v1 v0 ((u2 * 4294967296 + u1) / v1) ((u2 * 4294967296 + u1) % v1)) := hid (by
    have := GInvB.start (b := B) (u0 := u0) (v0 := v0) (by rw [B_eq]; omega) (by rw [B_eq]; omega) h2 (by rw [B_eq]; exact h1) (by rw [B_eq]; exact h0)
    rwa [B_eq] at this ⊢)
  go_enter Tryz.func231, Tryz.ntmps231
  go_wp2_with fail
  go_quiet (fail)
  go_wp2_with fail
  go_loop [12, 13] (fun x y => ∃ (q r : Nat), x = .int .u64 q ∧ y = .int .u64 r ∧ Hid (GInvB B u2 u1 u0 v1 v0 q r)) (fun x _ => (intOf x).toNat)
  case atStart => exact ⟨_, _, by rw [Int.natCast_ediv]; simp, by rw [Int.natCast_emod]; simp, hst⟩
  case round =>
    obtain ⟨q, r, rfl, rfl, hinv⟩ := hrel
    have hq : q ≤ 4294967297 := by have := hinv.out.2.2; rw [hBe.out] at this; exact this
    clear hor t1 t2 hst
    have hqI : (q : Int) ≤ 4294967297 := by omega
    by_cases hr : (r : Int) < 4294967296
    · have hor := or_shl32 r u0 (by omega) h0
      by_cases hqb : 4294967296 ≤ q
      · obtain ⟨hq1, hinv2⟩ := hinv.out.more (by rw [hBe.out]; omega) (.inl (by rw [hBe.out]; exact hqb)) (by omega)
        have hi2 := hid hinv2
        have hqbI : (4294967296 : Int) ≤ (q : Int) := by omega
        clear hinv2 hqb hq
        go_wp2_with fail
        go_round
        case rel => exact ⟨q - 1, r + v1, by rw [Int.natCast_sub hq1]; rfl, rfl, hi2⟩
        case measure => simp [intOf]; omega
      · have hm : q * v0 ≤ 4294967295 * 4294967295 := Nat.mul_le_mul (by omega) (by omega)
        have hw1 : IntKind.u64.wrap ((q : Int) * (v0 : Int)) = (q : Int) * (v0 : Int) := IntWalk.u64_in _ (by rw [← Int.natCast_mul]; omega)
        have hqv0 : (0 : Int) ≤ (q : Int) * (v0 : Int) := Int.mul_nonneg (by omega) (by omega)
        by_cases hc : r * 4294967296 + u0 < q * v0
        · obtain ⟨hq1, hinv2⟩ := hinv.out.more (by rw [hBe.out]; omega) (.inr (by rw [hBe.out]; exact hc)) (by omega)
          have hi2 := hid hinv2
          have ht : decide ((r : Int) * 4294967296 + (u0 : Int) < (q : Int) * (v0 : Int)) = true := by rw [decide_eq_true_eq, ← Int.natCast_mul]; omega
          have hqbI : (q : Int) < 4294967296 := by omega
          clear hinv2 hm hc hqb hq
          go_wp2_with fail
          go_round
          case rel => exact ⟨q - 1, r + v1, by rw [Int.natCast_sub hq1]; rfl, rfl, hi2⟩
          case measure => simp [intOf]; omega
        · have hqbI : (q : Int) < 4294967296 := by omega
          have hfin := hid (hinv.out.less (by rw [hBe.out]; omega) (by rw [hBe.out]; omega) h2 (by rw [hBe.out]; exact h1) (by rw [hBe.out]; exact hv0) (.inr ⟨by rw [hBe.out]; omega, by rw [hBe.out]; omega⟩))
          have ht : decide ((r : Int) * 4294967296 + (u0 : Int) < (q : Int) * (v0 : Int)) = false := by rw [decide_eq_false_iff_not, ← Int.natCast_mul]; omega
          have hqbJ : decide ((4294967296 : Int) ≤ (q : Int)) = false := decide_eq_false (by omega)
          have h0I : (u0 : Int) < 4294967296 := by omega
          have hv0I : (v0 : Int) < 4294967296 := by omega
          clear hm hc hqb hq hv hv1 h2 h1 h0 hv0
          go_wp2_with fail
          go_ret
          exact ⟨ret_int (congrArg Nat.cast hfin.out), _, rfl⟩
    · have hfin := hid (hinv.out.less (by rw [hBe.out]; omega) (by rw [hBe.out]; omega) h2 (by rw [hBe.out]; exact h1) (by rw [hBe.out]; exact hv0) (.inl (by rw [hBe.out]; omega)))
      clear hq hv hv1 h2 h1 h0 hv0
      go_wp2_with fail
      go_ret
      exact ⟨ret_int (congrArg Nat.cast hfin.out), _, rfl⟩

set_option maxRecDepth 100000 in
theorem shifted_any (X : Nat → Bool) (ao : Option Addr) (l : List Nat) (cap s : Nat) (w : World) (hs : Sl (NatIn .u32) 1 (mk X w) ao l) (hd : Dig l) (hl : l.length ≤ 1099511627776) (hsh : s < 32) (hX : ∀ k, X k = true → k < w.heap.size) :
    Calls Tryz.prog 230 #[.slice ao l.length cap, .int .i64 s] w (fun e w' => Ext w w' ∧ ∃ oo o, e = .returned (.slice oo o.length o.length) ∧ OL (NatIn .u32) 1 X w.heap.size 123 w' oo o.length o ∧ Hid (o.length = l.length + 1 ∧ Dig o ∧ o.getD l.length 0 < 2 ^ s ∧ nv o = nv l * 2 ^ s)) := by
  have hh := hs.hd
  go_enter Tryz.func230, Tryz.ntmps230
  go_wp2_with (at_make; refine st_make slU32 (NatIn.elem .u32) 0 (fun _ => rfl) X hX w.heap.size (Nat.le_refl _) (l.length + 1) rfl rfl (by omega) (by omega) (by omega) ?_; intro oo w1 hO hE1)
  go_loopw [15] (fun c wr => ∃ (k : Nat) (o : List Nat), c = .int .i64 k ∧ k ≤ l.length ∧ Hid (ShInv l o s k) ∧ Hid (o.length = l.length + 1) ∧ OL (NatIn .u32) 1 X w.heap.size 123 wr oo (l.length + 1) o ∧ Ext w wr) (fun c _ => l.length - (intOf c).toNat)
  case atStart => exact ⟨0, _, rfl, by omega, hid (ShInv.start l s), hid (by simp), hO, hE1⟩
  case round =>
    obtain ⟨k, o, rfl, hk, hinv, hol, hOr, hEr⟩ := hrel
    clear hO hE1
    have hho : Hd oo (l.length + 1) := hol.out ▸ hOr.hd
    by_cases hlt : k < l.length
    · have hca := (hs.mono (NatIn.mono _) (mk_ext hEr)).nat k hlt
      have hko : k < o.length := by rw [hol.out]; omega
      have hco := (hOr.sl (NatIn.elem _)).nat k hko
      obtain ⟨x, hx⟩ : ∃ x, l[k] = x := ⟨_, rfl⟩
      obtain ⟨lo, hlo⟩ : ∃ lo, o[k] = lo := ⟨_, rfl⟩
      obtain ⟨hst, b1, b2, b3⟩ := hinv.out.step (lo := lo) hlt hx ((getD_of_lt hko).trans hlo) hd hsh
      have hxB := hd.get k hlt
      rw [hx, B_eq] at hxB
      rw [hx] at hca
      rw [hlo] at hco
      have hloB := hinv.out.2.1.get k hko
      rw [hlo, B_eq] at hloB
      obtain ⟨p, hp⟩ : ∃ p, x * 2 ^ s = p := ⟨_, rfl⟩
      rw [hp] at hst b1 b2 b3
      have hst' := hid hst
      have hw : IntKind.u64.wrap ((x : Int) * 2 ^ s) = (p : Int) := by
        have e : (x : Int) * 2 ^ s = (p : Int) := by rw [← hp]; simp
        rw [e]; exact IntWalk.u64_in _ (by omega)
      have hor : bits BinOp.or IntKind.u32 (lo : Int) ((p : Int) % 4294967296) = ((lo ||| p % 4294967296 : Nat) : Int) := by
        have := bits_or_u32_nat lo (p % 4294967296) hloB (Nat.mod_lt _ (by decide))
        simpa using this
      have hdv := hid b3
      clear hx hlo hinv hp hst b1 b2 b3
      go_wp2_with (first | (with_reducible refine up_ix1 slU32 (by omega) (by assumption) ?_) | ((with_reducible show wpList _ _ _ (⟨_, .store _ _ _, _, _, _, _⟩ :: _) _ _); first | (refine st_storeNat tyU32 k (lo ||| p % 4294967296) rfl rfl hOr hko rfl rfl ?_; intro w2 hO2 hE2) | (refine st_storeNat tyU32 (k + 1) (p / 4294967296) rfl rfl hO2 (by simp; rw [hol.out]; omega) rfl (by have := hdv.out; omega) ?_; intro w3 hO3 hE3)))
      have hol3 : Hid (((o.set k (lo ||| p % 4294967296)).set (k + 1) (p / 4294967296)).length = l.length + 1) := hid (by simp; exact hol.out)
      go_roundw
      case rel => exact ⟨k + 1, _, by go_num, by omega, hst', hol3, hO3, (hEr.own hOr (Nat.le_refl _) hE2).own hO2 (Nat.le_refl _) hE3⟩
      case measure => simp [intOf]; omega
    · have hke : k = l.length := by omega
      subst hke
      have hdn := hid hinv.out.done
      rw [← hol.out] at hOr ⊢
      go_wp2_with fail
      go_ret
      exact ⟨hEr, _, o, rfl, hOr, hdn⟩

/-- A window of digits has been replaced. -/
def WinOut (X : Nat → Bool) (base g cU : Nat) (w : World) (A R : List Nat) (P : List Nat → Ending → Prop) (e : Ending) (w' : World) : Prop :=
  ExtX (ob (some ⟨g, 0, none⟩)) w w' ∧ ∃ o : List Nat, P o e ∧ OL (NatIn .u32) 1 X base 123 w' (some ⟨g, 0, none⟩) cU (A ++ o ++ R)

theorem win_get {A o R : List Nat} {k : Nat} (h : k < o.length) : (A ++ o ++ R)[A.length + k]'(by simp; omega) = o[k] := by
  rw [List.getElem_append_left (by simp; omega), List.getElem_append_right (by omega)]
  simp
theorem win_set {A o R : List Nat} {k d : Nat} (h : k < o.length) : (A ++ o ++ R).set (A.length + k) d = A ++ o.set k d ++ R := by
  rw [List.append_assoc, List.set_append_right _ _ (by omega), List.append_assoc]
  congr 1
  rw [show A.length + k - A.length = k by omega, List.set_append_left _ _ h]

theorem ptr_win (g a k : Nat) : Value.pointer (some (⟨g, a + k, none⟩ : Addr)) = .pointer (some (adr (some ⟨g, 0, none⟩) (a + k))) := by rw [adr_some, Nat.zero_add]

def RedP (W V : List Nat) (x n : Nat) (o : List Nat) (e : Ending) : Prop := ∃ bo : Nat, e = .returned (.bool (decide (bo = 1))) ∧ o.length = n + 1 ∧ Dig o ∧ ((bo = 0 ∧ nv o + x * nv V = nv W) ∨ (bo = 1 ∧ nv W < x * nv V ∧ nv o + x * nv V = nv W + B ^ (n + 1)))

set_option maxRecDepth 100000 in
theorem reduce_any (X : Nat → Bool) (base g cU cw : Nat) (A W R V : List Nat) (vo : Option Addr) (cv x n : Nat) (w : World) (hU : OL (NatIn .u32) 1 X base 123 w (some ⟨g, 0, none⟩) cU (A ++ W ++ R)) (hVs : Sl (NatIn .u32) 1 (mk (un X (some ⟨g, 0, none⟩)) w) vo V)
    (hW : W.length = n + 1) (hV : V.length = n) (hVd : Dig V) (hWd : Dig W) (hx : x < 4294967296) (hA : A.length ≤ 1099511627776) (hn : n ≤ 1099511627776) :
    Calls Tryz.prog 232 #[.slice (some ⟨g, A.length, none⟩) W.length cw, .slice vo V.length cv, .int .u64 x] w (WinOut X base g cU w A R (RedP W V x n)) := by
  have hhv := hVs.hd
  have hhw : Hd (some (⟨g, A.length, none⟩ : Addr)) W.length := fun _ => ⟨_, _, rfl⟩
  have hWh := hid hW
  have hVh := hid hV
  have hxB : Hid (x < B) := hid (by rw [B_eq]; exact hx)
  have hWl : W.length ≤ 1099511627777 := by omega
  have hVl : V.length ≤ 1099511627776 := by omega
  clear hW hV
  go_enter Tryz.func232, Tryz.ntmps232
  go_wp2_with fail
  go_loopw [7, 8, 13] (fun a b c wr => ∃ (k cy bo : Nat) (o : List Nat), a = .int .u64 cy ∧ b = .int .u32 bo ∧ c = .int .i64 k ∧ k ≤ W.length ∧ cy < 4294967296 ∧ bo ≤ 1 ∧ Hid (RedInv W V x o k cy bo) ∧ Hid (o.length = W.length) ∧ OL (NatIn .u32) 1 X base 123 wr (some ⟨g, 0, none⟩) cU (A ++ o ++ R) ∧ ExtX (ob (some ⟨g, 0, none⟩)) w wr) (fun _ _ c _ => W.length - (intOf c).toNat)
  case atStart => exact ⟨0, 0, 0, W, rfl, rfl, rfl, by omega, by omega, by omega, hid (RedInv.start hWd), hid rfl, hU, ExtX.refl _⟩
  case round =>
    obtain ⟨k, cy, bo, o, rfl, rfl, rfl, hk, hcy, hbo, hinv, hol, hOr, hEr⟩ := hrel
    clear hU
    by_cases hlt : k < W.length
    · have hko : k < o.length := by rw [hol.out]; exact hlt
      have hall : A.length + k < (A ++ o ++ R).length := by simp; omega
      have hco := (hOr.sl (NatIn.elem _)).nat (A.length + k) hall
      rw [win_get hko] at hco
      obtain ⟨z, hz⟩ : ∃ z, o[k] = z := ⟨_, rfl⟩
      rw [hz] at hco
      have hco1 : wr.cell? ⟨g, A.length + k, none⟩ = some (.int .u32 z) := by rw [adr_some, Nat.zero_add] at hco; exact hco
      have hVs1 := hVs.unstep (NatIn.mono _) hEr (.inl rfl)
      by_cases hkv : k < V.length
      · have hcv := hVs1.nat k hkv
        obtain ⟨y, hy⟩ : ∃ y, V[k] = y := ⟨_, rfl⟩
        rw [hy] at hcv
        obtain ⟨hst, b1, hzB⟩ := hinv.out.step (y := y) (z := z) hlt ((getD_of_lt hkv).trans hy) ((getD_of_lt hko).trans hz) hVd hxB.out
        have hyB := hVd.get k hkv
        rw [hy, B_eq] at hyB
        obtain ⟨t, ht⟩ : ∃ t, cy + x * y = t := ⟨_, rfl⟩
        rw [ht] at hst b1
        have hst' := hid hst
        have hw1 : IntKind.u64.wrap ((x : Int) * (y : Int)) = (x : Int) * (y : Int) := IntWalk.u64_in _ (by rw [← Int.natCast_mul]; omega)
        have hw2 : IntKind.u64.wrap ((cy : Int) + (x : Int) * (y : Int)) = (t : Int) := by
          rw [← ht, Int.natCast_add, Int.natCast_mul]; exact IntWalk.u64_in _ (by rw [← Int.natCast_mul]; omega)
        have htm : (t : Int) % 4294967296 = ((t % 4294967296 : Nat) : Int) := by omega
        have htm2 : t % 4294967296 < 4294967296 := Nat.mod_lt _ (by decide)
        obtain ⟨tm, htmm⟩ : ∃ tm, t % 4294967296 = tm := ⟨_, rfl⟩
        rw [htmm] at htm htm2 hst'
        have hset := hid (win_set (A := A) (R := R) (d := subD z tm bo) hko)
        have hcy2 : t / 4294967296 < 4294967296 := by omega
        have hbo2 : subC z tm bo ≤ 1 := by unfold subC; split <;> omega
        have hol2 : Hid ((o.set k (subD z tm bo)).length = W.length) := hid (by rw [List.length_set]; exact hol.out)
        clear hst hz hy hinv ht b1 hVs1 hco htmm
        go_wp2_with (first | (with_reducible refine up_ix1 slU32 (by omega) (by assumption) ?_) | (go_at_call 226; refine (sub32_any _ _ _ _ hzB htm2 hbo).mono ?_; rintro e w' ⟨rfl, rfl⟩) | ((with_reducible show wpList _ _ _ (⟨_, .store _ _ _, _, _, _, _⟩ :: _) _ _); refine st_storeNat tyU32 (A.length + k) (subD z tm bo) (ptr_win g A.length k) rfl hOr hall rfl rfl ?_; intro w3 hO2 hE3))
        rw [hset.out] at hO2
        go_roundw
        case rel => exact ⟨k + 1, _, _, _, by simp, rfl, by go_num, by omega, hcy2, hbo2, hst', hol2, hO2, hEr.trans hE3⟩
        case measure => simp [intOf]; omega
      · obtain ⟨hst, b1, hzB⟩ := hinv.out.step (y := 0) (z := z) hlt (getD_of_ge (by omega)) ((getD_of_lt hko).trans hz) hVd hxB.out
        rw [Nat.mul_zero, Nat.add_zero, Nat.mod_eq_of_lt hcy, Nat.div_eq_of_lt hcy] at hst
        have hst' := hid hst
        have hset := hid (win_set (A := A) (R := R) (d := subD z cy bo) hko)
        have hbo2 : subC z cy bo ≤ 1 := by unfold subC; split <;> omega
        have hol2 : Hid ((o.set k (subD z cy bo)).length = W.length) := hid (by rw [List.length_set]; exact hol.out)
        clear hst hz hinv b1 hVs1 hco
        go_wp2_with (first | (with_reducible refine up_ix1 slU32 (by omega) (by assumption) ?_) | (go_at_call 226; refine (sub32_any _ _ _ _ hzB hcy hbo).mono ?_; rintro e w' ⟨rfl, rfl⟩) | ((with_reducible show wpList _ _ _ (⟨_, .store _ _ _, _, _, _, _⟩ :: _) _ _); refine st_storeNat tyU32 (A.length + k) (subD z cy bo) (ptr_win g A.length k) rfl hOr hall rfl rfl ?_; intro w3 hO2 hE3))
        rw [hset.out] at hO2
        go_roundw
        case rel => exact ⟨k + 1, 0, _, _, congrArg (Value.int .u64) (Int.ediv_eq_zero_of_lt (by omega) (by omega)), rfl, by go_num, by omega, by omega, hbo2, hst', hol2, hO2, hEr.trans hE3⟩
        case measure => simp [intOf]; omega
    · have hke : k = W.length := by omega
      subst hke
      have hdn := hinv.out.done hWh.out hVh.out hVd hxB.out
      clear hinv
      obtain ⟨d1, d2, d3⟩ := hdn
      have d1' := hid d1
      have d3' := hid d3
      clear d1
      clear d3'
      rcases d3 with ⟨rfl, d4⟩ | ⟨rfl, d4⟩
      · have d4' := hid d4
        clear d4
        go_wp2_with fail
        go_ret
        exact ⟨hEr, o, ⟨0, rfl, d1'.out, d2, .inl ⟨rfl, d4'.out⟩⟩, hOr⟩
      · have d4' := hid d4
        clear d4
        go_wp2_with fail
        go_ret
        exact ⟨hEr, o, ⟨1, rfl, d1'.out, d2, .inr ⟨rfl, d4'.out⟩⟩, hOr⟩

/-- The window behind an addition. -/
def ResP (W V : List Nat) (n : Nat) (o : List Nat) (e : Ending) : Prop := ∃ c : Nat, e = .returned (.tuple #[]) ∧ o.length = n + 1 ∧ Dig o ∧ c ≤ 1 ∧ nv o + B ^ (n + 1) * c = nv W + nv V

set_option maxRecDepth 100000 in
theorem restore_any (X : Nat → Bool) (base g cU cw : Nat) (A W R V : List Nat) (vo : Option Addr) (cv n : Nat) (w : World) (hU : OL (NatIn .u32) 1 X base 123 w (some ⟨g, 0, none⟩) cU (A ++ W ++ R)) (hVs : Sl (NatIn .u32) 1 (mk (un X (some ⟨g, 0, none⟩)) w) vo V)
    (hW : W.length = n + 1) (hV : V.length = n) (hVd : Dig V) (hWd : Dig W) (hA : A.length ≤ 1099511627776) (hn : n ≤ 1099511627776) :
    Calls Tryz.prog 233 #[.slice (some ⟨g, A.length, none⟩) W.length cw, .slice vo V.length cv] w (WinOut X base g cU w A R (ResP W V n)) := by
  have hhv := hVs.hd
  have hhw : Hd (some (⟨g, A.length, none⟩ : Addr)) W.length := fun _ => ⟨_, _, rfl⟩
  have hWh := hid hW
  have hVh := hid hV
  have hWl : W.length ≤ 1099511627777 := by omega
  have hVl : V.length ≤ 1099511627776 := by omega
  clear hW hV
  go_enter Tryz.func233, Tryz.ntmps233
  go_wp2_with fail
  go_loopw [4, 9] (fun a c wr => ∃ (k cy : Nat) (o : List Nat), a = .int .u32 cy ∧ c = .int .i64 k ∧ k ≤ W.length ∧ cy ≤ 1 ∧ Hid (ResInv W V o k cy) ∧ Hid (o.length = W.length) ∧ OL (NatIn .u32) 1 X base 123 wr (some ⟨g, 0, none⟩) cU (A ++ o ++ R) ∧ ExtX (ob (some ⟨g, 0, none⟩)) w wr) (fun _ c _ => W.length - (intOf c).toNat)
  case atStart => exact ⟨0, 0, W, rfl, rfl, by omega, by omega, hid (ResInv.start hWd), hid rfl, hU, ExtX.refl _⟩
  case round =>
    obtain ⟨k, cy, o, rfl, rfl, hk, hcy, hinv, hol, hOr, hEr⟩ := hrel
    clear hU
    by_cases hlt : k < W.length
    · have hko : k < o.length := by rw [hol.out]; exact hlt
      have hall : A.length + k < (A ++ o ++ R).length := by simp; omega
      have hco := (hOr.sl (NatIn.elem _)).nat (A.length + k) hall
      rw [win_get hko] at hco
      obtain ⟨z, hz⟩ : ∃ z, o[k] = z := ⟨_, rfl⟩
      rw [hz] at hco
      have hco1 : wr.cell? ⟨g, A.length + k, none⟩ = some (.int .u32 z) := by rw [adr_some, Nat.zero_add] at hco; exact hco
      have hVs1 := hVs.unstep (NatIn.mono _) hEr (.inl rfl)
      by_cases hkv : k < V.length
      · have hcv := hVs1.nat k hkv
        obtain ⟨y, hy⟩ : ∃ y, V[k] = y := ⟨_, rfl⟩
        rw [hy] at hcv
        obtain ⟨hst, hzB⟩ := hinv.out.step (y := y) (z := z) hlt ((getD_of_lt hkv).trans hy) ((getD_of_lt hko).trans hz) hVd
        have hyB := hVd.get k hkv
        rw [hy, B_eq] at hyB
        have hst' := hid hst
        have hset := hid (win_set (A := A) (R := R) (d := (z + y + cy) % 4294967296) hko)
        have hcy2 : (z + y + cy) / 4294967296 ≤ 1 := by omega
        have hol2 : Hid ((o.set k ((z + y + cy) % 4294967296)).length = W.length) := hid (by rw [List.length_set]; exact hol.out)
        clear hst hz hy hinv hVs1 hco
        go_wp2_with (first | (with_reducible refine up_ix1 slU32 (by omega) (by assumption) ?_) | (go_at_call 197; refine (add32_any _ _ _ _ hzB hyB hcy).mono ?_; rintro e w' ⟨rfl, rfl⟩) | ((with_reducible show wpList _ _ _ (⟨_, .store _ _ _, _, _, _, _⟩ :: _) _ _); refine st_storeNat tyU32 (A.length + k) ((z + y + cy) % 4294967296) (ptr_win g A.length k) rfl hOr hall rfl rfl ?_; intro w3 hO2 hE3))
        rw [hset.out] at hO2
        go_roundw
        case rel => exact ⟨k + 1, _, _, rfl, by go_num, by omega, hcy2, hst', hol2, hO2, hEr.trans hE3⟩
        case measure => simp [intOf]; omega
      · obtain ⟨hst, hzB⟩ := hinv.out.step (y := 0) (z := z) hlt (getD_of_ge (by omega)) ((getD_of_lt hko).trans hz) hVd
        have hst' := hid hst
        have hset := hid (win_set (A := A) (R := R) (d := (z + 0 + cy) % 4294967296) hko)
        have hcy2 : (z + 0 + cy) / 4294967296 ≤ 1 := by omega
        have hol2 : Hid ((o.set k ((z + 0 + cy) % 4294967296)).length = W.length) := hid (by rw [List.length_set]; exact hol.out)
        clear hst hz hinv hVs1 hco
        go_wp2_with (first | (with_reducible refine up_ix1 slU32 (by omega) (by assumption) ?_) | (go_at_call 197; refine (add32_any _ 0 _ _ hzB (by omega) hcy).mono ?_; rintro e w' ⟨rfl, rfl⟩) | ((with_reducible show wpList _ _ _ (⟨_, .store _ _ _, _, _, _, _⟩ :: _) _ _); refine st_storeNat tyU32 (A.length + k) ((z + 0 + cy) % 4294967296) (ptr_win g A.length k) rfl hOr hall rfl rfl ?_; intro w3 hO2 hE3))
        rw [hset.out] at hO2
        go_roundw
        case rel => exact ⟨k + 1, _, _, rfl, by go_num, by omega, hcy2, hst', hol2, hO2, hEr.trans hE3⟩
        case measure => simp [intOf]; omega
    · have hke : k = W.length := by omega
      subst hke
      have hdn := hid (hinv.out.done hWh.out hVh.out)
      go_wp2_with fail
      exact bodyPost_end (results_none rfl _ _ _) rfl ⟨hEr, o, ⟨cy, rfl, hdn.out⟩, hOr⟩
end Go.Proofs.YtjbhcniiioepgaaGreat

namespace Go.Proofs.YtjbhcniiioepgaaGreat
open Go.RowKit Go.Rep Go.Lim

/-- A difference comes back, or no number. -/
def SubOut (X : Nat → Bool) (w : World) (na nb : Nat) (e : Ending) (w' : World) : Prop :=
  Ext w w' ∧ ∃ ao cap l, e = .returned (.tuple #[.slice ao l.length cap, .bool (decide (nb ≤ na))]) ∧ l.length ≤ cap ∧ Canon l (na - nb) ∧ Sl (NatIn .u32) 1 (mk X w') ao l

theorem sub_any (X : Nat → Bool) (ao bo : Option Addr) (la lb : List Nat) (ca cb : Nat) (w : World) (hsa : Sl (NatIn .u32) 1 (mk X w) ao la) (hsb : Sl (NatIn .u32) 1 (mk X w) bo lb)
    (hda : Dig la) (hdb : Dig lb) (hla : la.length ≤ 1099511627776) (hlb : lb.length ≤ 1099511627776) (hca : la.length ≤ ca) (hcb : lb.length ≤ cb) (hX : ∀ k, X k = true → k < w.heap.size) (na nb : Nat) (hna : val la = na) (hnb : val lb = nb) :
    Calls Tryz.prog 207 #[.slice ao la.length ca, .slice bo lb.length cb] w (SubOut X w na nb) := by
  go_enter Tryz.func207, Tryz.ntmps207
  go_wp2_with fail
  refine (value_any X _ _ _ _ hsa hda (by omega) hca).mono ?_
  rintro e w' ⟨rfl, ao1, ca1, a, rfl, hca1, hal, hcan, hsa1⟩
  go_wp2_with fail
  refine (value_any X _ _ _ _ hsb hdb (by omega) hcb).mono ?_
  rintro e w' ⟨rfl, bo1, cb1, b, rfl, hcb1, hbl, hcbn, hsb1⟩
  rw [hna] at hcan
  rw [hnb] at hcbn
  have hal' : a.length ≤ 1099511627776 := Nat.le_trans hal hla
  have hbl' : b.length ≤ 1099511627776 := Nat.le_trans hbl hlb
  have hva := hid hcan.val
  have hvb := hid hcbn.val
  clear hna hnb hal hbl hsa hsb hla hlb hca hcb hda hdb
  go_wp2_with fail
  refine (compare_any X _ _ _ _ _ _ _ hsa1 hsb1 hcan.1 hcbn.1 hal' hbl' hca1 hcb1 na nb hva.out hvb.out).mono ?_
  rintro e w1 ⟨hE1, rfl⟩
  by_cases hlt : na < nb
  · have hc : cmpN na nb < 0 := (cmpN_lt _ _).2 hlt
    have hd : Hid (decide (nb ≤ na) = false) := hid (decide_eq_false (by omega))
    have hz : Hid (na - nb = 0) := hid (by omega)
    clear hlt
    go_wp2_with fail
    go_ret2
    exact ⟨hE1, none, 0, [], by rw [hd.out]; rfl, by simp, by rw [hz.out]; exact Canon.nil, Sl.nil _ _ _ _⟩
  · have hc : ¬ cmpN na nb < 0 := fun h => hlt ((cmpN_lt _ _).1 h)
    have hd : Hid (decide (nb ≤ na) = true) := hid (decide_eq_true (by omega))
    have hab : b.length ≤ a.length := by rw [hcan.len, hcbn.len]; exact lg_mono (by omega)
    have hle : Hid (nv b ≤ nv a) := hid (by rw [hcan.2.2, hcbn.2.2]; omega)
    have hsum : Hid (nv a - nv b = na - nb) := hid (by rw [hcan.2.2, hcbn.2.2])
    have hX1 : ∀ k, X k = true → k < w1.heap.size := fun k hk => Nat.lt_of_lt_of_le (hX k hk) hE1.size
    have hsa2 := hsa1.mono (NatIn.mono _) (mk_ext hE1)
    have hsb2 := hsb1.mono (NatIn.mono _) (mk_ext hE1)
    have hda := hcan.1
    have hdb := hcbn.1
    have hha := hsa1.hd
    have hhb := hsb1.hd
    clear hlt hcan hcbn hva hvb hsa1 hsb1
    go_wp2_with (at_make; refine st_make slU32 (NatIn.elem .u32) 0 (fun _ => rfl) X hX1 w1.heap.size (Nat.le_refl _) a.length rfl rfl (by omega) (by omega) (by omega) ?_; intro oo w2 hO hE2)
    go_loopw [7, 24] (fun c i wr => ∃ (k : Nat) (o : List Nat) (cy : Nat), i = .int .i64 k ∧ c = .int .u32 cy ∧ k ≤ a.length ∧ SubInv a b o k cy ∧ OL (NatIn .u32) 1 X w1.heap.size 123 wr oo a.length o ∧ Ext w1 wr) (fun _ i _ => a.length - (intOf i).toNat)
    case atStart => exact ⟨0, _, 0, rfl, rfl, by omega, SubInv.start a b, hO, hE2⟩
    case round =>
      obtain ⟨k, o, cy, rfl, rfl, hk, hinv, hOr, hEr⟩ := hrel
      clear hO hE2
      have hcy := hinv.2.2.1
      have hol := hid hinv.1
      have hho : Hd oo a.length := hol.out ▸ hOr.hd
      by_cases hlt : k < a.length
      · have hca := (hsa2.mono (NatIn.mono _) (mk_ext hEr)).nat k hlt
        have hak := hda.get k hlt
        obtain ⟨x, hx⟩ : ∃ x, a[k] = x := ⟨_, rfl⟩
        rw [hx] at hca hak
        rw [B_eq] at hak
        by_cases hkb : k < b.length
        · have hcb := (hsb2.mono (NatIn.mono _) (mk_ext hEr)).nat k hkb
          have hbk := hdb.get k hkb
          obtain ⟨y, hy⟩ : ∃ y, b[k] = y := ⟨_, rfl⟩
          rw [hy] at hcb hbk
          rw [B_eq] at hbk
          have hst := hinv.step (y := y) hlt hx ((getD_of_lt hkb).trans hy) hda hdb
          clear hx hy
          go_wp2_with (first | (with_reducible refine up_ix1 slU32 (by omega) (by assumption) ?_) | (go_at_call 226; refine (sub32_any _ _ _ _ hak hbk hcy).mono ?_; rintro e w' ⟨rfl, rfl⟩) | ((with_reducible show wpList _ _ _ (⟨_, .store _ _ _, _, _, _, _⟩ :: _) _ _); refine st_storeNat tyU32 k (subD x y cy) rfl (by omega) hOr (by rw [hol.out]; omega) rfl rfl ?_; intro w3 hO2 hE3))
          go_roundw
          case rel => exact ⟨k + 1, _, _, by go_num, rfl, by omega, hst, hO2, hEr.own hOr (Nat.le_refl _) hE3⟩
          case measure => simp [intOf]; omega
        · have hst := hinv.step hlt hx (getD_of_ge (by omega)) hda hdb
          clear hx
          go_wp2_with (first | (with_reducible refine up_ix1 slU32 (by omega) (by assumption) ?_) | (go_at_call 226; refine (sub32_any _ 0 _ _ hak (by omega) hcy).mono ?_; rintro e w' ⟨rfl, rfl⟩) | ((with_reducible show wpList _ _ _ (⟨_, .store _ _ _, _, _, _, _⟩ :: _) _ _); refine st_storeNat tyU32 k (subD x 0 cy) rfl (by omega) hOr (by rw [hol.out]; omega) rfl rfl ?_; intro w3 hO2 hE3))
          go_roundw
          case rel => exact ⟨k + 1, _, _, by go_num, rfl, by omega, hst, hO2, hEr.own hOr (Nat.le_refl _) hE3⟩
          case measure => simp [intOf]; omega
      · have hke : k = a.length := by omega
        subst hke
        have hdn := hid (hinv.done hab hle.out)
        have hod := hinv.2.1
        have hs3 := hOr.sl (NatIn.elem .u32)
        go_wp2_with fail
        rw [← hol.out]
        refine (trimmed_any X _ _ _ _ hs3 hod (by rw [hol.out]; omega) (by rw [hol.out]; exact Nat.le_refl _)).mono ?_
        rintro e w' ⟨rfl, l', rfl, hl', hc, hs'⟩
        go_wp2_with fail
        go_ret2
        rw [hdn.out, hsum.out] at hc
        exact ⟨hE1.trans hEr, _, o.length, l', by rw [hd.out]; rfl, hl', hc, hs'⟩
end Go.Proofs.YtjbhcniiioepgaaGreat
