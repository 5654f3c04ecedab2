/- Readings of Go values as lists: what a slice's cells hold, what a call leaves as it was; rules for the walk over them. Conditions: none. -/
import Derived.WalkKit
import Derived.WalkSpells
import Derived.WalkLawsBesides
import Derived.Deep.DeepCutAuto
namespace Go.Rep
open Go.RowKit

/-- The length in a slot: for a loop's measure. -/
def lenOf : Value → Nat | .slice _ n _ => n | _ => 0
theorem hid {p : Prop} (h : p) : Hid p := h
theorem ret_val {a b : Value} (h : a = b) : Ending.returned a = .returned b := by rw [h]
theorem ret_slice {a : Option Addr} {n m c : Nat} (h : n = m) : Ending.returned (.slice a n c) = .returned (.slice a m c) := by rw [h]
theorem ret_int {k : IntKind} {a b : Int} (h : a = b) : Ending.returned (.int k a) = .returned (.int k b) := by rw [h]
theorem ret_bool {a b : Bool} (h : a = b) : Ending.returned (.bool a) = .returned (.bool b) := by rw [h]

theorem cast_bne0 (n : Nat) : ((n : Int) != 0) = (n != 0) := by rw [Bool.eq_iff_iff]; simp
theorem cast_beq0 (n : Nat) : ((n : Int) == 0) = (n == 0) := by rw [Bool.eq_iff_iff]; simp
theorem cast_mod32 (n : Nat) (h : n < 4294967296) : (n : Int) % 4294967296 = n := by omega
theorem beqF {a b : Int} (h : a ≠ b) : (a == b) = false := by simpa using h
theorem bneF {a b : Int} (h : a = b) : (a != b) = false := by simpa using h
theorem beqT {a b : Int} (h : a = b) : (a == b) = true := by simpa using h
theorem bneT {a b : Int} (h : a ≠ b) : (a != b) = true := by simpa using h

/-- What is read at an address. -/
abbrev Mem := Addr → Option Value

/-- All that reads in h reads the same in h'. -/
def Le (h h' : Mem) : Prop := ∀ a u, h a = some u → h' a = some u
theorem Le.refl (h : Mem) : Le h h := fun _ _ x => x
theorem Le.trans {a b c : Mem} (h : Le a b) (k : Le b c) : Le a c := fun x u e => k x u (h x u e)

theorem cell_lt {w : World} {a : Addr} {u : Value} (h : w.cell? a = some u) : a.block < w.heap.size := by
  unfold World.cell? at h
  by_cases hl : a.block < w.heap.size
  · exact hl
  · rw [Array.getElem?_eq_none (by omega)] at h; simp at h

/-- Nothing that was there has turned, but for the blocks in Y. -/
structure ExtX (Y : Nat → Bool) (w w' : World) : Prop where
  os : w'.os = w.os
  tape : w'.tape = w.tape
  output : w'.output = w.output
  size : w.heap.size ≤ w'.heap.size
  block : ∀ k, k < w.heap.size → Y k = false → w'.heap[k]? = w.heap[k]?

def noY : Nat → Bool := fun _ => false
theorem noY_eq (k : Nat) : noY k = false := rfl
/-- Nothing that was there has turned. -/
abbrev Ext (w w' : World) : Prop := ExtX noY w w'
theorem ExtX.refl {Y : Nat → Bool} (w : World) : ExtX Y w w := ⟨rfl, rfl, rfl, Nat.le_refl _, fun _ _ _ => rfl⟩
theorem ExtX.trans {Y : Nat → Bool} {a b c : World} (h : ExtX Y a b) (k : ExtX Y b c) : ExtX Y a c :=
  ⟨k.os.trans h.os, k.tape.trans h.tape, k.output.trans h.output, Nat.le_trans h.size k.size, fun i hi hy => (k.block i (Nat.lt_of_lt_of_le hi h.size) hy).trans (h.block i hi hy)⟩
theorem ExtX.weaken {Y Z : Nat → Bool} {a b : World} (h : ExtX Y a b) (hz : ∀ k, k < a.heap.size → Z k = false → Y k = false) : ExtX Z a b :=
  ⟨h.os, h.tape, h.output, h.size, fun k hk hy => h.block k hk (hz k hk hy)⟩
theorem ExtX.of {Y : Nat → Bool} {a b : World} (h : Ext a b) : ExtX Y a b := h.weaken fun _ _ _ => rfl
theorem ExtX.alloc {Y : Nat → Bool} {a w : World} (h : ExtX Y a w) (o : Obj) : ExtX Y a (w.alloc o) :=
  h.trans ⟨rfl, rfl, rfl, by simp, fun k hk _ => Below.heap_alloc _ _ _ hk⟩
theorem ExtX.drew {Y : Nat → Bool} {a w : World} (h : ExtX Y a w) : ExtX Y a w.drew := ⟨h.os, h.tape, h.output, h.size, h.block⟩
theorem ExtX.drewN {Y : Nat → Bool} {a w : World} (h : ExtX Y a w) (n : Nat) : ExtX Y a (w.drewN n) := ⟨h.os, h.tape, h.output, h.size, h.block⟩
/-- A step that turns only blocks that are new, or in Y. -/
theorem ExtX.then_ {Y Z : Nat → Bool} {a b c : World} (h : ExtX Y a b) (k : ExtX Z b c) (hz : ∀ i, i < a.heap.size → Y i = false → Z i = false) : ExtX Y a c :=
  ⟨k.os.trans h.os, k.tape.trans h.tape, k.output.trans h.output, Nat.le_trans h.size k.size, fun i hi hy => (k.block i (Nat.lt_of_lt_of_le hi h.size) (hz i hi hy)).trans (h.block i hi hy)⟩
theorem ExtX.below {w w' : World} (h : Ext w w') : Below w.heap.size w w' := ⟨h.os, h.tape, h.output, h.size, fun k hk => h.block k hk rfl⟩
theorem Ext.below_of {Y : Nat → Bool} {w w' : World} {B : Nat} (h : ExtX Y w w') (hB : B ≤ w.heap.size) (hY : ∀ k, k < B → Y k = false) : Below B w w' :=
  ⟨h.os, h.tape, h.output, h.size, fun k hk => h.block k (by omega) (hY k hk)⟩

/-- What is read outside of the blocks in X. -/
def mk (X : Nat → Bool) (w : World) : Mem := fun a => if X a.block then none else w.cell? a
theorem mk_cell {X : Nat → Bool} {w : World} {a : Addr} {u : Value} (h : mk X w a = some u) : w.cell? a = some u := by
  unfold mk at h; split at h
  · simp at h
  · exact h
theorem mk_le (X : Nat → Bool) (w : World) : Le (mk X w) w.cell? := fun _ _ h => mk_cell h
theorem mk_noY (w : World) : mk noY w = w.cell? := by funext a; simp [mk, noY]
theorem mk_mono {X Y : Nat → Bool} {w w' : World} (h : ExtX Y w w') (hY : ∀ k, Y k = true → X k = true) : Le (mk X w) (mk X w') := by
  intro a u e
  have hc := mk_cell e
  have hl := cell_lt hc
  unfold mk at e ⊢
  by_cases hx : X a.block = true
  · simp [hx] at e
  · rw [if_neg hx]
    have hy : Y a.block = false := by
      cases hh : Y a.block
      · rfl
      · exact absurd (hY _ hh) hx
    rw [World.cell?_of_block (h.block a.block hl hy)]; exact hc
theorem mk_ext {X : Nat → Bool} {w w' : World} (h : Ext w w') : Le (mk X w) (mk X w') := mk_mono h (fun k hk => by simp [noY] at hk)
theorem mk_sub {X Z : Nat → Bool} {w : World} (h : ∀ k, k < w.heap.size → X k = true → Z k = true) : Le (mk Z w) (mk X w) := by
  intro a u e
  have hl := cell_lt (mk_cell e)
  have hc := mk_cell e
  unfold mk at e ⊢
  by_cases hx : X a.block = true
  · simp [h _ hl hx] at e
  · rw [if_neg hx]; exact hc
/-- From one mask to another, over a step: what the second hides is new, or was hidden. -/
theorem mk_over {X Y Z : Nat → Bool} {w w' : World} (h : ExtX Y w w') (hY : ∀ k, k < w.heap.size → Y k = true → X k = true) (hZ : ∀ k, k < w.heap.size → Z k = true → X k = true) : Le (mk X w) (mk Z w') := by
  intro a u e
  have hc := mk_cell e
  have hl := cell_lt hc
  unfold mk at e ⊢
  by_cases hx : X a.block = true
  · simp [hx] at e
  · have hz : ¬ Z a.block = true := fun hz => hx (hZ _ hl hz)
    rw [if_neg hz]
    have hy : Y a.block = false := by
      cases hh : Y a.block
      · rfl
      · exact absurd (hY _ hl hh) hx
    rw [World.cell?_of_block (h.block a.block hl hy)]; exact hc
theorem ExtX.cell {w w' : World} (h : Ext w w') {a : Addr} {u : Value} (hc : w.cell? a = some u) : w'.cell? a = some u := by
  have := mk_ext (X := noY) h a u (by rw [mk_noY]; exact hc)
  rwa [mk_noY] at this
theorem ExtX.cellY {Y : Nat → Bool} {w w' : World} (h : ExtX Y w w') {a : Addr} {u : Value} (hc : w.cell? a = some u) (hy : Y a.block = false) : w'.cell? a = some u := by
  rw [World.cell?_of_block (h.block a.block (cell_lt hc) hy)]; exact hc
theorem cell_new {w : World} {cs : Array Value} {e : TypeId} (j : Nat) {u : Value} (h : cs[j]? = some u) : (w.alloc (.cells cs e)).cell? ⟨w.heap.size, j, none⟩ = some u := by
  unfold World.cell?
  rw [heap_alloc_new w]
  simpa using h
theorem mk_drew (X : Nat → Bool) (w : World) : mk X w.drew = mk X w := rfl
theorem mk_drewN (X : Nat → Bool) (w : World) (n : Nat) : mk X (w.drewN n) = mk X w := rfl

/-- The block of a slice. -/
def ob (ao : Option Addr) : Nat → Bool := fun k => match ao with | some a => a.block == k | none => false
def un (X : Nat → Bool) (ao : Option Addr) : Nat → Bool := fun k => X k || ob ao k
theorem un_left {X : Nat → Bool} {ao : Option Addr} {k : Nat} (h : X k = true) : un X ao k = true := by simp [un, h]
theorem un_right {X : Nat → Bool} {ao : Option Addr} {k : Nat} (h : ob ao k = true) : un X ao k = true := by simp [un, h]
theorem un_false {X : Nat → Bool} {ao : Option Addr} {k : Nat} (h : un X ao k = false) : X k = false ∧ ob ao k = false := by simpa [un] using h

/-- An address k cells behind a slice's head. -/
def adr (ao : Option Addr) (k : Nat) : Addr := ⟨(ao.getD ⟨0, 0, none⟩).block, (ao.getD ⟨0, 0, none⟩).off + k, none⟩
@[go_sem] theorem adr_add (ao : Option Addr) (k j : Nat) : (adr ao k).add j = adr ao (k + j) := by
  unfold adr; rw [Addr.add_lit, Nat.add_assoc]
theorem adr_some (b o k : Nat) : adr (some ⟨b, o, none⟩) k = ⟨b, o + k, none⟩ := rfl

/-- Where there is an element, there is an address. -/
def Hd (ao : Option Addr) (n : Nat) : Prop := 0 < n → ∃ b off, ao = some ⟨b, off, none⟩

/-- A slice at 'ao' whose elements (sz cells each) read as the list l, each by R. -/
def Sl {α : Type} (R : Mem → Value → α → Prop) (sz : Nat) (h : Mem) (ao : Option Addr) (l : List α) : Prop :=
  Hd ao l.length ∧ ∀ i (hi : i < l.length), ∃ u : Value, u.cells.size = sz ∧ (∀ j (hj : j < u.cells.size), h (adr ao (i * sz + j)) = some u.cells[j]) ∧ R h u l[i]

def Mono {α : Type} (R : Mem → Value → α → Prop) : Prop := ∀ (h h' : Mem) (u : Value) (x : α), Le h h' → R h u x → R h' u x
/-- What R reads lies in one cell. -/
def OneCell {α : Type} (R : Mem → Value → α → Prop) : Prop := ∀ (h : Mem) (u : Value) (x : α), R h u x → u.cells = #[u]

theorem Sl.hd {α : Type} {R : Mem → Value → α → Prop} {sz : Nat} {h : Mem} {ao : Option Addr} {l : List α} (s : Sl R sz h ao l) : Hd ao l.length := s.1
theorem Sl.mono {α : Type} {R : Mem → Value → α → Prop} (hR : Mono R) {sz : Nat} {h h' : Mem} {ao : Option Addr} {l : List α} (hl : Le h h') (s : Sl R sz h ao l) : Sl R sz h' ao l := by
  refine ⟨s.1, fun i hi => ?_⟩
  obtain ⟨u, h1, h2, h3⟩ := s.2 i hi
  exact ⟨u, h1, fun j hj => hl _ _ (h2 j hj), hR _ _ _ _ hl h3⟩
theorem Sl.nil {α : Type} (R : Mem → Value → α → Prop) (sz : Nat) (h : Mem) (ao : Option Addr) : Sl R sz h ao [] :=
  ⟨fun h => by simp at h, fun i hi => by simp at hi⟩
theorem Sl.take {α : Type} {R : Mem → Value → α → Prop} {sz : Nat} {h : Mem} {ao : Option Addr} {l : List α} (s : Sl R sz h ao l) (n : Nat) : Sl R sz h ao (l.take n) := by
  refine ⟨fun hn => s.1 (by simp at hn; omega), fun i hi => ?_⟩
  have hi' : i < l.length := by simp at hi; omega
  obtain ⟨u, h1, h2, h3⟩ := s.2 i hi'
  exact ⟨u, h1, h2, by simpa using h3⟩

/-- A slice value that reads as a list. -/
def SlV {α : Type} (R : Mem → Value → α → Prop) (sz : Nat) (h : Mem) (v : Value) (l : List α) : Prop :=
  ∃ ao cap, v = .slice ao l.length cap ∧ l.length ≤ cap ∧ Sl R sz h ao l
theorem SlV.mono {α : Type} {R : Mem → Value → α → Prop} (hR : Mono R) (sz : Nat) : Mono (SlV R sz) := by
  rintro h h' u x hl ⟨ao, cap, rfl, hc, hs⟩
  exact ⟨ao, cap, rfl, hc, hs.mono hR hl⟩
theorem SlV.one {α : Type} {R : Mem → Value → α → Prop} {sz : Nat} : OneCell (SlV R sz) := by
  rintro h u x ⟨ao, cap, rfl, _⟩; rfl
theorem SlV.zero {α : Type} (R : Mem → Value → α → Prop) (sz : Nat) (h : Mem) : SlV R sz h (.slice none 0 0) [] :=
  ⟨none, 0, rfl, Nat.le_refl _, Sl.nil _ _ _ _⟩

/-- A natural number in a cell of kind k. -/
def NatIn (k : IntKind) : Mem → Value → Nat → Prop := fun _ u x => u = .int k (x : Int)
theorem NatIn.mono (k : IntKind) : Mono (NatIn k) := fun _ _ _ _ _ h => h
theorem NatIn.one (k : IntKind) : OneCell (NatIn k) := by rintro h u x rfl; rfl
/-- An integer in a cell of kind k. -/
def IntIn (k : IntKind) : Mem → Value → Int → Prop := fun _ u x => u = .int k x
theorem IntIn.mono (k : IntKind) : Mono (IntIn k) := fun _ _ _ _ _ h => h
theorem IntIn.one (k : IntKind) : OneCell (IntIn k) := by rintro h u x rfl; rfl

/-- The one cell of an element. -/
theorem Sl.cell {α : Type} {R : Mem → Value → α → Prop} {h : Mem} {ao : Option Addr} {l : List α} (s : Sl R 1 h ao l) (h1 : OneCell R) (i : Nat) (hi : i < l.length) :
    ∃ u, h (adr ao i) = some u ∧ R h u l[i] := by
  obtain ⟨u, _, h2, h3⟩ := s.2 i hi
  have hc := h1 _ _ _ h3
  have h4 := h2 0 (by rw [hc]; exact Nat.one_pos)
  refine ⟨u, ?_, h3⟩
  rw [Nat.mul_one, Nat.add_zero] at h4
  rw [h4]
  simp [hc]
theorem Sl.nat {k : IntKind} {X : Nat → Bool} {w : World} {ao : Option Addr} {l : List Nat} (s : Sl (NatIn k) 1 (mk X w) ao l) (i : Nat) (hi : i < l.length) : w.cell? (adr ao i) = some (.int k (l[i] : Int)) := by
  obtain ⟨u, h1, rfl⟩ := s.cell (NatIn.one k) i hi
  exact mk_cell h1
theorem Sl.int {k : IntKind} {X : Nat → Bool} {w : World} {ao : Option Addr} {l : List Int} (s : Sl (IntIn k) 1 (mk X w) ao l) (i : Nat) (hi : i < l.length) : w.cell? (adr ao i) = some (.int k l[i]) := by
  obtain ⟨u, h1, rfl⟩ := s.cell (IntIn.one k) i hi
  exact mk_cell h1
theorem Sl.slice {α : Type} {R : Mem → Value → α → Prop} {sz : Nat} {X : Nat → Bool} {w : World} {ao : Option Addr} {l : List (List α)} (s : Sl (SlV R sz) 1 (mk X w) ao l) (i : Nat) (hi : i < l.length) :
    ∃ a c, w.cell? (adr ao i) = some (.slice a l[i].length c) ∧ l[i].length ≤ c ∧ Sl R sz (mk X w) a l[i] := by
  obtain ⟨u, h1, a, c, rfl, h2, h3⟩ := s.cell SlV.one i hi
  exact ⟨a, c, mk_cell h1, h2, h3⟩

/-- A slice type of the program: its element's type, cells, bytes, zero. -/
structure SliceT (P : Program) (t e sz by_ : Nat) (z : Value) : Prop where
  und : P.underlying t = some (.slice e)
  info : (P.info? e).map (fun i => (i.zero, i.size, i.bytes)) = some (some z, sz, by_)

/-- A type of the program: its cells. -/
def TyI (P : Program) (t sz : Nat) : Prop := ∃ ti, P.info? t = some ti ∧ ti.size = sz

section
variable {P : Program} {ops : Array Oper} {Q : Exit → Act → World → Prop} {rest : List Oper} {a : Act} {w : World}

theorem run_indexAt_adr {t e sz by_ : Nat} {z : Value} (T : SliceT P t e sz by_ z) (ao : Option Addr) (len cap : Nat) (k : IntKind) (n : Nat)
    (hb : Hd ao len) (hn : n < len) (w : World) :
    (Instr.indexAt t (.slice ao len cap) (.int k (n : Int))).run P w = .ok (.pointer (some (adr ao (n * sz)))) w := by
  obtain ⟨i, hi, hz, hsz, hby⟩ := info_parts T.info
  obtain ⟨b, off, rfl⟩ := hb (by omega)
  subst hsz
  have e : (⟨b, off, none⟩ : Addr).add (n * i.size) = ⟨b, off + n * i.size, none⟩ := Addr.add_lit _ _ _
  simp [Instr.indexAt, asIntOf, Sem.run_bind, run_underlying T.und, Result.andThen, hn, sizeOf, typeInfo, hi, adr, e]

theorem run_ix1 {t e by_ : Nat} {z : Value} (T : SliceT P t e 1 by_ z) (ao : Option Addr) (len cap : Nat) (k : IntKind) (n : Nat) {m : Int} (hb : Hd ao len) (hn : n < len) (hm : m = (n : Int)) (w : World) :
    (Instr.indexAt t (.slice ao len cap) (.int k m)).run P w = .ok (.pointer (some (adr ao n))) w := by
  subst hm
  rw [run_indexAt_adr (P := P) T ao len cap k n hb hn w, Nat.mul_one]

/-- The walk stands at an index of a slice whose elements are one cell each. -/
theorem up_ix1 {o : Oper} {K : Act → World → Prop} {t e by_ : Nat} {z : Value} (T : SliceT P t e 1 by_ z) {ao : Option Addr} {len cap : Nat} {k : IntKind} {m : Int}
    (h0 : 0 ≤ m ∧ m < (len : Int)) (hb : Hd ao len) (h : K (a.put o.dst (.pointer (some (adr ao m.toNat)))) w) :
    o.upon P a K Q ((Sem.run P (Instr.indexAt t (.slice ao len cap) (.int k m)) w).andThen fun v w => .ok (.value v) w) := by
  obtain ⟨n, rfl⟩ := Int.eq_ofNat_of_zero_le h0.1
  rw [run_indexAt_adr (P := P) T ao len cap k n hb (by omega) w, Nat.mul_one]
  exact h
/-- The walk stands at an index of a slice whose elements are some cells each. -/
theorem up_ixn {o : Oper} {K : Act → World → Prop} {t e sz by_ : Nat} {z : Value} (T : SliceT P t e sz by_ z) {ao : Option Addr} {len cap : Nat} {k : IntKind} {m : Int}
    (h0 : 0 ≤ m ∧ m < (len : Int)) (hb : Hd ao len) (h : K (a.put o.dst (.pointer (some (adr ao (m.toNat * sz))))) w) :
    o.upon P a K Q ((Sem.run P (Instr.indexAt t (.slice ao len cap) (.int k m)) w).andThen fun v w => .ok (.value v) w) := by
  obtain ⟨n, rfl⟩ := Int.eq_ofNat_of_zero_le h0.1
  rw [run_indexAt_adr (P := P) T ao len cap k n hb (by omega) w]
  exact h
end
end Go.Rep
