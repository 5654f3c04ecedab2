/- Readings of Go values as lists: what a slice's cells hold, what a call leaves as it was; rules for the walk over them. Conditions: none. Slices that a call has made itself, read as lists: make, append, store, and the rules of the walk for them. Conditions: none. Steps of the walk over lists in slices: append, make, store, a slice of a slice, loads. Conditions: none. -/
import Derived.WalkKit
import Derived.WalkSpells
import Derived.WalkLawsBesides
import Derived.Deep.DeepCutAuto
import Derived.Laws.CopyOwn
namespace Go.Rep
open Go.RowKit

/-- The length in a slot: for a loop's measure. -/
def lenOf : Value → Nat | .slice _ n _ => n | _ => 0
theorem hid {p : Prop} (h : p) : Hid p := h
theorem ret_val {a b : Value} (h : a = b) : Ending.returned a = .returned b := by rw [h]
theorem ret_slice {a : Option Addr} {n m c : Nat} (h : n = m) : Ending.returned (.slice a n c) = .returned (.slice a m c) := by rw [h]
theorem ret_int {k : IntKind} {a b : Int} (h : a = b) : Ending.returned (.int k a) = .returned (.int k b) := by rw [h]
theorem ret_bool {a b : Bool} (h : a = b) : Ending.returned (.bool a) = .returned (.bool b) := by rw [h]

theorem cast_bne0 (n : Nat) : ((n : Int) != 0) = (n != 0) := by rw [Bool.eq_iff_iff]; simp
theorem cast_beq0 (n : Nat) : ((n : Int) == 0) = (n == 0) := by rw [Bool.eq_iff_iff]; simp
theorem cast_mod32 (n : Nat) (h : n < 4294967296) : (n : Int) % 4294967296 = n := by omega
theorem beqF {a b : Int} (h : a ≠ b) : (a == b) = false := by simpa using h
theorem bneF {a b : Int} (h : a = b) : (a != b) = false := by simpa using h
theorem beqT {a b : Int} (h : a = b) : (a == b) = true := by simpa using h
theorem bneT {a b : Int} (h : a ≠ b) : (a != b) = true := by simpa using h

/-- What is read at an address. -/
abbrev Mem := Addr → Option Value

/-- All that reads in h reads the same in h'. -/
def Le (h h' : Mem) : Prop := ∀ a u, h a = some u → h' a = some u
theorem Le.refl (h : Mem) : Le h h := fun _ _ x => x
theorem Le.trans {a b c : Mem} (h : Le a b) (k : Le b c) : Le a c := fun x u e => k x u (h x u e)

theorem cell_lt {w : World} {a : Addr} {u : Value} (h : w.cell? a = some u) : a.block < w.heap.size := by
  unfold World.cell? at h
  by_cases hl : a.block < w.heap.size
  · exact hl
  · rw [Array.getElem?_eq_none (by omega)] at h; simp at h

/-- Nothing that was there has turned, but for the blocks in Y. -/
structure ExtX (Y : Nat → Bool) (w w' : World) : Prop where
  os : w'.os = w.os
  tape : w'.tape = w.tape
  output : w'.output = w.output
  size : w.heap.size ≤ w'.heap.size
  block : ∀ k, k < w.heap.size → Y k = false → w'.heap[k]? = w.heap[k]?

def noY : Nat → Bool := fun _ => false
theorem noY_eq (k : Nat) : noY k = false := rfl
/-- Nothing that was there has turned. -/
abbrev Ext (w w' : World) : Prop := ExtX noY w w'
theorem ExtX.refl {Y : Nat → Bool} (w : World) : ExtX Y w w := ⟨rfl, rfl, rfl, Nat.le_refl _, fun _ _ _ => rfl⟩
theorem ExtX.trans {Y : Nat → Bool} {a b c : World} (h : ExtX Y a b) (k : ExtX Y b c) : ExtX Y a c :=
  ⟨k.os.trans h.os, k.tape.trans h.tape, k.output.trans h.output, Nat.le_trans h.size k.size, fun i hi hy => (k.block i (Nat.lt_of_lt_of_le hi h.size) hy).trans (h.block i hi hy)⟩
theorem ExtX.weaken {Y Z : Nat → Bool} {a b : World} (h : ExtX Y a b) (hz : ∀ k, k < a.heap.size → Z k = false → Y k = false) : ExtX Z a b :=
  ⟨h.os, h.tape, h.output, h.size, fun k hk hy => h.block k hk (hz k hk hy)⟩
theorem ExtX.of {Y : Nat → Bool} {a b : World} (h : Ext a b) : ExtX Y a b := h.weaken fun _ _ _ => rfl
theorem ExtX.alloc {Y : Nat → Bool} {a w : World} (h : ExtX Y a w) (o : Obj) : ExtX Y a (w.alloc o) :=
  h.trans ⟨rfl, rfl, rfl, by simp, fun k hk _ => Below.heap_alloc _ _ _ hk⟩
theorem ExtX.drew {Y : Nat → Bool} {a w : World} (h : ExtX Y a w) : ExtX Y a w.drew := ⟨h.os, h.tape, h.output, h.size, h.block⟩
theorem ExtX.drewN {Y : Nat → Bool} {a w : World} (h : ExtX Y a w) (n : Nat) : ExtX Y a (w.drewN n) := ⟨h.os, h.tape, h.output, h.size, h.block⟩
/-- A step that turns only blocks that are new, or in Y. -/
theorem ExtX.then_ {Y Z : Nat → Bool} {a b c : World} (h : ExtX Y a b) (k : ExtX Z b c) (hz : ∀ i, i < a.heap.size → Y i = false → Z i = false) : ExtX Y a c :=
  ⟨k.os.trans h.os, k.tape.trans h.tape, k.output.trans h.output, Nat.le_trans h.size k.size, fun i hi hy => (k.block i (Nat.lt_of_lt_of_le hi h.size) (hz i hi hy)).trans (h.block i hi hy)⟩
theorem ExtX.below {w w' : World} (h : Ext w w') : Below w.heap.size w w' := ⟨h.os, h.tape, h.output, h.size, fun k hk => h.block k hk rfl⟩
theorem Ext.below_of {Y : Nat → Bool} {w w' : World} {B : Nat} (h : ExtX Y w w') (hB : B ≤ w.heap.size) (hY : ∀ k, k < B → Y k = false) : Below B w w' :=
  ⟨h.os, h.tape, h.output, h.size, fun k hk => h.block k (by omega) (hY k hk)⟩

/-- What is read outside of the blocks in X. -/
def mk (X : Nat → Bool) (w : World) : Mem := fun a => if X a.block then none else w.cell? a
theorem mk_cell {X : Nat → Bool} {w : World} {a : Addr} {u : Value} (h : mk X w a = some u) : w.cell? a = some u := by
  unfold mk at h; split at h
  · simp at h
  · exact h
theorem mk_le (X : Nat → Bool) (w : World) : Le (mk X w) w.cell? := fun _ _ h => mk_cell h
theorem mk_noY (w : World) : mk noY w = w.cell? := by funext a; simp [mk, noY]
theorem mk_mono {X Y : Nat → Bool} {w w' : World} (h : ExtX Y w w') (hY : ∀ k, Y k = true → X k = true) : Le (mk X w) (mk X w') := by
  intro a u e
  have hc := mk_cell e
  have hl := cell_lt hc
  unfold mk at e ⊢
  by_cases hx : X a.block = true
  · simp [hx] at e
  · rw [if_neg hx]
    have hy : Y a.block = false := by
      cases hh : Y a.block
      · rfl
      · exact absurd (hY _ hh) hx
    rw [World.cell?_of_block (h.block a.block hl hy)]; exact hc
theorem mk_ext {X : Nat → Bool} {w w' : World} (h : Ext w w') : Le (mk X w) (mk X w') := mk_mono h (fun k hk => by simp [noY] at hk)
theorem mk_sub {X Z : Nat → Bool} {w : World} (h : ∀ k, k < w.heap.size → X k = true → Z k = true) : Le (mk Z w) (mk X w) := by
  intro a u e
  have hl := cell_lt (mk_cell e)
  have hc := mk_cell e
  unfold mk at e ⊢
  by_cases hx : X a.block = true
  · simp [h _ hl hx] at e
  · rw [if_neg hx]; exact hc
/-- From one mask to another, over a step: what the second hides is new, or was hidden. -/
theorem mk_over {X Y Z : Nat → Bool} {w w' : World} (h : ExtX Y w w') (hY : ∀ k, k < w.heap.size → Y k = true → X k = true) (hZ : ∀ k, k < w.heap.size → Z k = true → X k = true) : Le (mk X w) (mk Z w') := by
  intro a u e
  have hc := mk_cell e
  have hl := cell_lt hc
  unfold mk at e ⊢
  by_cases hx : X a.block = true
  · simp [hx] at e
  · have hz : ¬ Z a.block = true := fun hz => hx (hZ _ hl hz)
    rw [if_neg hz]
    have hy : Y a.block = false := by
      cases hh : Y a.block
      · rfl
      · exact absurd (hY _ hl hh) hx
    rw [World.cell?_of_block (h.block a.block hl hy)]; exact hc
theorem ExtX.cell {w w' : World} (h : Ext w w') {a : Addr} {u : Value} (hc : w.cell? a = some u) : w'.cell? a = some u := by
  have := mk_ext (X := noY) h a u (by rw [mk_noY]; exact hc)
  rwa [mk_noY] at this
theorem ExtX.cellY {Y : Nat → Bool} {w w' : World} (h : ExtX Y w w') {a : Addr} {u : Value} (hc : w.cell? a = some u) (hy : Y a.block = false) : w'.cell? a = some u := by
  rw [World.cell?_of_block (h.block a.block (cell_lt hc) hy)]; exact hc
theorem cell_new {w : World} {cs : Array Value} {e : TypeId} (j : Nat) {u : Value} (h : cs[j]? = some u) : (w.alloc (.cells cs e)).cell? ⟨w.heap.size, j, none⟩ = some u := by
  unfold World.cell?
  rw [heap_alloc_new w]
  simpa using h
theorem mk_drew (X : Nat → Bool) (w : World) : mk X w.drew = mk X w := rfl
theorem mk_drewN (X : Nat → Bool) (w : World) (n : Nat) : mk X (w.drewN n) = mk X w := rfl

/-- The block of a slice. -/
def ob (ao : Option Addr) : Nat → Bool := fun k => match ao with | some a => a.block == k | none => false
def un (X : Nat → Bool) (ao : Option Addr) : Nat → Bool := fun k => X k || ob ao k
theorem un_left {X : Nat → Bool} {ao : Option Addr} {k : Nat} (h : X k = true) : un X ao k = true := by simp [un, h]
theorem un_right {X : Nat → Bool} {ao : Option Addr} {k : Nat} (h : ob ao k = true) : un X ao k = true := by simp [un, h]
theorem un_false {X : Nat → Bool} {ao : Option Addr} {k : Nat} (h : un X ao k = false) : X k = false ∧ ob ao k = false := by simpa [un] using h

/-- An address k cells behind a slice's head. -/
def adr (ao : Option Addr) (k : Nat) : Addr := ⟨(ao.getD ⟨0, 0, none⟩).block, (ao.getD ⟨0, 0, none⟩).off + k, none⟩
@[go_sem] theorem adr_add (ao : Option Addr) (k j : Nat) : (adr ao k).add j = adr ao (k + j) := by
  unfold adr; rw [Addr.add_lit, Nat.add_assoc]
theorem adr_some (b o k : Nat) : adr (some ⟨b, o, none⟩) k = ⟨b, o + k, none⟩ := rfl

/-- Where there is an element, there is an address. -/
def Hd (ao : Option Addr) (n : Nat) : Prop := 0 < n → ∃ b off, ao = some ⟨b, off, none⟩

/-- A slice at 'ao' whose elements (sz cells each) read as the list l, each by R. -/
def Sl {α : Type} (R : Mem → Value → α → Prop) (sz : Nat) (h : Mem) (ao : Option Addr) (l : List α) : Prop :=
  Hd ao l.length ∧ ∀ i (hi : i < l.length), ∃ u : Value, u.cells.size = sz ∧ (∀ j (hj : j < u.cells.size), h (adr ao (i * sz + j)) = some u.cells[j]) ∧ R h u l[i]

def Mono {α : Type} (R : Mem → Value → α → Prop) : Prop := ∀ (h h' : Mem) (u : Value) (x : α), Le h h' → R h u x → R h' u x
/-- What R reads lies in one cell. -/
def OneCell {α : Type} (R : Mem → Value → α → Prop) : Prop := ∀ (h : Mem) (u : Value) (x : α), R h u x → u.cells = #[u]

theorem Sl.hd {α : Type} {R : Mem → Value → α → Prop} {sz : Nat} {h : Mem} {ao : Option Addr} {l : List α} (s : Sl R sz h ao l) : Hd ao l.length := s.1
theorem Sl.mono {α : Type} {R : Mem → Value → α → Prop} (hR : Mono R) {sz : Nat} {h h' : Mem} {ao : Option Addr} {l : List α} (hl : Le h h') (s : Sl R sz h ao l) : Sl R sz h' ao l := by
  refine ⟨s.1, fun i hi => ?_⟩
  obtain ⟨u, h1, h2, h3⟩ := s.2 i hi
  exact ⟨u, h1, fun j hj => hl _ _ (h2 j hj), hR _ _ _ _ hl h3⟩
theorem Sl.nil {α : Type} (R : Mem → Value → α → Prop) (sz : Nat) (h : Mem) (ao : Option Addr) : Sl R sz h ao [] :=
  ⟨fun h => by simp at h, fun i hi => by simp at hi⟩
theorem Sl.take {α : Type} {R : Mem → Value → α → Prop} {sz : Nat} {h : Mem} {ao : Option Addr} {l : List α} (s : Sl R sz h ao l) (n : Nat) : Sl R sz h ao (l.take n) := by
  refine ⟨fun hn => s.1 (by simp at hn; omega), fun i hi => ?_⟩
  have hi' : i < l.length := by simp at hi; omega
  obtain ⟨u, h1, h2, h3⟩ := s.2 i hi'
  exact ⟨u, h1, h2, by simpa using h3⟩

/-- A slice value that reads as a list. -/
def SlV {α : Type} (R : Mem → Value → α → Prop) (sz : Nat) (h : Mem) (v : Value) (l : List α) : Prop :=
  ∃ ao cap, v = .slice ao l.length cap ∧ l.length ≤ cap ∧ Sl R sz h ao l
theorem SlV.mono {α : Type} {R : Mem → Value → α → Prop} (hR : Mono R) (sz : Nat) : Mono (SlV R sz) := by
  rintro h h' u x hl ⟨ao, cap, rfl, hc, hs⟩
  exact ⟨ao, cap, rfl, hc, hs.mono hR hl⟩
theorem SlV.one {α : Type} {R : Mem → Value → α → Prop} {sz : Nat} : OneCell (SlV R sz) := by
  rintro h u x ⟨ao, cap, rfl, _⟩; rfl
theorem SlV.zero {α : Type} (R : Mem → Value → α → Prop) (sz : Nat) (h : Mem) : SlV R sz h (.slice none 0 0) [] :=
  ⟨none, 0, rfl, Nat.le_refl _, Sl.nil _ _ _ _⟩

/-- A natural number in a cell of kind k. -/
def NatIn (k : IntKind) : Mem → Value → Nat → Prop := fun _ u x => u = .int k (x : Int)
theorem NatIn.mono (k : IntKind) : Mono (NatIn k) := fun _ _ _ _ _ h => h
theorem NatIn.one (k : IntKind) : OneCell (NatIn k) := by rintro h u x rfl; rfl
/-- An integer in a cell of kind k. -/
def IntIn (k : IntKind) : Mem → Value → Int → Prop := fun _ u x => u = .int k x
theorem IntIn.mono (k : IntKind) : Mono (IntIn k) := fun _ _ _ _ _ h => h
theorem IntIn.one (k : IntKind) : OneCell (IntIn k) := by rintro h u x rfl; rfl

/-- The one cell of an element. -/
theorem Sl.cell {α : Type} {R : Mem → Value → α → Prop} {h : Mem} {ao : Option Addr} {l : List α} (s : Sl R 1 h ao l) (h1 : OneCell R) (i : Nat) (hi : i < l.length) :
    ∃ u, h (adr ao i) = some u ∧ R h u l[i] := by
  obtain ⟨u, _, h2, h3⟩ := s.2 i hi
  have hc := h1 _ _ _ h3
  have h4 := h2 0 (by rw [hc]; exact Nat.one_pos)
  refine ⟨u, ?_, h3⟩
  rw [Nat.mul_one, Nat.add_zero] at h4
  rw [h4]
  simp [hc]
theorem Sl.nat {k : IntKind} {X : Nat → Bool} {w : World} {ao : Option Addr} {l : List Nat} (s : Sl (NatIn k) 1 (mk X w) ao l) (i : Nat) (hi : i < l.length) : w.cell? (adr ao i) = some (.int k (l[i] : Int)) := by
  obtain ⟨u, h1, rfl⟩ := s.cell (NatIn.one k) i hi
  exact mk_cell h1
theorem Sl.int {k : IntKind} {X : Nat → Bool} {w : World} {ao : Option Addr} {l : List Int} (s : Sl (IntIn k) 1 (mk X w) ao l) (i : Nat) (hi : i < l.length) : w.cell? (adr ao i) = some (.int k l[i]) := by
  obtain ⟨u, h1, rfl⟩ := s.cell (IntIn.one k) i hi
  exact mk_cell h1
theorem Sl.slice {α : Type} {R : Mem → Value → α → Prop} {sz : Nat} {X : Nat → Bool} {w : World} {ao : Option Addr} {l : List (List α)} (s : Sl (SlV R sz) 1 (mk X w) ao l) (i : Nat) (hi : i < l.length) :
    ∃ a c, w.cell? (adr ao i) = some (.slice a l[i].length c) ∧ l[i].length ≤ c ∧ Sl R sz (mk X w) a l[i] := by
  obtain ⟨u, h1, a, c, rfl, h2, h3⟩ := s.cell SlV.one i hi
  exact ⟨a, c, mk_cell h1, h2, h3⟩

/-- A slice type of the program: its element's type, cells, bytes, zero. -/
structure SliceT (P : Program) (t e sz by_ : Nat) (z : Value) : Prop where
  und : P.underlying t = some (.slice e)
  info : (P.info? e).map (fun i => (i.zero, i.size, i.bytes)) = some (some z, sz, by_)

/-- A type of the program: its cells. -/
def TyI (P : Program) (t sz : Nat) : Prop := ∃ ti, P.info? t = some ti ∧ ti.size = sz

section
variable {P : Program} {ops : Array Oper} {Q : Exit → Act → World → Prop} {rest : List Oper} {a : Act} {w : World}

theorem run_indexAt_adr {t e sz by_ : Nat} {z : Value} (T : SliceT P t e sz by_ z) (ao : Option Addr) (len cap : Nat) (k : IntKind) (n : Nat)
    (hb : Hd ao len) (hn : n < len) (w : World) :
    (Instr.indexAt t (.slice ao len cap) (.int k (n : Int))).run P w = .ok (.pointer (some (adr ao (n * sz)))) w := by
  obtain ⟨i, hi, hz, hsz, hby⟩ := info_parts T.info
  obtain ⟨b, off, rfl⟩ := hb (by omega)
  subst hsz
  have e : (⟨b, off, none⟩ : Addr).add (n * i.size) = ⟨b, off + n * i.size, none⟩ := Addr.add_lit _ _ _
  simp [Instr.indexAt, asIntOf, Sem.run_bind, run_underlying T.und, Result.andThen, hn, sizeOf, typeInfo, hi, adr, e]

theorem run_ix1 {t e by_ : Nat} {z : Value} (T : SliceT P t e 1 by_ z) (ao : Option Addr) (len cap : Nat) (k : IntKind) (n : Nat) {m : Int} (hb : Hd ao len) (hn : n < len) (hm : m = (n : Int)) (w : World) :
    (Instr.indexAt t (.slice ao len cap) (.int k m)).run P w = .ok (.pointer (some (adr ao n))) w := by
  subst hm
  rw [run_indexAt_adr (P := P) T ao len cap k n hb hn w, Nat.mul_one]

/-- The walk stands at an index of a slice whose elements are one cell each. -/
theorem up_ix1 {o : Oper} {K : Act → World → Prop} {t e by_ : Nat} {z : Value} (T : SliceT P t e 1 by_ z) {ao : Option Addr} {len cap : Nat} {k : IntKind} {m : Int}
    (h0 : 0 ≤ m ∧ m < (len : Int)) (hb : Hd ao len) (h : K (a.put o.dst (.pointer (some (adr ao m.toNat)))) w) :
    o.upon P a K Q ((Sem.run P (Instr.indexAt t (.slice ao len cap) (.int k m)) w).andThen fun v w => .ok (.value v) w) := by
  obtain ⟨n, rfl⟩ := Int.eq_ofNat_of_zero_le h0.1
  rw [run_indexAt_adr (P := P) T ao len cap k n hb (by omega) w, Nat.mul_one]
  exact h
/-- The walk stands at an index of a slice whose elements are some cells each. -/
theorem up_ixn {o : Oper} {K : Act → World → Prop} {t e sz by_ : Nat} {z : Value} (T : SliceT P t e sz by_ z) {ao : Option Addr} {len cap : Nat} {k : IntKind} {m : Int}
    (h0 : 0 ≤ m ∧ m < (len : Int)) (hb : Hd ao len) (h : K (a.put o.dst (.pointer (some (adr ao (m.toNat * sz))))) w) :
    o.upon P a K Q ((Sem.run P (Instr.indexAt t (.slice ao len cap) (.int k m)) w).andThen fun v w => .ok (.value v) w) := by
  obtain ⟨n, rfl⟩ := Int.eq_ofNat_of_zero_le h0.1
  rw [run_indexAt_adr (P := P) T ao len cap k n hb (by omega) w]
  exact h
end
end Go.Rep

namespace Go.Rep
open Go.RowKit

def cellsL (u : Value) : List Value := u.cells.toList

theorem flat_length {sz : Nat} : ∀ (us : List Value), (∀ u ∈ us, u.cells.size = sz) → (us.flatMap cellsL).length = us.length * sz
  | [], _ => by simp
  | u :: us, h => by
    rw [List.flatMap_cons, List.length_append, flat_length us (fun x hx => h x (List.mem_cons_of_mem _ hx)), List.length_cons, Nat.succ_mul]
    have : (cellsL u).length = sz := by simp [cellsL, h u (List.mem_cons_self ..)]
    omega

theorem flat_get {sz : Nat} : ∀ (us : List Value) (i j : Nat) (hi : i < us.length), (∀ u ∈ us, u.cells.size = sz) → j < sz → (us.flatMap cellsL)[i * sz + j]? = (cellsL us[i])[j]?
  | u :: us, i, j, hi, h, hj => by
    have hu : (cellsL u).length = sz := by simp [cellsL, h u (List.mem_cons_self ..)]
    rw [List.flatMap_cons]
    match i with
    | 0 =>
      simp only [Nat.zero_mul, Nat.zero_add, List.getElem_cons_zero]
      rw [List.getElem?_append_left (by omega)]
    | i + 1 =>
      rw [List.getElem?_append_right (by rw [hu, Nat.succ_mul]; omega), hu]
      have e : (i + 1) * sz + j - sz = i * sz + j := by rw [Nat.succ_mul]; omega
      rw [e]
      simpa using flat_get us i j (by simpa using hi) (fun x hx => h x (List.mem_cons_of_mem _ hx)) hj

theorem flat_set {sz : Nat} : ∀ (us : List Value) (i : Nat) (u : Value), i < us.length → (∀ u ∈ us, u.cells.size = sz) → u.cells.size = sz →
    (us.set i u).flatMap cellsL = (us.flatMap cellsL).take (i * sz) ++ cellsL u ++ (us.flatMap cellsL).drop (i * sz + sz)
  | v :: us, i, u, hi, h, hu => by
    have hv : (cellsL v).length = sz := by simp [cellsL, h v (List.mem_cons_self ..)]
    match i with
    | 0 =>
      simp only [List.set_cons_zero, List.flatMap_cons, Nat.zero_mul, List.take_zero, List.nil_append, Nat.zero_add]
      rw [List.drop_append_of_le_length (by omega), List.drop_of_length_le (by omega), List.nil_append]
    | i + 1 =>
      have ih := flat_set us i u (by simpa using hi) (fun x hx => h x (List.mem_cons_of_mem _ hx)) hu
      simp only [List.set_cons_succ, List.flatMap_cons]
      have e1 : (i + 1) * sz = (cellsL v).length + i * sz := by rw [Nat.succ_mul]; omega
      rw [ih, e1, List.take_length_add_append, Nat.add_assoc, List.drop_length_add_append]
      simp only [List.append_assoc]

/-- What R reads: as many cells as 'sz' says, each of them one cell. -/
structure Elem {α : Type} (R : Mem → Value → α → Prop) (sz : Nat) : Prop where
  mono : Mono R
  size : ∀ (h : Mem) (u : Value) (x : α), R h u x → u.cells.size = sz
  one : ∀ (h : Mem) (u : Value) (x : α), R h u x → ∀ c ∈ cellsL u, c.oneCell' = true
  pos : 0 < sz

theorem NatIn.elem (k : IntKind) : Elem (NatIn k) 1 := ⟨NatIn.mono k, by rintro h u x rfl; rfl, by rintro h u x rfl c hc; simp [cellsL, Value.cells] at hc; subst hc; rfl, Nat.one_pos⟩
theorem IntIn.elem (k : IntKind) : Elem (IntIn k) 1 := ⟨IntIn.mono k, by rintro h u x rfl; rfl, by rintro h u x rfl c hc; simp [cellsL, Value.cells] at hc; subst hc; rfl, Nat.one_pos⟩
theorem SlV.elem {α : Type} {R : Mem → Value → α → Prop} {sz : Nat} (h : Elem R sz) : Elem (SlV R sz) 1 :=
  ⟨SlV.mono h.mono sz, by rintro h u x ⟨ao, cap, rfl, _⟩; rfl, by rintro h u x ⟨ao, cap, rfl, _⟩ c hc; simp [cellsL, Value.cells] at hc; subst hc; rfl, Nat.one_pos⟩

/-- The list l lies in a slice that the call itself made (in a block from 'base' on, that X does not hide; its elements are read outside of X and of that block). -/
def OL {α : Type} (R : Mem → Value → α → Prop) (sz : Nat) (X : Nat → Bool) (base : Nat) (e : TypeId) (w : World) (ao : Option Addr) (cap : Nat) (l : List α) : Prop :=
  (∀ k, ob ao k = true → X k = false) ∧
  ∃ us : List Value, us.length = l.length ∧ (∀ u ∈ us, u.cells.size = sz) ∧ (∀ u ∈ us, ∀ c ∈ cellsL u, c.oneCell' = true) ∧ w.ownsRow base e sz (.slice ao l.length cap) l.length (us.flatMap cellsL) ∧
    ∀ i (hi : i < us.length) (hi' : i < l.length), R (mk (un X ao) w) us[i] l[i]

section
variable {α : Type} {R : Mem → Value → α → Prop} {sz : Nat} {X : Nat → Bool} {base : Nat} {e : TypeId} {w : World} {ao : Option Addr} {cap : Nat} {l : List α}

theorem OL.nil (R : Mem → Value → α → Prop) (sz : Nat) (X : Nat → Bool) (base : Nat) (e : TypeId) (w : World) : OL R sz X base e w none 0 [] :=
  ⟨fun _ h => by simp [ob] at h, [], rfl, by simp, by simp, World.ownsRow_nil w base e sz, fun i hi => by simp at hi⟩

theorem OL.form (h : OL R sz X base e w ao cap l) : (ao = none ∧ cap = 0 ∧ l = []) ∨ ∃ g cur, ao = some ⟨g, 0, none⟩ ∧ base ≤ g ∧ w.heap[g]? = some (.cells cur e (0, 0)) ∧ l.length ≤ cap ∧ cap ≤ maxLen ∧ cur.size = cap * sz := by
  obtain ⟨_, us, h1, h2, _, ⟨h3, h4⟩, h5⟩ := h
  rcases h4 with ⟨hv, hn⟩ | ⟨g, c, cur, hv, h6, h7, h8, h9, h10, h11⟩
  · left
    simp at hv
    exact ⟨hv.1, hv.2.2, List.eq_nil_of_length_eq_zero hn⟩
  · right
    simp at hv
    obtain ⟨rfl, rfl⟩ := hv
    exact ⟨g, cur, rfl, h6, h7, h8, h9, h10⟩

theorem OL.block (h : OL R sz X base e w ao cap l) {k : Nat} (hk : ob ao k = true) : base ≤ k ∧ k < w.heap.size := by
  rcases h.form with ⟨rfl, _⟩ | ⟨g, cur, rfl, h6, h7, _⟩
  · simp [ob] at hk
  · have : g = k := by simpa [ob] using hk
    subst this
    refine ⟨h6, ?_⟩
    by_cases hl : g < w.heap.size
    · exact hl
    · rw [Array.getElem?_eq_none (by omega)] at h7; simp at h7

theorem OL.ob_lt (h : OL R sz X base e w ao cap l) {k : Nat} (hk : k < base) : ob ao k = false := by
  cases hb : ob ao k
  · rfl
  · have := h.block hb; omega

theorem OL.lenCap (h : OL R sz X base e w ao cap l) : l.length ≤ cap := by
  rcases h.form with ⟨_, _, rfl⟩ | ⟨g, cur, _, _, _, h8, _⟩
  · simp
  · exact h8

theorem OL.hd (h : OL R sz X base e w ao cap l) : Hd ao l.length := by
  intro hn
  rcases h.form with ⟨_, _, rfl⟩ | ⟨g, cur, rfl, _⟩
  · simp at hn
  · exact ⟨g, 0, rfl⟩

/-- The cells of an owned list. -/
theorem OL.cells (h : OL R sz X base e w ao cap l) : ∃ us : List Value, us.length = l.length ∧ (∀ u ∈ us, u.cells.size = sz) ∧ (∀ u ∈ us, ∀ c ∈ cellsL u, c.oneCell' = true) ∧
    (∀ j u, (us.flatMap cellsL)[j]? = some u → w.cell? (adr ao j) = some u ∧ w.frozen? (adr ao j) = false) ∧ ∀ i (hi : i < us.length) (hi' : i < l.length), R (mk (un X ao) w) us[i] l[i] := by
  have hf := h.form
  obtain ⟨hx, us, h1, h2, h22, ⟨h3, h4⟩, h5⟩ := h
  refine ⟨us, h1, h2, h22, fun j u hj => ?_, h5⟩
  have hlt : j < l.length * sz := by
    rw [← h3]
    exact (List.getElem?_eq_some_iff.1 hj).1
  rcases hf with ⟨_, _, rfl⟩ | ⟨g, cur, rfl, h6, h7, h8, h9, h10⟩
  · simp at hlt
  rcases h4 with ⟨hv, hn⟩ | ⟨g', c, cur', hv, _, h7', _, _, _, h11⟩
  · simp at hv
  simp at hv
  obtain ⟨rfl, rfl⟩ := hv
  rw [h7] at h7'
  obtain rfl : cur = cur' := by simpa using h7'
  rw [← h11, List.getElem?_take_of_lt hlt] at hj
  have hadr : adr (some ⟨g, 0, none⟩) j = ⟨g, j, none⟩ := by simp [adr]
  rw [hadr]
  simp only [Array.getElem?_toList] at hj
  simp [World.cell?, World.frozen?, h7, hj]

/-- An owned list reads as a list. -/
theorem OL.sl (hR : Elem R sz) (h : OL R sz X base e w ao cap l) : Sl R sz (mk X w) ao l := by
  refine ⟨h.hd, fun i hi => ?_⟩
  have hf := h.form
  have hx := h.1
  obtain ⟨us, h1, h2, _, h3, h5⟩ := h.cells
  have hi' : i < us.length := by omega
  refine ⟨us[i], h2 _ (List.getElem_mem _), fun j hj => ?_, hR.mono _ _ _ _ (mk_sub fun k _ hk => un_left hk) (h5 i hi' hi)⟩
  have hsz : us[i].cells.size = sz := h2 _ (List.getElem_mem _)
  have hget := flat_get us i j hi' h2 (by omega)
  have hc : (cellsL us[i])[j]? = some us[i].cells[j] := by simp [cellsL, hj]
  rw [hc] at hget
  have hg := (h3 _ _ hget).1
  unfold mk
  have : X (adr ao (i * sz + j)).block = false := by
    rcases hf with ⟨_, _, rfl⟩ | ⟨g, cur, rfl, _⟩
    · simp at hi
    · exact hx _ (by simp [ob, adr])
  rw [this]
  simpa using hg

/-- The one cell of an element of an owned list. -/
theorem OL.cell (h1c : OneCell R) (h : OL R 1 X base e w ao cap l) (i : Nat) (hi : i < l.length) :
    ∃ u, w.cell? (adr ao i) = some u ∧ w.frozen? (adr ao i) = false ∧ R (mk (un X ao) w) u l[i] := by
  obtain ⟨us, h1, h2, _, h3, h5⟩ := h.cells
  have hi' : i < us.length := by omega
  have hsz : us[i].cells.size = 1 := h2 _ (List.getElem_mem _)
  have hget := flat_get us i 0 hi' h2 (by omega)
  have hc : (cellsL us[i])[0]? = some us[i].cells[0] := by simp [cellsL]
  rw [hc] at hget
  have hu := h1c _ _ _ (h5 i hi' hi)
  have := h3 _ _ hget
  simp only [Nat.mul_one, Nat.add_zero, hu] at this
  exact ⟨us[i], this.1, this.2, h5 i hi' hi⟩

theorem OL.ext (hR : Elem R sz) {Y Z : Nat → Bool} {w' : World} (h : OL R sz X base e w ao cap l) (hE : ExtX Y w w') (hY : ∀ k, k < w.heap.size → Y k = true → X k = true) (hZ : ∀ k, k < w.heap.size → Z k = true → X k = true) : OL R sz Z base e w' ao cap l := by
  have hb := fun k (hk : ob ao k = true) => h.block hk
  obtain ⟨hx, us, h1, h2, h22, h3, h5⟩ := h
  refine ⟨fun k hk => ?_, us, h1, h2, h22, ?_, fun i hi hi' => hR.mono _ _ _ _ (mk_over hE (fun k hk hy => un_left (hY k hk hy)) (fun k hk hz => ?_)) (h5 i hi hi')⟩
  · cases hh : Z k
    · rfl
    · have := hZ k (hb k hk).2 hh; rw [hx k hk] at this; simp at this
  · refine ⟨h3.1, ?_⟩
    rcases h3.2 with h4 | ⟨g, c, cur, hv, h6, h7, h8⟩
    · exact .inl h4
    · refine .inr ⟨g, c, cur, hv, h6, ?_, h8⟩
      simp at hv
      obtain ⟨rfl, rfl⟩ := hv
      have hk : ob (some ⟨g, 0, none⟩) g = true := by simp [ob]
      rw [hE.block g (hb g hk).2, h7]
      cases hh : Y g
      · rfl
      · have := hY g (hb g hk).2 hh; rw [hx g hk] at this; simp at this
  · cases hh : Z k
    · simp [un, hh] at hz; exact un_right hz
    · exact un_left (hZ k hk hh)

theorem OL.ext0 (hR : Elem R sz) {w' : World} (h : OL R sz X base e w ao cap l) (hE : Ext w w') : OL R sz X base e w' ao cap l :=
  h.ext hR hE (fun k _ hk => by simp [noY] at hk) (fun _ _ h => h)
/-- A step that turns the call's own block alone. -/
theorem ExtX.own {Y : Nat → Bool} {w0 w' : World} (h : ExtX Y w0 w) (ho : OL R sz X base e w ao cap l) (hb : w0.heap.size ≤ base) (hE : ExtX (ob ao) w w') : ExtX Y w0 w' :=
  h.then_ hE fun i hi _ => by
    cases hk : ob ao i
    · rfl
    · have := ho.block hk; omega
/-- The blocks hidden behind an owned list are blocks of the world. -/
theorem OL.unX (h : OL R sz X base e w ao cap l) (hX : ∀ k, X k = true → k < w.heap.size) : ∀ k, un X ao k = true → k < w.heap.size := by
  intro k hk
  by_cases hx : X k = true
  · exact hX k hx
  · have : ob ao k = true := by simpa [un, hx] using hk
    exact (h.block this).2
/-- The call's own block is new, as seen from a world before. -/
theorem OL.base_le (h : OL R sz X base e w ao cap l) {b' : Nat} (hb : b' ≤ base) : OL R sz X b' e w ao cap l := by
  obtain ⟨hx, us, h1, h2, h22, h3, h5⟩ := h
  refine ⟨hx, us, h1, h2, h22, ⟨h3.1, ?_⟩, h5⟩
  rcases h3.2 with h4 | ⟨g, c, cur, hv, h6, h8⟩
  · exact .inl h4
  · exact .inr ⟨g, c, cur, hv, by omega, h8⟩
end

section
variable {α : Type} {R : Mem → Value → α → Prop} {sz : Nat} {X : Nat → Bool} {base : Nat} {e : TypeId} {w : World} {ao : Option Addr} {cap : Nat} {l : List α} {P : Program}

/-- A list whose cells lie at an address. -/
def At (w : World) (ao : Option Addr) (us : List Value) : Prop := Hd ao us.length ∧ ∀ j u, (us.flatMap cellsL)[j]? = some u → w.cell? (adr ao j) = some u

theorem Sl.at_ (hR : Elem R sz) (h : Sl R sz (mk X w) ao l) : ∃ us : List Value, us.length = l.length ∧ At w ao us ∧ ∀ i (hi : i < us.length) (hi' : i < l.length), R (mk X w) us[i] l[i] := by
  have hpos := hR.pos
  have key : ∀ n, n ≤ l.length → ∃ us : List Value, us.length = n ∧ (∀ j u, (us.flatMap cellsL)[j]? = some u → w.cell? (adr ao j) = some u) ∧ ∀ i (hi : i < us.length) (hi' : i < l.length), R (mk X w) us[i] l[i] := by
    intro n
    induction n with
    | zero => intro _; exact ⟨[], rfl, by simp, by simp⟩
    | succ n ih =>
      intro hn
      obtain ⟨us, h1, h2, h3⟩ := ih (by omega)
      obtain ⟨u, h4, h5, h6⟩ := h.2 n (by omega)
      have hsz : ∀ v ∈ us, v.cells.size = sz := by
        intro v hv
        obtain ⟨i, hi, rfl⟩ := List.getElem_of_mem hv
        exact hR.size _ _ _ (h3 i hi (by omega))
      refine ⟨us ++ [u], by simp [h1], fun j x hj => ?_, fun i hi hi' => ?_⟩
      · rw [List.flatMap_append] at hj
        have hfl := flat_length us hsz
        by_cases hlt : j < us.length * sz
        · rw [List.getElem?_append_left (by omega)] at hj; exact h2 j x hj
        · rw [List.getElem?_append_right (by omega), hfl] at hj
          simp only [List.flatMap_cons, List.flatMap_nil, List.append_nil, cellsL] at hj
          obtain ⟨hj1, hj2⟩ := List.getElem?_eq_some_iff.1 hj
          have := h5 (j - us.length * sz) (by simpa using hj1)
          have ee : n * sz + (j - us.length * sz) = j := by rw [h1] at hlt ⊢; omega
          rw [ee] at this
          rw [mk_cell this]
          simp [← hj2]
      · by_cases hlt : i < us.length
        · simpa [List.getElem_append_left hlt] using h3 i hlt hi'
        · have : i = n := by simp at hi; omega
          subst this
          simpa [List.getElem_append_right, h1] using h6
  obtain ⟨us, h1, h2, h3⟩ := key l.length (Nat.le_refl _)
  exact ⟨us, h1, ⟨by rw [h1]; exact h.1, h2⟩, h3⟩

theorem At.length_zero {us : List Value} (h : At w none us) : us = [] := by
  cases us with
  | nil => rfl
  | cons u us => obtain ⟨b, off, hb⟩ := h.1 (by simp); simp at hb

theorem adr_addr {ad : Addr} (h : ad.spot = none) (j : Nat) : adr (some ad) j = ad.add j := by
  cases ad; simp at h; subst h; rw [Addr.add_lit]; rfl

theorem mkun_over {w' : World} {ao' : Option Addr} (hE : ExtX (ob ao) w w') (ho : ao' = ao ∨ ∃ g, ao' = some ⟨g, 0, none⟩ ∧ w.heap.size ≤ g) : Le (mk (un X ao) w) (mk (un X ao') w') := by
  refine mk_over hE (fun k _ hk => un_right hk) fun k hk hz => ?_
  rcases ho with rfl | ⟨g, rfl, hg⟩
  · exact hz
  · by_cases hx : X k = true
    · exact un_left hx
    · have : g = k := by simpa [un, hx, ob] using hz
      omega

/-- append of some elements that lie at an address. -/
theorem OL.run_append {t by_ : Nat} {z : Value} (T : SliceT P t e sz by_ z) (hzs : z.cells.size = sz) (hR : Elem R sz) (h : OL R sz X base e w ao cap l) (hbase : base ≤ w.heap.size) (hX : ∀ k, X k = true → k < w.heap.size)
    (as : Option Addr) (cs : Nat) (us' : List Value) (xs : List α) (hat : At w as us') (hlen : us'.length = xs.length) (hxs : ∀ i (hi : i < us'.length) (hi' : i < xs.length), R (mk (un X ao) w) us'[i] xs[i])
    (hroom : (l.length + xs.length) * by_ ≤ 140737488355328) (hmax : l.length + xs.length ≤ 9223372036854775807) (ty : TypeId) :
    ∃ ao' cap' w', (Builtin.append_ #[t, t] ty #[.slice ao l.length cap, .slice as xs.length cs]).run P w = .ok (.slice ao' (l ++ xs).length cap') w' ∧ OL R sz X base e w' ao' cap' (l ++ xs) ∧ ExtX (ob ao) w w' ∧
      (ao' = ao ∨ ∃ g, ao' = some ⟨g, 0, none⟩ ∧ w.heap.size ≤ g) := by
  obtain ⟨i, hi, hz, hsz, hby⟩ := info_parts T.info
  have hpos := hR.pos
  have hus' : ∀ u ∈ us', u.cells.size = sz := by
    intro v hv
    obtain ⟨i, hi, rfl⟩ := List.getElem_of_mem hv
    exact hR.size _ _ _ (hxs i hi (by omega))
  have hone' : ∀ u ∈ us'.flatMap cellsL, u.oneCell' = true := by
    intro c hc
    obtain ⟨v, hv, hcv⟩ := List.mem_flatMap.1 hc
    obtain ⟨i, hi, rfl⟩ := List.getElem_of_mem hv
    exact hR.one _ _ _ (hxs i hi (by omega)) c hcv
  by_cases hxe : xs = []
  · subst hxe
    have hu0 : us' = [] := List.eq_nil_of_length_eq_zero (by simpa using hlen)
    subst hu0
    refine ⟨ao, cap, w, ?_, by simpa using h, ExtX.refl w, .inl rfl⟩
    have hlc := h.lenCap
    have hsz' := hsz
    subst hsz
    cases as with
    | none => cases ao <;> simp [Builtin.append_, run_underlying T.und, sizeOf, typeInfo, hi, Builtin.lenOf, Builtin.firstCells, hlc, storeCells]
    | some as => cases ao <;> simp [Builtin.append_, run_underlying T.und, sizeOf, typeInfo, hi, Builtin.lenOf, Builtin.firstCells, loadCells, loadCellsFrom, hlc, storeCells]
  have hxpos : 0 < xs.length := by
    cases xs with
    | nil => exact absurd rfl hxe
    | cons x xs => simp
  obtain ⟨sb, so, rfl⟩ := hat.1 (by omega)
  have hnews : ∀ j u, (us'.flatMap cellsL)[j]? = some u → w.cell? ((⟨sb, so, none⟩ : Addr).add j) = some u := by
    intro j u hj
    rw [← adr_addr rfl]; exact hat.2 j u hj
  have hnl : (us'.flatMap cellsL).length = xs.length * i.size := by rw [flat_length us' hus', hlen, hsz]
  have hx := h.1
  have hcells := h.cells
  have hform := h.form
  obtain ⟨_, us, h1, h2, h22, h3, h5⟩ := h
  have hul : (us.flatMap cellsL).length = l.length * i.size := by rw [flat_length us h2, h1, hsz]
  have hfl : (us ++ us').flatMap cellsL = us.flatMap cellsL ++ us'.flatMap cellsL := List.flatMap_append
  have hnew : ∀ u ∈ us ++ us', u.cells.size = sz := by
    intro u hu
    rcases List.mem_append.1 hu with hu | hu
    · exact h2 u hu
    · exact hus' u hu
  have hnew1 : ∀ u ∈ us ++ us', ∀ c ∈ cellsL u, c.oneCell' = true := by
    intro u hu c hc
    rcases List.mem_append.1 hu with hu | hu
    · exact h22 u hu c hc
    · exact hone' c (List.mem_flatMap.2 ⟨u, hu, hc⟩)
  have hRs : ∀ (ao' : Option Addr) (w' : World), ExtX (ob ao) w w' → (ao' = ao ∨ ∃ g, ao' = some ⟨g, 0, none⟩ ∧ w.heap.size ≤ g) →
      ∀ i (hi : i < (us ++ us').length) (hi' : i < (l ++ xs).length), R (mk (un X ao') w') (us ++ us')[i] (l ++ xs)[i] := by
    intro ao' w' hE ho i hi hi'
    have hle := mkun_over (X := X) hE ho
    by_cases hlt : i < us.length
    · simpa [List.getElem_append_left hlt, List.getElem_append_left (show i < l.length by omega)] using hR.mono _ _ _ _ hle (h5 i hlt (by omega))
    · have hb1 : i - us.length < us'.length := by simp at hi; omega
      have := hR.mono _ _ _ _ hle (hxs (i - us.length) hb1 (by omega))
      simpa [List.getElem_append_right (show us.length ≤ i by omega), List.getElem_append_right (show l.length ≤ i by omega), h1] using this
  have grown : ∀ old, old < l.length + xs.length → ∃ g cur, g = w.heap.size ∧ cur = (us.flatMap cellsL).toArray ++ (us'.flatMap cellsL).toArray ++ Builtin.zeroCells z.cells (grownCap w (l.length + xs.length) old e - (l.length + xs.length)) ∧
      OL R sz X base e (w.drew.alloc (.cells cur e)) (some ⟨g, 0, none⟩) (grownCap w (l.length + xs.length) old e) (l ++ xs) ∧ ExtX (ob ao) w (w.drew.alloc (.cells cur e)) := by
    intro old ho
    refine ⟨_, _, rfl, rfl, ?_, ?_⟩
    · have hge := grownCap_ge w (l.length + xs.length) old e
      have hcm : grownCap w (l.length + xs.length) old e ≤ maxLen := grownCap_le_maxLen w (l.length + xs.length) old e (by simpa [maxLen] using hmax)
      have hE : ExtX (ob ao) w (w.drew.alloc (.cells ((us.flatMap cellsL).toArray ++ (us'.flatMap cellsL).toArray ++ Builtin.zeroCells z.cells (grownCap w (l.length + xs.length) old e - (l.length + xs.length))) e)) := ((ExtX.refl w).drew).alloc _
      refine ⟨fun k hk => ?_, us ++ us', by simp [h1, hlen], hnew, hnew1, ⟨by rw [hfl]; simp [hul, hnl, hsz, Nat.add_mul], .inr ⟨w.heap.size, _, _, by simp, hbase, heap_alloc_new w.drew _, by simpa using hge, hcm, ?_, ?_⟩⟩, hRs _ _ hE (.inr ⟨_, rfl, Nat.le_refl _⟩)⟩
      · have : w.heap.size = k := by simpa [ob] using hk
        cases hh : X k
        · rfl
        · have := hX k hh; omega
      · simp only [Array.size_append, List.size_toArray, size_zeroCells, hzs, hul, hnl, hsz, ← Nat.add_mul]
        congr 1; omega
      · rw [hfl]
        simp only [Array.toList_append, List.length_append]
        have hll : (l.length + xs.length) * sz = (us.flatMap cellsL ++ us'.flatMap cellsL).length := by simp [hul, hnl, hsz, Nat.add_mul]
        rw [hll]
        exact List.take_left
    · exact ((ExtX.refl w).drew).alloc _
  have hll : (l ++ xs).length = l.length + xs.length := List.length_append
  rcases hform with ⟨rfl, rfl, rfl⟩ | ⟨g, cur, rfl, h6, h7, h8, h9, h10⟩
  · have hu0 : us = [] := List.eq_nil_of_length_eq_zero (by simpa using h1)
    subst hu0
    obtain ⟨g, cur, rfl, hcur, hOL, hE⟩ := grown 0 (by simp; omega)
    have hr := run_append_nil (P := P) w t ty e i z T.und hi hz ⟨sb, so, none⟩ xs.length cs (us'.flatMap cellsL) hnl hnews hxpos (by simp at hmax; omega) (by simp at hroom; rw [hby]; omega)
    simp only [List.flatMap_nil, List.length_nil, Nat.zero_add, List.nil_append, Array.empty_append] at hOL hE hcur hr ⊢
    subst hcur
    exact ⟨_, _, _, hr, hOL, hE, .inr ⟨_, rfl, Nat.le_refl _⟩⟩
  · by_cases hroom' : l.length + xs.length ≤ cap
    · have hfit : l.length * i.size + (us'.flatMap cellsL).length ≤ cur.size := by rw [hnl, h10, ← hsz, ← Nat.add_mul]; exact Nat.mul_le_mul_right _ hroom'
      have hr := run_append_room (P := P) w t ty e i T.und hi g l.length cap cur h7 ⟨sb, so, none⟩ xs.length cs (us'.flatMap cellsL) hnl hnews hone' hroom' hfit
      have hE : ExtX (ob (some ⟨g, 0, none⟩)) w (w.setRow g (cur.toList.take (l.length * i.size) ++ us'.flatMap cellsL ++ cur.toList.drop (l.length * i.size + (us'.flatMap cellsL).length)).toArray) :=
        ⟨rfl, rfl, rfl, by simp, fun k _ hk => setRow_other w g k _ (fun ek => by subst ek; simp [ob] at hk)⟩
      refine ⟨_, _, _, by rw [hll]; exact hr, ⟨hx, us ++ us', by simp [h1, hlen], hnew, hnew1, ⟨by rw [hfl]; simp [hul, hnl, hsz, Nat.add_mul], .inr ⟨g, cap, _, by rw [hll], h6, setRow_heap w g cur _ e _ h7, by rw [hll]; exact hroom', h9, ?_, ?_⟩⟩, hRs _ _ hE (.inl rfl)⟩, hE, .inl rfl⟩
      · simp only [List.size_toArray, List.length_append, List.length_take, List.length_drop, Array.length_toList]; omega
      · rw [hfl, hll]
        rcases h3.2 with ⟨hv, _⟩ | ⟨g', c', cur', hv, _, h7', _, _, _, h11⟩
        · simp at hv
        simp at hv
        obtain ⟨rfl, rfl⟩ := hv
        rw [h7] at h7'
        obtain rfl : cur = cur' := by simpa using h7'
        have e1 : cur.toList.take (l.length * i.size) = us.flatMap cellsL := by rw [hsz]; exact h11
        rw [e1]
        have hll2 : (l.length + xs.length) * sz = (us.flatMap cellsL ++ us'.flatMap cellsL).length := by simp [hul, hnl, hsz, Nat.add_mul]
        rw [hll2]
        exact List.take_left
    · have holds : ∀ j u, (us.flatMap cellsL)[j]? = some u → w.cell? ((⟨g, 0, none⟩ : Addr).add j) = some u := h3.cells (g := g) rfl
      have hr := run_append_grow (P := P) w t ty e i z T.und hi hz ⟨g, 0, none⟩ l.length cap (us.flatMap cellsL) hul holds ⟨sb, so, none⟩ xs.length cs (us'.flatMap cellsL) hnl hnews (by omega) (by omega) (growslice_fits (by omega) (by rw [hby]; exact hroom))
      obtain ⟨g', cur', rfl, hcur, hOL, hE⟩ := grown cap (by omega)
      subst hcur
      exact ⟨_, _, _, by rw [hll]; exact hr, hOL, hE, .inr ⟨_, rfl, Nat.le_refl _⟩⟩

/-- make of a slice. -/
theorem OL.run_make {t by_ : Nat} {z : Value} (T : SliceT P t e sz by_ z) (hR : Elem R sz) (x0 : α) (hz : ∀ h, R h z x0) (hX : ∀ k, X k = true → k < w.heap.size) (hbase : base ≤ w.heap.size)
    (kl kc : IntKind) (n : Nat) (hroom : by_ * n ≤ 281474976710656) (hmax : n ≤ 9223372036854775807) :
    ∃ ao w', (Instr.makeSlice t (.int kl (n : Int)) (.int kc (n : Int))).run P w = .ok (.slice ao n n) w' ∧ OL R sz X base e w' ao n (List.replicate n x0) ∧ Ext w w' := by
  obtain ⟨i, hi, hiz, hsz, hby⟩ := info_parts T.info
  have hzs : z.cells.size = sz := hR.size (fun _ => none) z x0 (hz _)
  have hpos := hR.pos
  have hr := Go.run_make (P := P) w t e i z T.und hi hiz kl kc n n (by omega) (Int.le_refl _) (by rw [hby, ← Int.natCast_mul]; omega) (by omega)
  simp only [Int.toNat_natCast] at hr
  refine ⟨_, _, hr, ⟨fun k hk => ?_, List.replicate n z, by simp, by intro u hu; rw [List.eq_of_mem_replicate hu]; exact hzs, by intro u hu; rw [List.eq_of_mem_replicate hu]; exact hR.one (fun _ => none) z x0 (hz _), ⟨?_, .inr ⟨w.heap.size, n, _, by simp, hbase, heap_alloc_new w _, by simp, by simpa [maxLen] using hmax, by rw [size_madeCells, hsz], ?_⟩⟩, fun i hi hi' => by simpa using hz _⟩, (ExtX.refl w).alloc _⟩
  · have : w.heap.size = k := by simpa [ob] using hk
    cases hh : X k
    · rfl
    · have := hX k hh; omega
  · rw [flat_length (sz := sz) _ (by intro u hu; rw [List.eq_of_mem_replicate hu]; exact hzs)]
    simp
  · apply List.ext_getElem?
    intro j
    simp only [List.length_replicate]
    by_cases hj : j < n * sz
    · rw [List.getElem?_take_of_lt hj]
      have hg := flat_get (sz := sz) (List.replicate n z) (j / sz) (j % sz) (by simpa using Nat.div_lt_of_lt_mul (by rw [Nat.mul_comm]; exact hj)) (by intro u hu; rw [List.eq_of_mem_replicate hu]; exact hzs) (Nat.mod_lt _ hpos)
      have ej : j / sz * sz + j % sz = j := by rw [Nat.mul_comm]; exact Nat.div_add_mod j sz
      rw [ej] at hg
      rw [hg]
      simp [madeCells, hsz, hj, cellsL, hzs]
      rw [Array.getElem?_eq_getElem (by rw [hzs]; exact Nat.mod_lt _ hpos)]
      rw [getElem!_pos]
    · rw [List.getElem?_eq_none (by simp [size_madeCells, hsz]; omega), List.getElem?_eq_none]
      rw [flat_length (sz := sz) _ (by intro u hu; rw [List.eq_of_mem_replicate hu]; exact hzs)]
      simp; omega

/-- A store of an element. -/
theorem OL.run_store {t : TypeId} {ti : TypeInfo} (ht : P.info? t = some ti) (hts : ti.size = sz) (hR : Elem R sz) (h : OL R sz X base e w ao cap l) (i : Nat) (hi : i < l.length) (u : Value) (x : α) (hu : R (mk (un X ao) w) u x) :
    ∃ w', (storeVar t (adr ao (i * sz)) u).run P w = .ok () w' ∧ OL R sz X base e w' ao cap (l.set i x) ∧ ExtX (ob ao) w w' := by
  have hus := hR.size _ _ _ hu
  have hu1 := hR.one _ _ _ hu
  have hform := h.form
  obtain ⟨hx, us, h1, h2, h22, h3, h5⟩ := h
  rcases hform with ⟨rfl, rfl, rfl⟩ | ⟨g, cur, rfl, h6, h7, h8, h9, h10⟩
  · simp at hi
  have hadr : adr (some ⟨g, 0, none⟩) (i * sz) = ⟨g, i * sz, none⟩ := by simp [adr]
  have hsub : (i + 1) * sz ≤ l.length * sz := Nat.mul_le_mul_right _ hi
  have hsub2 : l.length * sz ≤ cap * sz := Nat.mul_le_mul_right _ h8
  rw [Nat.succ_mul] at hsub
  have hst := run_storeCells_at P g (i * sz) e (cellsL u) 0 cur w h7 (by simp [cellsL, hus, h10]; omega) hu1
  have hE : ExtX (ob (some ⟨g, 0, none⟩)) w (w.setRow g (cur.toList.take (i * sz + 0) ++ cellsL u ++ cur.toList.drop (i * sz + 0 + (cellsL u).length)).toArray) :=
    ⟨rfl, rfl, rfl, by simp, fun k _ hk => setRow_other w g k _ (fun ek => by subst ek; simp [ob] at hk)⟩
  have hne : ∀ v ∈ us.set i u, v.cells.size = sz := by
    intro v hv
    rcases List.mem_or_eq_of_mem_set hv with hv | rfl
    · exact h2 v hv
    · exact hus
  refine ⟨_, ?_, ⟨hx, us.set i u, by simp [h1], hne, ?_, ⟨?_, .inr ⟨g, cap, _, by simp, h6, setRow_heap w g cur _ e _ h7, by simpa using h8, h9, ?_, ?_⟩⟩, ?_⟩, hE⟩
  · rw [hadr]
    simp [storeVar, sizeOf, typeInfo, ht, hts, hus]
    simpa [cellsL] using hst
  · intro v hv
    rcases List.mem_or_eq_of_mem_set hv with hv | rfl
    · exact h22 v hv
    · exact hu1
  · rw [flat_length _ hne]; simp [h1]
  · have hlu : (cellsL u).length = sz := by simp [cellsL, hus]
    simp only [List.size_toArray, List.length_append, List.length_take, List.length_drop, Array.length_toList, hlu, h10, Nat.add_zero]
    omega
  · rcases h3.2 with ⟨hv, _⟩ | ⟨g', c', cur', hv, _, h7', _, _, _, h11⟩
    · simp at hv
    simp at hv
    obtain ⟨rfl, rfl⟩ := hv
    rw [h7] at h7'
    obtain rfl : cur = cur' := by simpa using h7'
    have hlu : (cellsL u).length = sz := by simp [cellsL, hus]
    have hcl : cur.toList.length = cap * sz := by simp [h10]
    rw [flat_set us i u (by omega) h2 hus, ← h11]
    simp only [List.length_set, Nat.add_zero]
    have hA : (cur.toList.take (i * sz)).length = i * sz := by rw [List.length_take, hcl]; omega
    rw [hlu, List.take_append, List.take_of_length_le (by rw [List.length_append, hA, hlu]; omega), List.length_append, hA, hlu, List.take_take, Nat.min_eq_left (by omega), List.drop_take]
  · intro j hj hj'
    have hle : Le (mk (un X (some ⟨g, 0, none⟩)) w) (mk (un X (some ⟨g, 0, none⟩)) _) := mkun_over hE (.inl rfl)
    by_cases hji : i = j
    · subst hji; simpa using hR.mono _ _ _ _ hle hu
    · have := hR.mono _ _ _ _ hle (h5 j (by simpa using hj) (by simpa using hj'))
      simpa [List.getElem_set, hji] using this
end
end Go.Rep

namespace Go.Rep
open Go.RowKit

section
variable {P : Program} {ops : Array Oper} {Q : Exit → Act → World → Prop} {rest : List Oper} {a : Act} {w : World}
variable {α : Type} {R : Mem → Value → α → Prop} {sz : Nat} {X : Nat → Bool} {base : Nat} {e : TypeId} {ao : Option Addr} {cap : Nat} {l : List α}
variable {d : Option Tmp} {ty : TypeId} {ps : String} {af : Array Edge}

/-- A list laid in a new block. -/
theorem OL.lit (hR : Elem R sz) (hX : ∀ k, X k = true → k < w.heap.size) (hbase : base ≤ w.heap.size) (us : List Value) (l : List α) (arr : Array Value) (harr : arr = (us.flatMap cellsL).toArray) (hlen : us.length = l.length)
    (hu : ∀ i (hi : i < us.length) (hi' : i < l.length), R (mk X w) us[i] l[i]) (hmax : l.length ≤ 9223372036854775807) :
    OL R sz X base e (w.alloc (.cells arr e)) (some ⟨w.heap.size, 0, none⟩) l.length l := by
  subst harr
  have hsz : ∀ u ∈ us, u.cells.size = sz := by
    intro v hv
    obtain ⟨i, hi, rfl⟩ := List.getElem_of_mem hv
    exact hR.size _ _ _ (hu i hi (by omega))
  have hE : Ext w (w.alloc (.cells (us.flatMap cellsL).toArray e)) := (ExtX.refl w).alloc _
  refine ⟨fun k hk => ?_, us, hlen, hsz, ?_, ⟨by rw [flat_length us hsz, hlen], .inr ⟨w.heap.size, _, _, rfl, hbase, heap_alloc_new w _, Nat.le_refl _, by unfold maxLen; exact hmax, by simp [flat_length us hsz, hlen], ?_⟩⟩, fun i hi hi' => ?_⟩
  · have : w.heap.size = k := by simpa [ob] using hk
    cases hh : X k
    · rfl
    · have := hX k hh; omega
  · intro v hv
    obtain ⟨i, hi, rfl⟩ := List.getElem_of_mem hv
    exact hR.one _ _ _ (hu i hi (by omega))
  · rw [List.take_of_length_le]
    simp [flat_length us hsz, hlen]
  · refine hR.mono _ _ _ _ (mk_over hE (fun k _ hk => by simp [noY] at hk) fun k hk hz => ?_) (hu i hi hi')
    by_cases hx : X k = true
    · exact hx
    · have : w.heap.size = k := by simpa [un, hx, ob] using hz
      omega

theorem mk_new (X : Nat → Bool) (w : World) (o : Obj) : Le (mk X w) (mk (un X (some ⟨w.heap.size, 0, none⟩)) (w.alloc o)) :=
  mk_over ((ExtX.refl (Y := noY) w).alloc o) (fun k _ hk => by simp [noY] at hk) fun k hk hz => by
    by_cases hx : X k = true
    · exact hx
    · have : w.heap.size = k := by simpa [un, hx, ob] using hz
      omega

theorem at_new (w : World) (arr : Array Value) (e : TypeId) (u : Value) (harr : arr = u.cells) : At (w.alloc (.cells arr e)) (some ⟨w.heap.size, 0, none⟩) [u] := by
  subst harr
  refine ⟨fun _ => ⟨_, _, rfl⟩, fun j c hj => ?_⟩
  simp only [List.flatMap_cons, List.flatMap_nil, List.append_nil, cellsL, Array.getElem?_toList] at hj
  have h0 : adr (some ⟨w.heap.size, 0, none⟩) j = ⟨w.heap.size, j, none⟩ := by simp [adr]
  have h1 := heap_alloc_new w (.cells u.cells e)
  rw [h0]
  unfold World.cell?
  rw [h1]
  simpa using hj

/-- append(s, x) of one element, just laid in a block of its own. -/
theorem st_append1 {t by_ : Nat} {z : Value} {arr : Array Value} {s x : Operand} (T : SliceT P t e sz by_ z) (hzs : z.cells.size = sz) (hR : Elem R sz) (hbase : base ≤ w.heap.size) (hX : ∀ k, X k = true → k < w.heap.size)
    (hs : a.eval s = .slice ao l.length cap) (hx : a.eval x = .slice (some ⟨w.heap.size, 0, none⟩) 1 1) (h : OL R sz X base e w ao cap l)
    (u : Value) (y : α) (harr : arr = u.cells) (hu : R (mk (un X ao) w) u y) (hroom : (l.length + 1) * by_ ≤ 140737488355328) (hmax : l.length + 1 ≤ 9223372036854775807)
    (K : ∀ ao' cap' w', OL R sz X base e w' ao' cap' (l ++ [y]) → ExtX (ob ao) w w' → (ao' = ao ∨ ∃ g, ao' = some ⟨g, 0, none⟩ ∧ w.heap.size ≤ g) → wpList P ops Q rest (a.put d (.slice ao' (l ++ [y]).length cap')) w') :
    wpList P ops Q (⟨d, .call { callee := .builtin .append, args := #[s, x], argTypes := #[t, t] }, ty, ps, af, none⟩ :: rest) a (w.alloc (.cells arr e)) := by
  refine wpList_plain rfl fun K' hK' => ?_
  have hE : Ext w (w.alloc (.cells arr e)) := (ExtX.refl w).alloc _
  have hsz : w.heap.size + 1 = (w.alloc (.cells arr e)).heap.size := by simp
  obtain ⟨ao', cap', w', hr, h2, h3, h4⟩ := (h.ext0 hR hE).run_append (P := P) T hzs hR (by omega) (fun k hk => by have := hX k hk; omega) (some ⟨w.heap.size, 0, none⟩) 1 [u] [y] (at_new w arr e u harr) rfl
    (fun i hi _ => by have : i = 0 := by simpa using hi
                      subst this; exact hR.mono _ _ _ _ (mk_ext hE) hu) (by simpa using hroom) (by simpa using hmax) ty
  unfold Oper.wp execOp
  simp only [resolve, invoke, builtin, Sem.run_bind, Sem.run_pure, Result.andThen_ok, List.map_toArray, List.map_cons, List.map_nil, hs, hx]
  rw [show ([y] : List α).length = 1 from rfl] at hr
  rw [hr]
  refine hK' _ _ (K ao' cap' w' h2 ((ExtX.of hE).trans h3) ?_)
  rcases h4 with h4 | ⟨g, h4, h5⟩
  · exact .inl h4
  · exact .inr ⟨g, h4, by omega⟩

/-- append(s, x...) of a list that is read outside of s's own block. -/
theorem st_appendl {t by_ : Nat} {z : Value} {s x : Operand} {as : Option Addr} {cs : Nat} (T : SliceT P t e sz by_ z) (hzs : z.cells.size = sz) (hR : Elem R sz) (hbase : base ≤ w.heap.size) (hX : ∀ k, X k = true → k < w.heap.size)
    (xs : List α) (hs : a.eval s = .slice ao l.length cap) (hx : a.eval x = .slice as xs.length cs) (h : OL R sz X base e w ao cap l)
    (hxs : Sl R sz (mk (un X ao) w) as xs) (hroom : (l.length + xs.length) * by_ ≤ 140737488355328) (hmax : l.length + xs.length ≤ 9223372036854775807)
    (K : ∀ ao' cap' w', OL R sz X base e w' ao' cap' (l ++ xs) → ExtX (ob ao) w w' → (ao' = ao ∨ ∃ g, ao' = some ⟨g, 0, none⟩ ∧ w.heap.size ≤ g) → wpList P ops Q rest (a.put d (.slice ao' (l ++ xs).length cap')) w') :
    wpList P ops Q (⟨d, .call { callee := .builtin .append, args := #[s, x], argTypes := #[t, t] }, ty, ps, af, none⟩ :: rest) a w := by
  refine wpList_plain rfl fun K' hK' => ?_
  obtain ⟨us, h1, h2, h3⟩ := hxs.at_ hR
  obtain ⟨ao', cap', w', hr, h2, h3, h4⟩ := h.run_append (P := P) T hzs hR hbase hX as cs us xs h2 h1 h3 hroom hmax ty
  unfold Oper.wp execOp
  simp only [resolve, invoke, builtin, Sem.run_bind, Sem.run_pure, Result.andThen_ok, List.map_toArray, List.map_cons, List.map_nil, hs, hx, hr]
  exact hK' _ _ (K ao' cap' w' h2 h3 h4)

/-- make of a slice. -/
theorem st_make {t by_ : Nat} {z : Value} {x y : Operand} {kl kc : IntKind} {m : Int} (T : SliceT P t e sz by_ z) (hR : Elem R sz) (x0 : α) (hz : ∀ h, R h z x0) (X : Nat → Bool) (hX : ∀ k, X k = true → k < w.heap.size) (base : Nat) (hbase : base ≤ w.heap.size)
    (n : Nat) (hl : a.eval x = .int kl m) (hc : a.eval y = .int kc m) (hm : m = (n : Int)) (hroom : by_ * n ≤ 281474976710656) (hmax : n ≤ 9223372036854775807)
    (K : ∀ ao w', OL R sz X base e w' ao n (List.replicate n x0) → Ext w w' → wpList P ops Q rest (a.put d (.slice ao n n)) w') :
    wpList P ops Q (⟨d, .makeSlice t x y, ty, ps, af, none⟩ :: rest) a w := by
  refine wpList_plain rfl fun K' hK' => ?_
  subst hm
  obtain ⟨ao, w', hr, h2, h3⟩ := OL.run_make (P := P) T hR x0 hz hX hbase kl kc n hroom hmax
  unfold Oper.wp
  simp [execOp, hl, hc, hr, Result.andThen]
  exact hK' _ _ (K ao w' h2 h3)

/-- A store of an element of an owned list. -/
theorem st_store {t : TypeId} {x y : Operand} {k : Nat} (hT : TyI P t sz) (hR : Elem R sz) (i : Nat) (hx : a.eval x = .pointer (some (adr ao k))) (hk : k = i * sz)
    (h : OL R sz X base e w ao cap l) (hi : i < l.length) (u : Value) (v : α) (hy : a.eval y = u) (hu : R (mk (un X ao) w) u v)
    (K : ∀ w', OL R sz X base e w' ao cap (l.set i v) → ExtX (ob ao) w w' → wpList P ops Q rest (a.put d undef) w') :
    wpList P ops Q (⟨d, .store t x y, ty, ps, af, none⟩ :: rest) a w := by
  refine wpList_plain rfl fun K' hK' => ?_
  subst hk
  obtain ⟨ti, ht, hts⟩ := hT
  obtain ⟨w', hr, h2, h3⟩ := h.run_store (P := P) ht hts hR i hi u v hu
  unfold Oper.wp
  simp [execOp, hx, hy, Instr.storeAt, Instr.sureAddr, hr, Result.andThen]
  exact hK' _ _ (K w' h2 h3)


/-- The address of a slice of a slice. -/
def subAddr (ao : Option Addr) (i m sz : Nat) : Option Addr := if m = i then ao else ao.map (·.add (i * sz))

theorem Sl.sub {h : Mem} (s : Sl R sz h ao l) (i j m : Nat) (hij : i ≤ j) (hjm : j ≤ m) (hjl : j ≤ l.length) : Sl R sz h (subAddr ao i m sz) ((l.take j).drop i) := by
  refine ⟨fun hn => ?_, fun k hk => ?_⟩
  · simp at hn
    obtain ⟨b, off, rfl⟩ := s.1 (by omega)
    have hm : ¬ m = i := by omega
    simp [subAddr, hm, Addr.add_lit]
  · simp at hk
    obtain ⟨b, off, rfl⟩ := s.1 (by omega)
    have hm : ¬ m = i := by omega
    obtain ⟨u, h1, h2, h3⟩ := s.2 (i + k) (by omega)
    refine ⟨u, h1, fun q hq => ?_, by simpa using h3⟩
    have := h2 q hq
    simp only [subAddr, hm, if_false, Option.map_some, Addr.add_lit, adr, Option.getD_some] at this ⊢
    rw [← this, Nat.add_mul]
    congr 2
    omega

theorem run_slice_i {t by_ : Nat} {z : Value} (T : SliceT P t e sz by_ z) (len cap : Nat) (k1 : IntKind) (i : Nat) (h1 : i ≤ len) (_h2 : len ≤ cap) (w : World) :
    (Instr.sliceAt t (.slice ao len cap) (some (.int k1 (i : Int))) none none).run P w = .ok (.slice (subAddr ao i cap sz) (len - i) (cap - i)) w := by
  obtain ⟨ti, hi, hz, hsz, hby⟩ := info_parts T.info
  have h1' : (i : Int) ≤ len := by omega
  simp [Instr.sliceAt, Instr.slice, run_underlying T.und, Instr.sliceBounds, run_sliceBound, h1', sizeOf, typeInfo, hi, hsz, subAddr]

theorem run_slice_ij {t by_ : Nat} {z : Value} (T : SliceT P t e sz by_ z) (len cap : Nat) (k1 k2 : IntKind) (i j : Nat) (h1 : i ≤ j) (h2 : j ≤ cap) (w : World) :
    (Instr.sliceAt t (.slice ao len cap) (some (.int k1 (i : Int))) (some (.int k2 (j : Int))) none).run P w = .ok (.slice (subAddr ao i cap sz) (j - i) (cap - i)) w := by
  obtain ⟨ti, hi, hz, hsz, hby⟩ := info_parts T.info
  have h1' : (i : Int) ≤ j := by omega
  have h2' : (j : Int) ≤ cap := by omega
  simp [Instr.sliceAt, Instr.slice, run_underlying T.und, Instr.sliceBounds, run_sliceBound, h1', h2', sizeOf, typeInfo, hi, hsz, subAddr]

/-- 'x[i:]' of a list. -/
theorem st_from {t by_ : Nat} {z : Value} {x lo : Operand} {k1 : IntKind} {m : Int} {M : Mem} (T : SliceT P t e sz by_ z) (i : Nat) (hx : a.eval x = .slice ao l.length cap) (hlo : a.eval lo = .int k1 m) (hm : m = (i : Int))
    (h : Sl R sz M ao l) (hi : i ≤ l.length) (hc : l.length ≤ cap)
    (K : ∀ ao', Sl R sz M ao' (l.drop i) → wpList P ops Q rest (a.put d (.slice ao' (l.drop i).length (cap - i))) w) :
    wpList P ops Q (⟨d, .slice t x (some lo) none none, ty, ps, af, none⟩ :: rest) a w := by
  refine wpList_plain rfl fun K' hK' => ?_
  subst hm
  have hr := run_slice_i (P := P) (ao := ao) T l.length cap k1 i hi hc w
  have hs := h.sub i l.length cap hi hc (Nat.le_refl _)
  rw [List.take_length] at hs
  have := K _ hs
  rw [List.length_drop] at this
  unfold Oper.wp
  simp [execOp, hx, hlo, hr, Result.andThen]
  exact hK' _ _ this

/-- 'x[i:j]' of a list. -/
theorem st_fromto {t by_ : Nat} {z : Value} {x lo hi_ : Operand} {k1 k2 : IntKind} {m n : Int} {M : Mem} (T : SliceT P t e sz by_ z) (i j : Nat) (hx : a.eval x = .slice ao l.length cap) (hlo : a.eval lo = .int k1 m) (hm : m = (i : Int))
    (hhi : a.eval hi_ = .int k2 n) (hn : n = (j : Int)) (h : Sl R sz M ao l) (hij : i ≤ j) (hj : j ≤ l.length) (hc : l.length ≤ cap)
    (K : ∀ ao', Sl R sz M ao' ((l.take j).drop i) → wpList P ops Q rest (a.put d (.slice ao' ((l.take j).drop i).length (cap - i))) w) :
    wpList P ops Q (⟨d, .slice t x (some lo) (some hi_) none, ty, ps, af, none⟩ :: rest) a w := by
  refine wpList_plain rfl fun K' hK' => ?_
  subst hm; subst hn
  have hr := run_slice_ij (P := P) (ao := ao) T l.length cap k1 k2 i j hij (by omega) w
  have hs := h.sub i j cap hij (by omega) hj
  have := K _ hs
  have e1 : ((l.take j).drop i).length = j - i := by simp; omega
  rw [e1] at this
  unfold Oper.wp
  simp [execOp, hx, hlo, hhi, hr, Result.andThen]
  exact hK' _ _ this
/-- A store of a number into an owned list of numbers. -/
theorem st_storeNat {t : TypeId} {x y : Operand} {k : Nat} {kd : IntKind} {l : List Nat} {m : Int} (hT : TyI P t 1) (i : Nat) (v : Nat) (hx : a.eval x = .pointer (some (adr ao k))) (hk : k = i)
    (h : OL (NatIn kd) 1 X base e w ao cap l) (hi : i < l.length) (hy : a.eval y = .int kd m) (hm : m = (v : Int))
    (K : ∀ w', OL (NatIn kd) 1 X base e w' ao cap (l.set i v) → ExtX (ob ao) w w' → wpList P ops Q rest (a.put d undef) w') :
    wpList P ops Q (⟨d, .store t x y, ty, ps, af, none⟩ :: rest) a w :=
  st_store hT (NatIn.elem kd) i hx (by omega) h hi (.int kd m) v hy (by rw [hm]; rfl) K
theorem st_storeInt {t : TypeId} {x y : Operand} {k : Nat} {kd : IntKind} {l : List Int} {m : Int} (hT : TyI P t 1) (i : Nat) (v : Int) (hx : a.eval x = .pointer (some (adr ao k))) (hk : k = i)
    (h : OL (IntIn kd) 1 X base e w ao cap l) (hi : i < l.length) (hy : a.eval y = .int kd m) (hm : m = v)
    (K : ∀ w', OL (IntIn kd) 1 X base e w' ao cap (l.set i v) → ExtX (ob ao) w w' → wpList P ops Q rest (a.put d undef) w') :
    wpList P ops Q (⟨d, .store t x y, ty, ps, af, none⟩ :: rest) a w :=
  st_store hT (IntIn.elem kd) i hx (by omega) h hi (.int kd m) v hy (by rw [hm]; rfl) K
/-- A store of a one-cell element, as the walk writes it. -/
theorem OL.set1 {t : TypeId} (hT : TyI P t 1) (hR : Elem R 1) (h1c : OneCell R) (h : OL R 1 X base e w ao cap l) (i : Nat) (hi : i < l.length) (u : Value) (x : α) (hu : R (mk (un X ao) w) u x) :
    OL R 1 X base e (w.setCell (adr ao i) u) ao cap (l.set i x) ∧ ExtX (ob ao) w (w.setCell (adr ao i) u) := by
  obtain ⟨ti, ht, hts⟩ := hT
  obtain ⟨v, hc, hf, _⟩ := h.cell h1c i hi
  obtain ⟨w', hr, h2, h3⟩ := h.run_store (P := P) ht hts hR i hi u x hu
  have hcells := h1c _ _ _ hu
  have hone := hR.one _ _ _ hu u (by simp [cellsL, hcells])
  rw [Nat.mul_one] at hr
  have hw : w' = w.setCell (adr ao i) u := by
    simp only [storeVar, sizeOf, typeInfo, Sem.run_bind] at hr
    cases u <;> simp [Value.oneCell'] at hone <;> simp [program, Sem.run, ht, hts, Result.andThen, Value.cells, storeCells, store, Addr.add_zero', hc, hf] at hr <;> exact hr.symm
  subst hw
  exact ⟨h2, h3⟩
end
end Go.Rep
