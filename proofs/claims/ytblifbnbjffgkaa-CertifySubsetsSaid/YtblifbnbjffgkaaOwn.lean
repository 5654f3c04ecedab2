/- Slices that a call has made itself, read as lists: make, append, store, and the rules of the walk for them. Conditions: none. -/
import Derived.Test.YtblifbnbjffgkaaRep
import Derived.Laws.CopyOwn
namespace Go.Rep
open Go.RowKit

def cellsL (u : Value) : List Value := u.cells.toList

theorem flat_length {sz : Nat} : ∀ (us : List Value), (∀ u ∈ us, u.cells.size = sz) → (us.flatMap cellsL).length = us.length * sz
  | [], _ => by simp
  | u :: us, h => by
    rw [List.flatMap_cons, List.length_append, flat_length us (fun x hx => h x (List.mem_cons_of_mem _ hx)), List.length_cons, Nat.succ_mul]
    have : (cellsL u).length = sz := by simp [cellsL, h u (List.mem_cons_self ..)]
    omega

theorem flat_get {sz : Nat} : ∀ (us : List Value) (i j : Nat) (hi : i < us.length), (∀ u ∈ us, u.cells.size = sz) → j < sz → (us.flatMap cellsL)[i * sz + j]? = (cellsL us[i])[j]?
  | u :: us, i, j, hi, h, hj => by
    have hu : (cellsL u).length = sz := by simp [cellsL, h u (List.mem_cons_self ..)]
    rw [List.flatMap_cons]
    match i with
    | 0 =>
      simp only [Nat.zero_mul, Nat.zero_add, List.getElem_cons_zero]
      rw [List.getElem?_append_left (by omega)]
    | i + 1 =>
      rw [List.getElem?_append_right (by rw [hu, Nat.succ_mul]; omega), hu]
      have e : (i + 1) * sz + j - sz = i * sz + j := by rw [Nat.succ_mul]; omega
      rw [e]
      simpa using flat_get us i j (by simpa using hi) (fun x hx => h x (List.mem_cons_of_mem _ hx)) hj

theorem flat_set {sz : Nat} : ∀ (us : List Value) (i : Nat) (u : Value), i < us.length → (∀ u ∈ us, u.cells.size = sz) → u.cells.size = sz →
    (us.set i u).flatMap cellsL = (us.flatMap cellsL).take (i * sz) ++ cellsL u ++ (us.flatMap cellsL).drop (i * sz + sz)
  | v :: us, i, u, hi, h, hu => by
    have hv : (cellsL v).length = sz := by simp [cellsL, h v (List.mem_cons_self ..)]
    match i with
    | 0 =>
      simp only [List.set_cons_zero, List.flatMap_cons, Nat.zero_mul, List.take_zero, List.nil_append, Nat.zero_add]
      rw [List.drop_append_of_le_length (by omega), List.drop_of_length_le (by omega), List.nil_append]
    | i + 1 =>
      have ih := flat_set us i u (by simpa using hi) (fun x hx => h x (List.mem_cons_of_mem _ hx)) hu
      simp only [List.set_cons_succ, List.flatMap_cons]
      have e1 : (i + 1) * sz = (cellsL v).length + i * sz := by rw [Nat.succ_mul]; omega
      rw [ih, e1, List.take_length_add_append, Nat.add_assoc, List.drop_length_add_append]
      simp only [List.append_assoc]

/-- What R reads: as many cells as 'sz' says, each of them one cell. -/
structure Elem {α : Type} (R : Mem → Value → α → Prop) (sz : Nat) : Prop where
  mono : Mono R
  size : ∀ (h : Mem) (u : Value) (x : α), R h u x → u.cells.size = sz
  one : ∀ (h : Mem) (u : Value) (x : α), R h u x → ∀ c ∈ cellsL u, c.oneCell' = true
  pos : 0 < sz

theorem NatIn.elem (k : IntKind) : Elem (NatIn k) 1 := ⟨NatIn.mono k, by rintro h u x rfl; rfl, by rintro h u x rfl c hc; simp [cellsL, Value.cells] at hc; subst hc; rfl, Nat.one_pos⟩
theorem IntIn.elem (k : IntKind) : Elem (IntIn k) 1 := ⟨IntIn.mono k, by rintro h u x rfl; rfl, by rintro h u x rfl c hc; simp [cellsL, Value.cells] at hc; subst hc; rfl, Nat.one_pos⟩
theorem SlV.elem {α : Type} {R : Mem → Value → α → Prop} {sz : Nat} (h : Elem R sz) : Elem (SlV R sz) 1 :=
  ⟨SlV.mono h.mono sz, by rintro h u x ⟨ao, cap, rfl, _⟩; rfl, by rintro h u x ⟨ao, cap, rfl, _⟩ c hc; simp [cellsL, Value.cells] at hc; subst hc; rfl, Nat.one_pos⟩

/-- The list l lies in a slice that the call itself made (in a block from 'base' on, that X does not hide; its elements are read outside of X and of that block). -/
def OL {α : Type} (R : Mem → Value → α → Prop) (sz : Nat) (X : Nat → Bool) (base : Nat) (e : TypeId) (w : World) (ao : Option Addr) (cap : Nat) (l : List α) : Prop :=
  (∀ k, ob ao k = true → X k = false) ∧
  ∃ us : List Value, us.length = l.length ∧ (∀ u ∈ us, u.cells.size = sz) ∧ (∀ u ∈ us, ∀ c ∈ cellsL u, c.oneCell' = true) ∧ w.ownsRow base e sz (.slice ao l.length cap) l.length (us.flatMap cellsL) ∧
    ∀ i (hi : i < us.length) (hi' : i < l.length), R (mk (un X ao) w) us[i] l[i]

section
variable {α : Type} {R : Mem → Value → α → Prop} {sz : Nat} {X : Nat → Bool} {base : Nat} {e : TypeId} {w : World} {ao : Option Addr} {cap : Nat} {l : List α}

theorem OL.nil (R : Mem → Value → α → Prop) (sz : Nat) (X : Nat → Bool) (base : Nat) (e : TypeId) (w : World) : OL R sz X base e w none 0 [] :=
  ⟨fun _ h => by simp [ob] at h, [], rfl, by simp, by simp, World.ownsRow_nil w base e sz, fun i hi => by simp at hi⟩

theorem OL.form (h : OL R sz X base e w ao cap l) : (ao = none ∧ cap = 0 ∧ l = []) ∨ ∃ g cur, ao = some ⟨g, 0, none⟩ ∧ base ≤ g ∧ w.heap[g]? = some (.cells cur e (0, 0)) ∧ l.length ≤ cap ∧ cap ≤ maxLen ∧ cur.size = cap * sz := by
  obtain ⟨_, us, h1, h2, _, ⟨h3, h4⟩, h5⟩ := h
  rcases h4 with ⟨hv, hn⟩ | ⟨g, c, cur, hv, h6, h7, h8, h9, h10, h11⟩
  · left
    simp at hv
    exact ⟨hv.1, hv.2.2, List.eq_nil_of_length_eq_zero hn⟩
  · right
    simp at hv
    obtain ⟨rfl, rfl⟩ := hv
    exact ⟨g, cur, rfl, h6, h7, h8, h9, h10⟩

theorem OL.block (h : OL R sz X base e w ao cap l) {k : Nat} (hk : ob ao k = true) : base ≤ k ∧ k < w.heap.size := by
  rcases h.form with ⟨rfl, _⟩ | ⟨g, cur, rfl, h6, h7, _⟩
  · simp [ob] at hk
  · have : g = k := by simpa [ob] using hk
    subst this
    refine ⟨h6, ?_⟩
    by_cases hl : g < w.heap.size
    · exact hl
    · rw [Array.getElem?_eq_none (by omega)] at h7; simp at h7

theorem OL.ob_lt (h : OL R sz X base e w ao cap l) {k : Nat} (hk : k < base) : ob ao k = false := by
  cases hb : ob ao k
  · rfl
  · have := h.block hb; omega

theorem OL.lenCap (h : OL R sz X base e w ao cap l) : l.length ≤ cap := by
  rcases h.form with ⟨_, _, rfl⟩ | ⟨g, cur, _, _, _, h8, _⟩
  · simp
  · exact h8

theorem OL.hd (h : OL R sz X base e w ao cap l) : Hd ao l.length := by
  intro hn
  rcases h.form with ⟨_, _, rfl⟩ | ⟨g, cur, rfl, _⟩
  · simp at hn
  · exact ⟨g, 0, rfl⟩

/-- The cells of an owned list. -/
theorem OL.cells (h : OL R sz X base e w ao cap l) : ∃ us : List Value, us.length = l.length ∧ (∀ u ∈ us, u.cells.size = sz) ∧ (∀ u ∈ us, ∀ c ∈ cellsL u, c.oneCell' = true) ∧
    (∀ j u, (us.flatMap cellsL)[j]? = some u → w.cell? (adr ao j) = some u ∧ w.frozen? (adr ao j) = false) ∧ ∀ i (hi : i < us.length) (hi' : i < l.length), R (mk (un X ao) w) us[i] l[i] := by
  have hf := h.form
  obtain ⟨hx, us, h1, h2, h22, ⟨h3, h4⟩, h5⟩ := h
  refine ⟨us, h1, h2, h22, fun j u hj => ?_, h5⟩
  have hlt : j < l.length * sz := by
    rw [← h3]
    exact (List.getElem?_eq_some_iff.1 hj).1
  rcases hf with ⟨_, _, rfl⟩ | ⟨g, cur, rfl, h6, h7, h8, h9, h10⟩
  · simp at hlt
  rcases h4 with ⟨hv, hn⟩ | ⟨g', c, cur', hv, _, h7', _, _, _, h11⟩
  · simp at hv
  simp at hv
  obtain ⟨rfl, rfl⟩ := hv
  rw [h7] at h7'
  obtain rfl : cur = cur' := by simpa using h7'
  rw [← h11, List.getElem?_take_of_lt hlt] at hj
  have hadr : adr (some ⟨g, 0, none⟩) j = ⟨g, j, none⟩ := by simp [adr]
  rw [hadr]
  simp only [Array.getElem?_toList] at hj
  simp [World.cell?, World.frozen?, h7, hj]

/-- An owned list reads as a list. -/
theorem OL.sl (hR : Elem R sz) (h : OL R sz X base e w ao cap l) : Sl R sz (mk X w) ao l := by
  refine ⟨h.hd, fun i hi => ?_⟩
  have hf := h.form
  have hx := h.1
  obtain ⟨us, h1, h2, _, h3, h5⟩ := h.cells
  have hi' : i < us.length := by omega
  refine ⟨us[i], h2 _ (List.getElem_mem _), fun j hj => ?_, hR.mono _ _ _ _ (mk_sub fun k _ hk => un_left hk) (h5 i hi' hi)⟩
  have hsz : us[i].cells.size = sz := h2 _ (List.getElem_mem _)
  have hget := flat_get us i j hi' h2 (by omega)
  have hc : (cellsL us[i])[j]? = some us[i].cells[j] := by simp [cellsL, hj]
  rw [hc] at hget
  have hg := (h3 _ _ hget).1
  unfold mk
  have : X (adr ao (i * sz + j)).block = false := by
    rcases hf with ⟨_, _, rfl⟩ | ⟨g, cur, rfl, _⟩
    · simp at hi
    · exact hx _ (by simp [ob, adr])
  rw [this]
  simpa using hg

/-- The one cell of an element of an owned list. -/
theorem OL.cell (h1c : OneCell R) (h : OL R 1 X base e w ao cap l) (i : Nat) (hi : i < l.length) :
    ∃ u, w.cell? (adr ao i) = some u ∧ w.frozen? (adr ao i) = false ∧ R (mk (un X ao) w) u l[i] := by
  obtain ⟨us, h1, h2, _, h3, h5⟩ := h.cells
  have hi' : i < us.length := by omega
  have hsz : us[i].cells.size = 1 := h2 _ (List.getElem_mem _)
  have hget := flat_get us i 0 hi' h2 (by omega)
  have hc : (cellsL us[i])[0]? = some us[i].cells[0] := by simp [cellsL]
  rw [hc] at hget
  have hu := h1c _ _ _ (h5 i hi' hi)
  have := h3 _ _ hget
  simp only [Nat.mul_one, Nat.add_zero, hu] at this
  exact ⟨us[i], this.1, this.2, h5 i hi' hi⟩

theorem OL.ext (hR : Elem R sz) {Y Z : Nat → Bool} {w' : World} (h : OL R sz X base e w ao cap l) (hE : ExtX Y w w') (hY : ∀ k, k < w.heap.size → Y k = true → X k = true) (hZ : ∀ k, k < w.heap.size → Z k = true → X k = true) : OL R sz Z base e w' ao cap l := by
  have hb := fun k (hk : ob ao k = true) => h.block hk
  obtain ⟨hx, us, h1, h2, h22, h3, h5⟩ := h
  refine ⟨fun k hk => ?_, us, h1, h2, h22, ?_, fun i hi hi' => hR.mono _ _ _ _ (mk_over hE (fun k hk hy => un_left (hY k hk hy)) (fun k hk hz => ?_)) (h5 i hi hi')⟩
  · cases hh : Z k
    · rfl
    · have := hZ k (hb k hk).2 hh; rw [hx k hk] at this; simp at this
  · refine ⟨h3.1, ?_⟩
    rcases h3.2 with h4 | ⟨g, c, cur, hv, h6, h7, h8⟩
    · exact .inl h4
    · refine .inr ⟨g, c, cur, hv, h6, ?_, h8⟩
      simp at hv
      obtain ⟨rfl, rfl⟩ := hv
      have hk : ob (some ⟨g, 0, none⟩) g = true := by simp [ob]
      rw [hE.block g (hb g hk).2, h7]
      cases hh : Y g
      · rfl
      · have := hY g (hb g hk).2 hh; rw [hx g hk] at this; simp at this
  · cases hh : Z k
    · simp [un, hh] at hz; exact un_right hz
    · exact un_left (hZ k hk hh)

theorem OL.ext0 (hR : Elem R sz) {w' : World} (h : OL R sz X base e w ao cap l) (hE : Ext w w') : OL R sz X base e w' ao cap l :=
  h.ext hR hE (fun k _ hk => by simp [noY] at hk) (fun _ _ h => h)
/-- A step that turns the call's own block alone. -/
theorem ExtX.own {Y : Nat → Bool} {w0 w' : World} (h : ExtX Y w0 w) (ho : OL R sz X base e w ao cap l) (hb : w0.heap.size ≤ base) (hE : ExtX (ob ao) w w') : ExtX Y w0 w' :=
  h.then_ hE fun i hi _ => by
    cases hk : ob ao i
    · rfl
    · have := ho.block hk; omega
/-- The blocks hidden behind an owned list are blocks of the world. -/
theorem OL.unX (h : OL R sz X base e w ao cap l) (hX : ∀ k, X k = true → k < w.heap.size) : ∀ k, un X ao k = true → k < w.heap.size := by
  intro k hk
  by_cases hx : X k = true
  · exact hX k hx
  · have : ob ao k = true := by simpa [un, hx] using hk
    exact (h.block this).2
/-- The call's own block is new, as seen from a world before. -/
theorem OL.base_le (h : OL R sz X base e w ao cap l) {b' : Nat} (hb : b' ≤ base) : OL R sz X b' e w ao cap l := by
  obtain ⟨hx, us, h1, h2, h22, h3, h5⟩ := h
  refine ⟨hx, us, h1, h2, h22, ⟨h3.1, ?_⟩, h5⟩
  rcases h3.2 with h4 | ⟨g, c, cur, hv, h6, h8⟩
  · exact .inl h4
  · exact .inr ⟨g, c, cur, hv, by omega, h8⟩
end

section
variable {α : Type} {R : Mem → Value → α → Prop} {sz : Nat} {X : Nat → Bool} {base : Nat} {e : TypeId} {w : World} {ao : Option Addr} {cap : Nat} {l : List α} {P : Program}

/-- A list whose cells lie at an address. -/
def At (w : World) (ao : Option Addr) (us : List Value) : Prop := Hd ao us.length ∧ ∀ j u, (us.flatMap cellsL)[j]? = some u → w.cell? (adr ao j) = some u

theorem Sl.at_ (hR : Elem R sz) (h : Sl R sz (mk X w) ao l) : ∃ us : List Value, us.length = l.length ∧ At w ao us ∧ ∀ i (hi : i < us.length) (hi' : i < l.length), R (mk X w) us[i] l[i] := by
  have hpos := hR.pos
  have key : ∀ n, n ≤ l.length → ∃ us : List Value, us.length = n ∧ (∀ j u, (us.flatMap cellsL)[j]? = some u → w.cell? (adr ao j) = some u) ∧ ∀ i (hi : i < us.length) (hi' : i < l.length), R (mk X w) us[i] l[i] := by
    intro n
    induction n with
    | zero => intro _; exact ⟨[], rfl, by simp, by simp⟩
    | succ n ih =>
      intro hn
      obtain ⟨us, h1, h2, h3⟩ := ih (by omega)
      obtain ⟨u, h4, h5, h6⟩ := h.2 n (by omega)
      have hsz : ∀ v ∈ us, v.cells.size = sz := by
        intro v hv
        obtain ⟨i, hi, rfl⟩ := List.getElem_of_mem hv
        exact hR.size _ _ _ (h3 i hi (by omega))
      refine ⟨us ++ [u], by simp [h1], fun j x hj => ?_, fun i hi hi' => ?_⟩
      · rw [List.flatMap_append] at hj
        have hfl := flat_length us hsz
        by_cases hlt : j < us.length * sz
        · rw [List.getElem?_append_left (by omega)] at hj; exact h2 j x hj
        · rw [List.getElem?_append_right (by omega), hfl] at hj
          simp only [List.flatMap_cons, List.flatMap_nil, List.append_nil, cellsL] at hj
          obtain ⟨hj1, hj2⟩ := List.getElem?_eq_some_iff.1 hj
          have := h5 (j - us.length * sz) (by simpa using hj1)
          have ee : n * sz + (j - us.length * sz) = j := by rw [h1] at hlt ⊢; omega
          rw [ee] at this
          rw [mk_cell this]
          simp [← hj2]
      · by_cases hlt : i < us.length
        · simpa [List.getElem_append_left hlt] using h3 i hlt hi'
        · have : i = n := by simp at hi; omega
          subst this
          simpa [List.getElem_append_right, h1] using h6
  obtain ⟨us, h1, h2, h3⟩ := key l.length (Nat.le_refl _)
  exact ⟨us, h1, ⟨by rw [h1]; exact h.1, h2⟩, h3⟩

theorem At.length_zero {us : List Value} (h : At w none us) : us = [] := by
  cases us with
  | nil => rfl
  | cons u us => obtain ⟨b, off, hb⟩ := h.1 (by simp); simp at hb

theorem adr_addr {ad : Addr} (h : ad.spot = none) (j : Nat) : adr (some ad) j = ad.add j := by
  cases ad; simp at h; subst h; rw [Addr.add_lit]; rfl

theorem mkun_over {w' : World} {ao' : Option Addr} (hE : ExtX (ob ao) w w') (ho : ao' = ao ∨ ∃ g, ao' = some ⟨g, 0, none⟩ ∧ w.heap.size ≤ g) : Le (mk (un X ao) w) (mk (un X ao') w') := by
  refine mk_over hE (fun k _ hk => un_right hk) fun k hk hz => ?_
  rcases ho with rfl | ⟨g, rfl, hg⟩
  · exact hz
  · by_cases hx : X k = true
    · exact un_left hx
    · have : g = k := by simpa [un, hx, ob] using hz
      omega

/-- append of some elements that lie at an address. -/
theorem OL.run_append {t by_ : Nat} {z : Value} (T : SliceT P t e sz by_ z) (hzs : z.cells.size = sz) (hR : Elem R sz) (h : OL R sz X base e w ao cap l) (hbase : base ≤ w.heap.size) (hX : ∀ k, X k = true → k < w.heap.size)
    (as : Option Addr) (cs : Nat) (us' : List Value) (xs : List α) (hat : At w as us') (hlen : us'.length = xs.length) (hxs : ∀ i (hi : i < us'.length) (hi' : i < xs.length), R (mk (un X ao) w) us'[i] xs[i])
    (hroom : (l.length + xs.length) * by_ ≤ 140737488355328) (hmax : l.length + xs.length ≤ 9223372036854775807) (ty : TypeId) :
    ∃ ao' cap' w', (Builtin.append_ #[t, t] ty #[.slice ao l.length cap, .slice as xs.length cs]).run P w = .ok (.slice ao' (l ++ xs).length cap') w' ∧ OL R sz X base e w' ao' cap' (l ++ xs) ∧ ExtX (ob ao) w w' ∧
      (ao' = ao ∨ ∃ g, ao' = some ⟨g, 0, none⟩ ∧ w.heap.size ≤ g) := by
  obtain ⟨i, hi, hz, hsz, hby⟩ := info_parts T.info
  have hpos := hR.pos
  have hus' : ∀ u ∈ us', u.cells.size = sz := by
    intro v hv
    obtain ⟨i, hi, rfl⟩ := List.getElem_of_mem hv
    exact hR.size _ _ _ (hxs i hi (by omega))
  have hone' : ∀ u ∈ us'.flatMap cellsL, u.oneCell' = true := by
    intro c hc
    obtain ⟨v, hv, hcv⟩ := List.mem_flatMap.1 hc
    obtain ⟨i, hi, rfl⟩ := List.getElem_of_mem hv
    exact hR.one _ _ _ (hxs i hi (by omega)) c hcv
  by_cases hxe : xs = []
  · subst hxe
    have hu0 : us' = [] := List.eq_nil_of_length_eq_zero (by simpa using hlen)
    subst hu0
    refine ⟨ao, cap, w, ?_, by simpa using h, ExtX.refl w, .inl rfl⟩
    have hlc := h.lenCap
    have hsz' := hsz
    subst hsz
    cases as with
    | none => cases ao <;> simp [Builtin.append_, run_underlying T.und, sizeOf, typeInfo, hi, Builtin.lenOf, Builtin.firstCells, hlc, storeCells]
    | some as => cases ao <;> simp [Builtin.append_, run_underlying T.und, sizeOf, typeInfo, hi, Builtin.lenOf, Builtin.firstCells, loadCells, loadCellsFrom, hlc, storeCells]
  have hxpos : 0 < xs.length := by
    cases xs with
    | nil => exact absurd rfl hxe
    | cons x xs => simp
  obtain ⟨sb, so, rfl⟩ := hat.1 (by omega)
  have hnews : ∀ j u, (us'.flatMap cellsL)[j]? = some u → w.cell? ((⟨sb, so, none⟩ : Addr).add j) = some u := by
    intro j u hj
    rw [← adr_addr rfl]; exact hat.2 j u hj
  have hnl : (us'.flatMap cellsL).length = xs.length * i.size := by rw [flat_length us' hus', hlen, hsz]
  have hx := h.1
  have hcells := h.cells
  have hform := h.form
  obtain ⟨_, us, h1, h2, h22, h3, h5⟩ := h
  have hul : (us.flatMap cellsL).length = l.length * i.size := by rw [flat_length us h2, h1, hsz]
  have hfl : (us ++ us').flatMap cellsL = us.flatMap cellsL ++ us'.flatMap cellsL := List.flatMap_append
  have hnew : ∀ u ∈ us ++ us', u.cells.size = sz := by
    intro u hu
    rcases List.mem_append.1 hu with hu | hu
    · exact h2 u hu
    · exact hus' u hu
  have hnew1 : ∀ u ∈ us ++ us', ∀ c ∈ cellsL u, c.oneCell' = true := by
    intro u hu c hc
    rcases List.mem_append.1 hu with hu | hu
    · exact h22 u hu c hc
    · exact hone' c (List.mem_flatMap.2 ⟨u, hu, hc⟩)
  have hRs : ∀ (ao' : Option Addr) (w' : World), ExtX (ob ao) w w' → (ao' = ao ∨ ∃ g, ao' = some ⟨g, 0, none⟩ ∧ w.heap.size ≤ g) →
      ∀ i (hi : i < (us ++ us').length) (hi' : i < (l ++ xs).length), R (mk (un X ao') w') (us ++ us')[i] (l ++ xs)[i] := by
    intro ao' w' hE ho i hi hi'
    have hle := mkun_over (X := X) hE ho
    by_cases hlt : i < us.length
    · simpa [List.getElem_append_left hlt, List.getElem_append_left (show i < l.length by omega)] using hR.mono _ _ _ _ hle (h5 i hlt (by omega))
    · have hb1 : i - us.length < us'.length := by simp at hi; omega
      have := hR.mono _ _ _ _ hle (hxs (i - us.length) hb1 (by omega))
      simpa [List.getElem_append_right (show us.length ≤ i by omega), List.getElem_append_right (show l.length ≤ i by omega), h1] using this
  have grown : ∀ old, old < l.length + xs.length → ∃ g cur, g = w.heap.size ∧ cur = (us.flatMap cellsL).toArray ++ (us'.flatMap cellsL).toArray ++ Builtin.zeroCells z.cells (grownCap w (l.length + xs.length) old e - (l.length + xs.length)) ∧
      OL R sz X base e (w.drew.alloc (.cells cur e)) (some ⟨g, 0, none⟩) (grownCap w (l.length + xs.length) old e) (l ++ xs) ∧ ExtX (ob ao) w (w.drew.alloc (.cells cur e)) := by
    intro old ho
    refine ⟨_, _, rfl, rfl, ?_, ?_⟩
    · have hge := grownCap_ge w (l.length + xs.length) old e
      have hcm : grownCap w (l.length + xs.length) old e ≤ maxLen := grownCap_le_maxLen w (l.length + xs.length) old e (by simpa [maxLen] using hmax)
      have hE : ExtX (ob ao) w (w.drew.alloc (.cells ((us.flatMap cellsL).toArray ++ (us'.flatMap cellsL).toArray ++ Builtin.zeroCells z.cells (grownCap w (l.length + xs.length) old e - (l.length + xs.length))) e)) := ((ExtX.refl w).drew).alloc _
      refine ⟨fun k hk => ?_, us ++ us', by simp [h1, hlen], hnew, hnew1, ⟨by rw [hfl]; simp [hul, hnl, hsz, Nat.add_mul], .inr ⟨w.heap.size, _, _, by simp, hbase, heap_alloc_new w.drew _, by simpa using hge, hcm, ?_, ?_⟩⟩, hRs _ _ hE (.inr ⟨_, rfl, Nat.le_refl _⟩)⟩
      · have : w.heap.size = k := by simpa [ob] using hk
        cases hh : X k
        · rfl
        · have := hX k hh; omega
      · simp only [Array.size_append, List.size_toArray, size_zeroCells, hzs, hul, hnl, hsz, ← Nat.add_mul]
        congr 1; omega
      · rw [hfl]
        simp only [Array.toList_append, List.length_append]
        have hll : (l.length + xs.length) * sz = (us.flatMap cellsL ++ us'.flatMap cellsL).length := by simp [hul, hnl, hsz, Nat.add_mul]
        rw [hll]
        exact List.take_left
    · exact ((ExtX.refl w).drew).alloc _
  have hll : (l ++ xs).length = l.length + xs.length := List.length_append
  rcases hform with ⟨rfl, rfl, rfl⟩ | ⟨g, cur, rfl, h6, h7, h8, h9, h10⟩
  · have hu0 : us = [] := List.eq_nil_of_length_eq_zero (by simpa using h1)
    subst hu0
    obtain ⟨g, cur, rfl, hcur, hOL, hE⟩ := grown 0 (by simp; omega)
    have hr := run_append_nil (P := P) w t ty e i z T.und hi hz ⟨sb, so, none⟩ xs.length cs (us'.flatMap cellsL) hnl hnews hxpos (by simp at hmax; omega) (by simp at hroom; rw [hby]; omega)
    simp only [List.flatMap_nil, List.length_nil, Nat.zero_add, List.nil_append, Array.empty_append] at hOL hE hcur hr ⊢
    subst hcur
    exact ⟨_, _, _, hr, hOL, hE, .inr ⟨_, rfl, Nat.le_refl _⟩⟩
  · by_cases hroom' : l.length + xs.length ≤ cap
    · have hfit : l.length * i.size + (us'.flatMap cellsL).length ≤ cur.size := by rw [hnl, h10, ← hsz, ← Nat.add_mul]; exact Nat.mul_le_mul_right _ hroom'
      have hr := run_append_room (P := P) w t ty e i T.und hi g l.length cap cur h7 ⟨sb, so, none⟩ xs.length cs (us'.flatMap cellsL) hnl hnews hone' hroom' hfit
      have hE : ExtX (ob (some ⟨g, 0, none⟩)) w (w.setRow g (cur.toList.take (l.length * i.size) ++ us'.flatMap cellsL ++ cur.toList.drop (l.length * i.size + (us'.flatMap cellsL).length)).toArray) :=
        ⟨rfl, rfl, rfl, by simp, fun k _ hk => setRow_other w g k _ (fun ek => by subst ek; simp [ob] at hk)⟩
      refine ⟨_, _, _, by rw [hll]; exact hr, ⟨hx, us ++ us', by simp [h1, hlen], hnew, hnew1, ⟨by rw [hfl]; simp [hul, hnl, hsz, Nat.add_mul], .inr ⟨g, cap, _, by rw [hll], h6, setRow_heap w g cur _ e _ h7, by rw [hll]; exact hroom', h9, ?_, ?_⟩⟩, hRs _ _ hE (.inl rfl)⟩, hE, .inl rfl⟩
      · simp only [List.size_toArray, List.length_append, List.length_take, List.length_drop, Array.length_toList]; omega
      · rw [hfl, hll]
        rcases h3.2 with ⟨hv, _⟩ | ⟨g', c', cur', hv, _, h7', _, _, _, h11⟩
        · simp at hv
        simp at hv
        obtain ⟨rfl, rfl⟩ := hv
        rw [h7] at h7'
        obtain rfl : cur = cur' := by simpa using h7'
        have e1 : cur.toList.take (l.length * i.size) = us.flatMap cellsL := by rw [hsz]; exact h11
        rw [e1]
        have hll2 : (l.length + xs.length) * sz = (us.flatMap cellsL ++ us'.flatMap cellsL).length := by simp [hul, hnl, hsz, Nat.add_mul]
        rw [hll2]
        exact List.take_left
    · have holds : ∀ j u, (us.flatMap cellsL)[j]? = some u → w.cell? ((⟨g, 0, none⟩ : Addr).add j) = some u := h3.cells (g := g) rfl
      have hr := run_append_grow (P := P) w t ty e i z T.und hi hz ⟨g, 0, none⟩ l.length cap (us.flatMap cellsL) hul holds ⟨sb, so, none⟩ xs.length cs (us'.flatMap cellsL) hnl hnews (by omega) (by omega) (growslice_fits (by omega) (by rw [hby]; exact hroom))
      obtain ⟨g', cur', rfl, hcur, hOL, hE⟩ := grown cap (by omega)
      subst hcur
      exact ⟨_, _, _, by rw [hll]; exact hr, hOL, hE, .inr ⟨_, rfl, Nat.le_refl _⟩⟩

/-- make of a slice. -/
theorem OL.run_make {t by_ : Nat} {z : Value} (T : SliceT P t e sz by_ z) (hR : Elem R sz) (x0 : α) (hz : ∀ h, R h z x0) (hX : ∀ k, X k = true → k < w.heap.size) (hbase : base ≤ w.heap.size)
    (kl kc : IntKind) (n : Nat) (hroom : by_ * n ≤ 281474976710656) (hmax : n ≤ 9223372036854775807) :
    ∃ ao w', (Instr.makeSlice t (.int kl (n : Int)) (.int kc (n : Int))).run P w = .ok (.slice ao n n) w' ∧ OL R sz X base e w' ao n (List.replicate n x0) ∧ Ext w w' := by
  obtain ⟨i, hi, hiz, hsz, hby⟩ := info_parts T.info
  have hzs : z.cells.size = sz := hR.size (fun _ => none) z x0 (hz _)
  have hpos := hR.pos
  have hr := Go.run_make (P := P) w t e i z T.und hi hiz kl kc n n (by omega) (Int.le_refl _) (by rw [hby, ← Int.natCast_mul]; omega) (by omega)
  simp only [Int.toNat_natCast] at hr
  refine ⟨_, _, hr, ⟨fun k hk => ?_, List.replicate n z, by simp, by intro u hu; rw [List.eq_of_mem_replicate hu]; exact hzs, by intro u hu; rw [List.eq_of_mem_replicate hu]; exact hR.one (fun _ => none) z x0 (hz _), ⟨?_, .inr ⟨w.heap.size, n, _, by simp, hbase, heap_alloc_new w _, by simp, by simpa [maxLen] using hmax, by rw [size_madeCells, hsz], ?_⟩⟩, fun i hi hi' => by simpa using hz _⟩, (ExtX.refl w).alloc _⟩
  · have : w.heap.size = k := by simpa [ob] using hk
    cases hh : X k
    · rfl
    · have := hX k hh; omega
  · rw [flat_length (sz := sz) _ (by intro u hu; rw [List.eq_of_mem_replicate hu]; exact hzs)]
    simp
  · apply List.ext_getElem?
    intro j
    simp only [List.length_replicate]
    by_cases hj : j < n * sz
    · rw [List.getElem?_take_of_lt hj]
      have hg := flat_get (sz := sz) (List.replicate n z) (j / sz) (j % sz) (by simpa using Nat.div_lt_of_lt_mul (by rw [Nat.mul_comm]; exact hj)) (by intro u hu; rw [List.eq_of_mem_replicate hu]; exact hzs) (Nat.mod_lt _ hpos)
      have ej : j / sz * sz + j % sz = j := by rw [Nat.mul_comm]; exact Nat.div_add_mod j sz
      rw [ej] at hg
      rw [hg]
      simp [madeCells, hsz, hj, cellsL, hzs]
      rw [Array.getElem?_eq_getElem (by rw [hzs]; exact Nat.mod_lt _ hpos)]
      rw [getElem!_pos]
    · rw [List.getElem?_eq_none (by simp [size_madeCells, hsz]; omega), List.getElem?_eq_none]
      rw [flat_length (sz := sz) _ (by intro u hu; rw [List.eq_of_mem_replicate hu]; exact hzs)]
      simp; omega

/-- A store of an element. -/
theorem OL.run_store {t : TypeId} {ti : TypeInfo} (ht : P.info? t = some ti) (hts : ti.size = sz) (hR : Elem R sz) (h : OL R sz X base e w ao cap l) (i : Nat) (hi : i < l.length) (u : Value) (x : α) (hu : R (mk (un X ao) w) u x) :
    ∃ w', (storeVar t (adr ao (i * sz)) u).run P w = .ok () w' ∧ OL R sz X base e w' ao cap (l.set i x) ∧ ExtX (ob ao) w w' := by
  have hus := hR.size _ _ _ hu
  have hu1 := hR.one _ _ _ hu
  have hform := h.form
  obtain ⟨hx, us, h1, h2, h22, h3, h5⟩ := h
  rcases hform with ⟨rfl, rfl, rfl⟩ | ⟨g, cur, rfl, h6, h7, h8, h9, h10⟩
  · simp at hi
  have hadr : adr (some ⟨g, 0, none⟩) (i * sz) = ⟨g, i * sz, none⟩ := by simp [adr]
  have hsub : (i + 1) * sz ≤ l.length * sz := Nat.mul_le_mul_right _ hi
  have hsub2 : l.length * sz ≤ cap * sz := Nat.mul_le_mul_right _ h8
  rw [Nat.succ_mul] at hsub
  have hst := run_storeCells_at P g (i * sz) e (cellsL u) 0 cur w h7 (by simp [cellsL, hus, h10]; omega) hu1
  have hE : ExtX (ob (some ⟨g, 0, none⟩)) w (w.setRow g (cur.toList.take (i * sz + 0) ++ cellsL u ++ cur.toList.drop (i * sz + 0 + (cellsL u).length)).toArray) :=
    ⟨rfl, rfl, rfl, by simp, fun k _ hk => setRow_other w g k _ (fun ek => by subst ek; simp [ob] at hk)⟩
  have hne : ∀ v ∈ us.set i u, v.cells.size = sz := by
    intro v hv
    rcases List.mem_or_eq_of_mem_set hv with hv | rfl
    · exact h2 v hv
    · exact hus
  refine ⟨_, ?_, ⟨hx, us.set i u, by simp [h1], hne, ?_, ⟨?_, .inr ⟨g, cap, _, by simp, h6, setRow_heap w g cur _ e _ h7, by simpa using h8, h9, ?_, ?_⟩⟩, ?_⟩, hE⟩
  · rw [hadr]
    simp [storeVar, sizeOf, typeInfo, ht, hts, hus]
    simpa [cellsL] using hst
  · intro v hv
    rcases List.mem_or_eq_of_mem_set hv with hv | rfl
    · exact h22 v hv
    · exact hu1
  · rw [flat_length _ hne]; simp [h1]
  · have hlu : (cellsL u).length = sz := by simp [cellsL, hus]
    simp only [List.size_toArray, List.length_append, List.length_take, List.length_drop, Array.length_toList, hlu, h10, Nat.add_zero]
    omega
  · rcases h3.2 with ⟨hv, _⟩ | ⟨g', c', cur', hv, _, h7', _, _, _, h11⟩
    · simp at hv
    simp at hv
    obtain ⟨rfl, rfl⟩ := hv
    rw [h7] at h7'
    obtain rfl : cur = cur' := by simpa using h7'
    have hlu : (cellsL u).length = sz := by simp [cellsL, hus]
    have hcl : cur.toList.length = cap * sz := by simp [h10]
    rw [flat_set us i u (by omega) h2 hus, ← h11]
    simp only [List.length_set, Nat.add_zero]
    have hA : (cur.toList.take (i * sz)).length = i * sz := by rw [List.length_take, hcl]; omega
    rw [hlu, List.take_append, List.take_of_length_le (by rw [List.length_append, hA, hlu]; omega), List.length_append, hA, hlu, List.take_take, Nat.min_eq_left (by omega), List.drop_take]
  · intro j hj hj'
    have hle : Le (mk (un X (some ⟨g, 0, none⟩)) w) (mk (un X (some ⟨g, 0, none⟩)) _) := mkun_over hE (.inl rfl)
    by_cases hji : i = j
    · subst hji; simpa using hR.mono _ _ _ _ hle hu
    · have := hR.mono _ _ _ _ hle (h5 j (by simpa using hj) (by simpa using hj'))
      simpa [List.getElem_set, hji] using this
end
end Go.Rep
