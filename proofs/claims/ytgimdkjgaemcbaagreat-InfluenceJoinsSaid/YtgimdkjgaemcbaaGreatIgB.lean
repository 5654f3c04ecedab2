/- Parts of a proof: each theorem states what it proves, and its conditions. -/
import Derived.Test.YtgimdkjgaemcbaaGreatIgA
import Derived.Laws.CopyOwn
import Derived.Test.YtgimdkjgaemcbaaGreatRows
import Derived.Deep.QuietTactic
import Derived.BigQuiet
import Derived.Laws.Bits64b
namespace Go.Rep
open Go.RowKit
def cellsL (u : Value) : List Value := u.cells.toList
theorem flat_length {sz : Nat} : ∀ (us : List Value), (∀ u ∈ us, u.cells.size = sz) -> (us.flatMap cellsL).length = us.length * sz
  | [], _ => by simp
  | u :: us, h => by
    rw [List.flatMap_cons, List.length_append, flat_length us (fun x hx => h x (List.mem_cons_of_mem _ hx)), List.length_cons, Nat.succ_mul]
    have : (cellsL u).length = sz := by simp [cellsL, h u (List.mem_cons_self ..)]
    omega
theorem flat_get {sz : Nat} : ∀ (us : List Value) (i j : Nat) (hi : i < us.length), (∀ u ∈ us, u.cells.size = sz) -> j < sz -> (us.flatMap cellsL)[i * sz + j]? = (cellsL us[i])[j]?
  | u :: us, i, j, hi, h, hj => by
    have hu : (cellsL u).length = sz := by simp [cellsL, h u (List.mem_cons_self ..)]
    rw [List.flatMap_cons]
    match i with
    | 0 =>
      simp only [Nat.zero_mul, Nat.zero_add, List.getElem_cons_zero]
      rw [List.getElem?_append_left (by omega)]
    | i + 1 =>
      rw [List.getElem?_append_right (by rw [hu, Nat.succ_mul]; omega), hu]
      have e : (i + 1) * sz + j - sz = i * sz + j := by rw [Nat.succ_mul]; omega
      rw [e]
      simpa using flat_get us i j (by simpa using hi) (fun x hx => h x (List.mem_cons_of_mem _ hx)) hj
theorem flat_set {sz : Nat} : ∀ (us : List Value) (i : Nat) (u : Value), i < us.length -> (∀ u ∈ us, u.cells.size = sz) -> u.cells.size = sz ->
    (us.set i u).flatMap cellsL = (us.flatMap cellsL).take (i * sz) ++ cellsL u ++ (us.flatMap cellsL).drop (i * sz + sz)
  | v :: us, i, u, hi, h, hu => by
    have hv : (cellsL v).length = sz := by simp [cellsL, h v (List.mem_cons_self ..)]
    match i with
    | 0 =>
      simp only [List.set_cons_zero, List.flatMap_cons, Nat.zero_mul, List.take_zero, List.nil_append, Nat.zero_add]
      rw [List.drop_append_of_le_length (by omega), List.drop_of_length_le (by omega), List.nil_append]
    | i + 1 =>
      have ih := flat_set us i u (by simpa using hi) (fun x hx => h x (List.mem_cons_of_mem _ hx)) hu
      simp only [List.set_cons_succ, List.flatMap_cons]
      have e1 : (i + 1) * sz = (cellsL v).length + i * sz := by rw [Nat.succ_mul]; omega
      rw [ih, e1, List.take_length_add_append, Nat.add_assoc, List.drop_length_add_append]
      simp only [List.append_assoc]
structure Elem {α : Type} (R : Mem -> Value -> α -> Prop) (sz : Nat) : Prop where
  mono : Mono R
  size : ∀ (h : Mem) (u : Value) (x : α), R h u x -> u.cells.size = sz
  one : ∀ (h : Mem) (u : Value) (x : α), R h u x -> ∀ c ∈ cellsL u, c.oneCell' = true
  pos : 0 < sz
theorem NatIn.elem (k : IntKind) : Elem (NatIn k) 1 := ⟨NatIn.mono k, by rintro h u x rfl; rfl, by rintro h u x rfl c hc; simp [cellsL, Value.cells] at hc; subst hc; rfl, Nat.one_pos⟩
theorem IntIn.elem (k : IntKind) : Elem (IntIn k) 1 := ⟨IntIn.mono k, by rintro h u x rfl; rfl, by rintro h u x rfl c hc; simp [cellsL, Value.cells] at hc; subst hc; rfl, Nat.one_pos⟩
theorem SlV.elem {α : Type} {R : Mem -> Value -> α -> Prop} {sz : Nat} (h : Elem R sz) : Elem (SlV R sz) 1 :=
  ⟨SlV.mono h.mono sz, by rintro h u x ⟨ao, cap, rfl, _⟩; rfl, by rintro h u x ⟨ao, cap, rfl, _⟩ c hc; simp [cellsL, Value.cells] at hc; subst hc; rfl, Nat.one_pos⟩
def OL {α : Type} (R : Mem -> Value -> α -> Prop) (sz : Nat) (X : Nat -> Bool) (base : Nat) (e : TypeId) (w : World) (ao : Option Addr) (cap : Nat) (l : List α) : Prop :=
  (∀ k, ob ao k = true -> X k = false) /\
  ∃ us : List Value, us.length = l.length /\ (∀ u ∈ us, u.cells.size = sz) /\ (∀ u ∈ us, ∀ c ∈ cellsL u, c.oneCell' = true) /\ w.ownsRow base e sz (.slice ao l.length cap) l.length (us.flatMap cellsL) /\
    ∀ i (hi : i < us.length) (hi' : i < l.length), R (mk (un X ao) w) us[i] l[i]
section
variable {α : Type} {R : Mem -> Value -> α -> Prop} {sz : Nat} {X : Nat -> Bool} {base : Nat} {e : TypeId} {w : World} {ao : Option Addr} {cap : Nat} {l : List α}
theorem OL.nil (R : Mem -> Value -> α -> Prop) (sz : Nat) (X : Nat -> Bool) (base : Nat) (e : TypeId) (w : World) : OL R sz X base e w none 0 [] :=
  ⟨fun _ h => by simp [ob] at h, [], rfl, by simp, by simp, World.ownsRow_nil w base e sz, fun i hi => by simp at hi⟩
theorem OL.form (h : OL R sz X base e w ao cap l) : (ao = none /\ cap = 0 /\ l = []) \/ ∃ g cur, ao = some ⟨g, 0, none⟩ /\ base <= g /\ w.heap[g]? = some (.cells cur e (0, 0)) /\ l.length <= cap /\ cap <= maxLen /\ cur.size = cap * sz := by
  obtain ⟨_, us, h1, h2, _, ⟨h3, h4⟩, h5⟩ := h
  rcases h4 with ⟨hv, hn⟩ | ⟨g, c, cur, hv, h6, h7, h8, h9, h10, h11⟩
  · left
    simp at hv
    exact ⟨hv.1, hv.2.2, List.eq_nil_of_length_eq_zero hn⟩
  · right
    simp at hv
    obtain ⟨rfl, rfl⟩ := hv
    exact ⟨g, cur, rfl, h6, h7, h8, h9, h10⟩
theorem OL.block (h : OL R sz X base e w ao cap l) {k : Nat} (hk : ob ao k = true) : base <= k /\ k < w.heap.size := by
  rcases h.form with ⟨rfl, _⟩ | ⟨g, cur, rfl, h6, h7, _⟩
  · simp [ob] at hk
  · have : g = k := by simpa [ob] using hk
    subst this
    refine ⟨h6, ?_⟩
    by_cases hl : g < w.heap.size
    · exact hl
    · rw [Array.getElem?_eq_none (by omega)] at h7; simp at h7
theorem OL.ob_lt (h : OL R sz X base e w ao cap l) {k : Nat} (hk : k < base) : ob ao k = false := by
  cases hb : ob ao k
  · rfl
  · have := h.block hb; omega
theorem OL.lenCap (h : OL R sz X base e w ao cap l) : l.length <= cap := by
  rcases h.form with ⟨_, _, rfl⟩ | ⟨g, cur, _, _, _, h8, _⟩
  · simp
  · exact h8
theorem OL.hd (h : OL R sz X base e w ao cap l) : Hd ao l.length := by
  intro hn
  rcases h.form with ⟨_, _, rfl⟩ | ⟨g, cur, rfl, _⟩
  · simp at hn
  · exact ⟨g, 0, rfl⟩
theorem OL.cells (h : OL R sz X base e w ao cap l) : ∃ us : List Value, us.length = l.length /\ (∀ u ∈ us, u.cells.size = sz) /\ (∀ u ∈ us, ∀ c ∈ cellsL u, c.oneCell' = true) /\
    (∀ j u, (us.flatMap cellsL)[j]? = some u -> w.cell? (adr ao j) = some u /\ w.frozen? (adr ao j) = false) /\ ∀ i (hi : i < us.length) (hi' : i < l.length), R (mk (un X ao) w) us[i] l[i] := by
  have hf := h.form
  obtain ⟨hx, us, h1, h2, h22, ⟨h3, h4⟩, h5⟩ := h
  refine ⟨us, h1, h2, h22, fun j u hj => ?_, h5⟩
  have hlt : j < l.length * sz := by
    rw [<- h3]
    exact (List.getElem?_eq_some_iff.1 hj).1
  rcases hf with ⟨_, _, rfl⟩ | ⟨g, cur, rfl, h6, h7, h8, h9, h10⟩
  · simp at hlt
  rcases h4 with ⟨hv, hn⟩ | ⟨g', c, cur', hv, _, h7', _, _, _, h11⟩
  · simp at hv
  simp at hv
  obtain ⟨rfl, rfl⟩ := hv
  rw [h7] at h7'
  obtain rfl : cur = cur' := by simpa using h7'
  rw [<- h11, List.getElem?_take_of_lt hlt] at hj
  have hadr : adr (some ⟨g, 0, none⟩) j = ⟨g, j, none⟩ := by simp [adr]
  rw [hadr]
  simp only [Array.getElem?_toList] at hj
  simp [World.cell?, World.frozen?, h7, hj]
theorem OL.sl (hR : Elem R sz) (h : OL R sz X base e w ao cap l) : Sl R sz (mk X w) ao l := by
  refine ⟨h.hd, fun i hi => ?_⟩
  have hf := h.form
  have hx := h.1
  obtain ⟨us, h1, h2, _, h3, h5⟩ := h.cells
  have hi' : i < us.length := by omega
  refine ⟨us[i], h2 _ (List.getElem_mem _), fun j hj => ?_, hR.mono _ _ _ _ (mk_sub fun k _ hk => un_left hk) (h5 i hi' hi)⟩
  have hsz : us[i].cells.size = sz := h2 _ (List.getElem_mem _)
  have hget := flat_get us i j hi' h2 (by omega)
  have hc : (cellsL us[i])[j]? = some us[i].cells[j] := by simp [cellsL, hj]
  rw [hc] at hget
  have hg := (h3 _ _ hget).1
  unfold mk
  have : X (adr ao (i * sz + j)).block = false := by
    rcases hf with ⟨_, _, rfl⟩ | ⟨g, cur, rfl, _⟩
    · simp at hi
    · exact hx _ (by simp [ob, adr])
  rw [this]
  simpa using hg
theorem OL.cell (h1c : OneCell R) (h : OL R 1 X base e w ao cap l) (i : Nat) (hi : i < l.length) :
    ∃ u, w.cell? (adr ao i) = some u /\ w.frozen? (adr ao i) = false /\ R (mk (un X ao) w) u l[i] := by
  obtain ⟨us, h1, h2, _, h3, h5⟩ := h.cells
  have hi' : i < us.length := by omega
  have hsz : us[i].cells.size = 1 := h2 _ (List.getElem_mem _)
  have hget := flat_get us i 0 hi' h2 (by omega)
  have hc : (cellsL us[i])[0]? = some us[i].cells[0] := by simp [cellsL]
  rw [hc] at hget
  have hu := h1c _ _ _ (h5 i hi' hi)
  have := h3 _ _ hget
  simp only [Nat.mul_one, Nat.add_zero, hu] at this
  exact ⟨us[i], this.1, this.2, h5 i hi' hi⟩
theorem OL.ext (hR : Elem R sz) {Y Z : Nat -> Bool} {w' : World} (h : OL R sz X base e w ao cap l) (hE : ExtX Y w w') (hY : ∀ k, k < w.heap.size -> Y k = true -> X k = true) (hZ : ∀ k, k < w.heap.size -> Z k = true -> X k = true) : OL R sz Z base e w' ao cap l := by
  have hb := fun k (hk : ob ao k = true) => h.block hk
  obtain ⟨hx, us, h1, h2, h22, h3, h5⟩ := h
  refine ⟨fun k hk => ?_, us, h1, h2, h22, ?_, fun i hi hi' => hR.mono _ _ _ _ (mk_over hE (fun k hk hy => un_left (hY k hk hy)) (fun k hk hz => ?_)) (h5 i hi hi')⟩
  · cases hh : Z k
    · rfl
    · have := hZ k (hb k hk).2 hh; rw [hx k hk] at this; simp at this
  · refine ⟨h3.1, ?_⟩
    rcases h3.2 with h4 | ⟨g, c, cur, hv, h6, h7, h8⟩
    · exact .inl h4
    · refine .inr ⟨g, c, cur, hv, h6, ?_, h8⟩
      simp at hv
      obtain ⟨rfl, rfl⟩ := hv
      have hk : ob (some ⟨g, 0, none⟩) g = true := by simp [ob]
      rw [hE.block g (hb g hk).2, h7]
      cases hh : Y g
      · rfl
      · have := hY g (hb g hk).2 hh; rw [hx g hk] at this; simp at this
  · cases hh : Z k
    · simp [un, hh] at hz; exact un_right hz
    · exact un_left (hZ k hk hh)
theorem OL.ext0 (hR : Elem R sz) {w' : World} (h : OL R sz X base e w ao cap l) (hE : Ext w w') : OL R sz X base e w' ao cap l :=
  h.ext hR hE (fun k _ hk => by simp [noY] at hk) (fun _ _ h => h)
theorem ExtX.own {Y : Nat -> Bool} {w0 w' : World} (h : ExtX Y w0 w) (ho : OL R sz X base e w ao cap l) (hb : w0.heap.size <= base) (hE : ExtX (ob ao) w w') : ExtX Y w0 w' :=
  h.then_ hE fun i hi _ => by
    cases hk : ob ao i
    · rfl
    · have := ho.block hk; omega
theorem OL.unX (h : OL R sz X base e w ao cap l) (hX : ∀ k, X k = true -> k < w.heap.size) : ∀ k, un X ao k = true -> k < w.heap.size := by
  intro k hk
  by_cases hx : X k = true
  · exact hX k hx
  · have : ob ao k = true := by simpa [un, hx] using hk
    exact (h.block this).2
theorem OL.base_le (h : OL R sz X base e w ao cap l) {b' : Nat} (hb : b' <= base) : OL R sz X b' e w ao cap l := by
  obtain ⟨hx, us, h1, h2, h22, h3, h5⟩ := h
  refine ⟨hx, us, h1, h2, h22, ⟨h3.1, ?_⟩, h5⟩
  rcases h3.2 with h4 | ⟨g, c, cur, hv, h6, h8⟩
  · exact .inl h4
  · exact .inr ⟨g, c, cur, hv, by omega, h8⟩
end
section
variable {α : Type} {R : Mem -> Value -> α -> Prop} {sz : Nat} {X : Nat -> Bool} {base : Nat} {e : TypeId} {w : World} {ao : Option Addr} {cap : Nat} {l : List α} {P : Program}
def At (w : World) (ao : Option Addr) (us : List Value) : Prop := Hd ao us.length /\ ∀ j u, (us.flatMap cellsL)[j]? = some u -> w.cell? (adr ao j) = some u
theorem Sl.at_ (hR : Elem R sz) (h : Sl R sz (mk X w) ao l) : ∃ us : List Value, us.length = l.length /\ At w ao us /\ ∀ i (hi : i < us.length) (hi' : i < l.length), R (mk X w) us[i] l[i] := by
  have hpos := hR.pos
  have key : ∀ n, n <= l.length -> ∃ us : List Value, us.length = n /\ (∀ j u, (us.flatMap cellsL)[j]? = some u -> w.cell? (adr ao j) = some u) /\ ∀ i (hi : i < us.length) (hi' : i < l.length), R (mk X w) us[i] l[i] := by
    intro n
    induction n with
    | zero => intro _; exact ⟨[], rfl, by simp, by simp⟩
    | succ n ih =>
      intro hn
      obtain ⟨us, h1, h2, h3⟩ := ih (by omega)
      obtain ⟨u, h4, h5, h6⟩ := h.2 n (by omega)
      have hsz : ∀ v ∈ us, v.cells.size = sz := by
        intro v hv
        obtain ⟨i, hi, rfl⟩ := List.getElem_of_mem hv
        exact hR.size _ _ _ (h3 i hi (by omega))
      refine ⟨us ++ [u], by simp [h1], fun j x hj => ?_, fun i hi hi' => ?_⟩
      · rw [List.flatMap_append] at hj
        have hfl := flat_length us hsz
        by_cases hlt : j < us.length * sz
        · rw [List.getElem?_append_left (by omega)] at hj; exact h2 j x hj
        · rw [List.getElem?_append_right (by omega), hfl] at hj
          simp only [List.flatMap_cons, List.flatMap_nil, List.append_nil, cellsL] at hj
          obtain ⟨hj1, hj2⟩ := List.getElem?_eq_some_iff.1 hj
          have := h5 (j - us.length * sz) (by simpa using hj1)
          have ee : n * sz + (j - us.length * sz) = j := by rw [h1] at hlt |-; omega
          rw [ee] at this
          rw [mk_cell this]
          simp [<- hj2]
      · by_cases hlt : i < us.length
        · simpa [List.getElem_append_left hlt] using h3 i hlt hi'
        · have : i = n := by simp at hi; omega
          subst this
          simpa [List.getElem_append_right, h1] using h6
  obtain ⟨us, h1, h2, h3⟩ := key l.length (Nat.le_refl _)
  exact ⟨us, h1, ⟨by rw [h1]; exact h.1, h2⟩, h3⟩
theorem adr_addr {ad : Addr} (h : ad.spot = none) (j : Nat) : adr (some ad) j = ad.add j := by
  cases ad; simp at h; subst h; rw [Addr.add_lit]; rfl
theorem mkun_over {w' : World} {ao' : Option Addr} (hE : ExtX (ob ao) w w') (ho : ao' = ao \/ ∃ g, ao' = some ⟨g, 0, none⟩ /\ w.heap.size <= g) : Le (mk (un X ao) w) (mk (un X ao') w') := by
  refine mk_over hE (fun k _ hk => un_right hk) fun k hk hz => ?_
  rcases ho with rfl | ⟨g, rfl, hg⟩
  · exact hz
  · by_cases hx : X k = true
    · exact un_left hx
    · have : g = k := by simpa [un, hx, ob] using hz
      omega
theorem OL.run_append {t by_ : Nat} {z : Value} (T : SliceT P t e sz by_ z) (hzs : z.cells.size = sz) (hR : Elem R sz) (h : OL R sz X base e w ao cap l) (hbase : base <= w.heap.size) (hX : ∀ k, X k = true -> k < w.heap.size)
    (asl : Option Addr) (cs : Nat) (us' : List Value) (xs : List α) (hat : At w asl us') (hlen : us'.length = xs.length) (hxs : ∀ i (hi : i < us'.length) (hi' : i < xs.length), R (mk (un X ao) w) us'[i] xs[i])
    (hroom : (l.length + xs.length) * by_ <= 140737488355328) (hmax : l.length + xs.length <= 9223372036854775807) (ty : TypeId) :
    ∃ ao' cap' w', (Builtin.append_ #[t, t] ty #[.slice ao l.length cap, .slice asl xs.length cs]).run P w = .ok (.slice ao' (l ++ xs).length cap') w' /\ OL R sz X base e w' ao' cap' (l ++ xs) /\ ExtX (ob ao) w w' /\
      (ao' = ao \/ ∃ g, ao' = some ⟨g, 0, none⟩ /\ w.heap.size <= g) := by
  obtain ⟨i, hi, hz, hsz, hby⟩ := info_parts T.info
  have hpos := hR.pos
  have hus' : ∀ u ∈ us', u.cells.size = sz := by
    intro v hv
    obtain ⟨i, hi, rfl⟩ := List.getElem_of_mem hv
    exact hR.size _ _ _ (hxs i hi (by omega))
  have hone' : ∀ u ∈ us'.flatMap cellsL, u.oneCell' = true := by
    intro c hc
    obtain ⟨v, hv, hcv⟩ := List.mem_flatMap.1 hc
    obtain ⟨i, hi, rfl⟩ := List.getElem_of_mem hv
    exact hR.one _ _ _ (hxs i hi (by omega)) c hcv
  by_cases hxe : xs = []
  · subst hxe
    have hu0 : us' = [] := List.eq_nil_of_length_eq_zero (by simpa using hlen)
    subst hu0
    refine ⟨ao, cap, w, ?_, by simpa using h, ExtX.refl w, .inl rfl⟩
    have hlc := h.lenCap
    have hsz' := hsz
    subst hsz
    cases asl with
    | none => cases ao <;> simp [Builtin.append_, run_underlying T.und, sizeOf, typeInfo, hi, Builtin.lenOf, Builtin.firstCells, hlc, storeCells]
    | some asl => cases ao <;> simp [Builtin.append_, run_underlying T.und, sizeOf, typeInfo, hi, Builtin.lenOf, Builtin.firstCells, loadCells, loadCellsFrom, hlc, storeCells]
  have hxpos : 0 < xs.length := by
    cases xs with
    | nil => exact absurd rfl hxe
    | cons x xs => simp
  obtain ⟨sb, so, rfl⟩ := hat.1 (by omega)
  have hnews : ∀ j u, (us'.flatMap cellsL)[j]? = some u -> w.cell? ((⟨sb, so, none⟩ : Addr).add j) = some u := by
    intro j u hj
    rw [<- adr_addr rfl]; exact hat.2 j u hj
  have hnl : (us'.flatMap cellsL).length = xs.length * i.size := by rw [flat_length us' hus', hlen, hsz]
  have hx := h.1
  have hcells := h.cells
  have hform := h.form
  obtain ⟨_, us, h1, h2, h22, h3, h5⟩ := h
  have hul : (us.flatMap cellsL).length = l.length * i.size := by rw [flat_length us h2, h1, hsz]
  have hfl : (us ++ us').flatMap cellsL = us.flatMap cellsL ++ us'.flatMap cellsL := List.flatMap_append
  have hnew : ∀ u ∈ us ++ us', u.cells.size = sz := by
    intro u hu
    rcases List.mem_append.1 hu with hu | hu
    · exact h2 u hu
    · exact hus' u hu
  have hnew1 : ∀ u ∈ us ++ us', ∀ c ∈ cellsL u, c.oneCell' = true := by
    intro u hu c hc
    rcases List.mem_append.1 hu with hu | hu
    · exact h22 u hu c hc
    · exact hone' c (List.mem_flatMap.2 ⟨u, hu, hc⟩)
  have hRs : ∀ (ao' : Option Addr) (w' : World), ExtX (ob ao) w w' -> (ao' = ao \/ ∃ g, ao' = some ⟨g, 0, none⟩ /\ w.heap.size <= g) ->
      ∀ i (hi : i < (us ++ us').length) (hi' : i < (l ++ xs).length), R (mk (un X ao') w') (us ++ us')[i] (l ++ xs)[i] := by
    intro ao' w' hE ho i hi hi'
    have hle := mkun_over (X := X) hE ho
    by_cases hlt : i < us.length
    · simpa [List.getElem_append_left hlt, List.getElem_append_left (show i < l.length by omega)] using hR.mono _ _ _ _ hle (h5 i hlt (by omega))
    · have hb1 : i - us.length < us'.length := by simp at hi; omega
      have := hR.mono _ _ _ _ hle (hxs (i - us.length) hb1 (by omega))
      simpa [List.getElem_append_right (show us.length <= i by omega), List.getElem_append_right (show l.length <= i by omega), h1] using this
  have grown : ∀ old, old < l.length + xs.length -> ∃ g cur, g = w.heap.size /\ cur = (us.flatMap cellsL).toArray ++ (us'.flatMap cellsL).toArray ++ Builtin.zeroCells z.cells (grownCap w (l.length + xs.length) old e - (l.length + xs.length)) /\
      OL R sz X base e (w.drew.alloc (.cells cur e)) (some ⟨g, 0, none⟩) (grownCap w (l.length + xs.length) old e) (l ++ xs) /\ ExtX (ob ao) w (w.drew.alloc (.cells cur e)) := by
    intro old ho
    refine ⟨_, _, rfl, rfl, ?_, ?_⟩
    · have hge := grownCap_ge w (l.length + xs.length) old e
      have hcm : grownCap w (l.length + xs.length) old e <= maxLen := grownCap_le_maxLen w (l.length + xs.length) old e (by simpa [maxLen] using hmax)
      have hE : ExtX (ob ao) w (w.drew.alloc (.cells ((us.flatMap cellsL).toArray ++ (us'.flatMap cellsL).toArray ++ Builtin.zeroCells z.cells (grownCap w (l.length + xs.length) old e - (l.length + xs.length))) e)) := ((ExtX.refl w).drew).alloc _
      refine ⟨fun k hk => ?_, us ++ us', by simp [h1, hlen], hnew, hnew1, ⟨by rw [hfl]; simp [hul, hnl, hsz, Nat.add_mul], .inr ⟨w.heap.size, _, _, by simp, hbase, heap_alloc_new w.drew _, by simpa using hge, hcm, ?_, ?_⟩⟩, hRs _ _ hE (.inr ⟨_, rfl, Nat.le_refl _⟩)⟩
      · have : w.heap.size = k := by simpa [ob] using hk
        cases hh : X k
        · rfl
        · have := hX k hh; omega
      · simp only [Array.size_append, List.size_toArray, size_zeroCells, hzs, hul, hnl, hsz, <- Nat.add_mul]
        congr 1; omega
      · rw [hfl]
        simp only [Array.toList_append, List.length_append]
        have hll : (l.length + xs.length) * sz = (us.flatMap cellsL ++ us'.flatMap cellsL).length := by simp [hul, hnl, hsz, Nat.add_mul]
        rw [hll]
        exact List.take_left
    · exact ((ExtX.refl w).drew).alloc _
  have hll : (l ++ xs).length = l.length + xs.length := List.length_append
  rcases hform with ⟨rfl, rfl, rfl⟩ | ⟨g, cur, rfl, h6, h7, h8, h9, h10⟩
  · have hu0 : us = [] := List.eq_nil_of_length_eq_zero (by simpa using h1)
    subst hu0
    obtain ⟨g, cur, rfl, hcur, hOL, hE⟩ := grown 0 (by simp; omega)
    have hr := run_append_nil (P := P) w t ty e i z T.und hi hz ⟨sb, so, none⟩ xs.length cs (us'.flatMap cellsL) hnl hnews hxpos (by simp at hmax; omega) (by simp at hroom; rw [hby]; omega)
    simp only [List.flatMap_nil, List.length_nil, Nat.zero_add, List.nil_append, Array.empty_append] at hOL hE hcur hr |-
    subst hcur
    exact ⟨_, _, _, hr, hOL, hE, .inr ⟨_, rfl, Nat.le_refl _⟩⟩
  · by_cases hroom' : l.length + xs.length <= cap
    · have hfit : l.length * i.size + (us'.flatMap cellsL).length <= cur.size := by rw [hnl, h10, <- hsz, <- Nat.add_mul]; exact Nat.mul_le_mul_right _ hroom'
      have hr := run_append_room (P := P) w t ty e i T.und hi g l.length cap cur h7 ⟨sb, so, none⟩ xs.length cs (us'.flatMap cellsL) hnl hnews hone' hroom' hfit
      have hE : ExtX (ob (some ⟨g, 0, none⟩)) w (w.setRow g (cur.toList.take (l.length * i.size) ++ us'.flatMap cellsL ++ cur.toList.drop (l.length * i.size + (us'.flatMap cellsL).length)).toArray) :=
        ⟨rfl, rfl, rfl, by simp, fun k _ hk => setRow_other w g k _ (fun ek => by subst ek; simp [ob] at hk)⟩
      refine ⟨_, _, _, by rw [hll]; exact hr, ⟨hx, us ++ us', by simp [h1, hlen], hnew, hnew1, ⟨by rw [hfl]; simp [hul, hnl, hsz, Nat.add_mul], .inr ⟨g, cap, _, by rw [hll], h6, setRow_heap w g cur _ e _ h7, by rw [hll]; exact hroom', h9, ?_, ?_⟩⟩, hRs _ _ hE (.inl rfl)⟩, hE, .inl rfl⟩
      · simp only [List.size_toArray, List.length_append, List.length_take, List.length_drop, Array.length_toList]; omega
      · rw [hfl, hll]
        rcases h3.2 with ⟨hv, _⟩ | ⟨g', c', cur', hv, _, h7', _, _, _, h11⟩
        · simp at hv
        simp at hv
        obtain ⟨rfl, rfl⟩ := hv
        rw [h7] at h7'
        obtain rfl : cur = cur' := by simpa using h7'
        have e1 : cur.toList.take (l.length * i.size) = us.flatMap cellsL := by rw [hsz]; exact h11
        rw [e1]
        have hll2 : (l.length + xs.length) * sz = (us.flatMap cellsL ++ us'.flatMap cellsL).length := by simp [hul, hnl, hsz, Nat.add_mul]
        rw [hll2]
        exact List.take_left
    · have holds : ∀ j u, (us.flatMap cellsL)[j]? = some u -> w.cell? ((⟨g, 0, none⟩ : Addr).add j) = some u := h3.cells (g := g) rfl
      have hr := run_append_grow (P := P) w t ty e i z T.und hi hz ⟨g, 0, none⟩ l.length cap (us.flatMap cellsL) hul holds ⟨sb, so, none⟩ xs.length cs (us'.flatMap cellsL) hnl hnews (by omega) (by omega) (growslice_fits (by omega) (by rw [hby]; exact hroom))
      obtain ⟨g', cur', rfl, hcur, hOL, hE⟩ := grown cap (by omega)
      subst hcur
      exact ⟨_, _, _, by rw [hll]; exact hr, hOL, hE, .inr ⟨_, rfl, Nat.le_refl _⟩⟩
theorem OL.run_make {t by_ : Nat} {z : Value} (T : SliceT P t e sz by_ z) (hR : Elem R sz) (x0 : α) (hz : ∀ h, R h z x0) (hX : ∀ k, X k = true -> k < w.heap.size) (hbase : base <= w.heap.size)
    (kl kc : IntKind) (n : Nat) (hroom : by_ * n <= 281474976710656) (hmax : n <= 9223372036854775807) :
    ∃ ao w', (Instr.makeSlice t (.int kl (n : Int)) (.int kc (n : Int))).run P w = .ok (.slice ao n n) w' /\ OL R sz X base e w' ao n (List.replicate n x0) /\ Ext w w' := by
  obtain ⟨i, hi, hiz, hsz, hby⟩ := info_parts T.info
  have hzs : z.cells.size = sz := hR.size (fun _ => none) z x0 (hz _)
  have hpos := hR.pos
  have hr := Go.run_make (P := P) w t e i z T.und hi hiz kl kc n n (by omega) (Int.le_refl _) (by rw [hby, <- Int.natCast_mul]; omega) (by omega)
  simp only [Int.toNat_natCast] at hr
  refine ⟨_, _, hr, ⟨fun k hk => ?_, List.replicate n z, by simp, by intro u hu; rw [List.eq_of_mem_replicate hu]; exact hzs, by intro u hu; rw [List.eq_of_mem_replicate hu]; exact hR.one (fun _ => none) z x0 (hz _), ⟨?_, .inr ⟨w.heap.size, n, _, by simp, hbase, heap_alloc_new w _, by simp, by simpa [maxLen] using hmax, by rw [size_madeCells, hsz], ?_⟩⟩, fun i hi hi' => by simpa using hz _⟩, (ExtX.refl w).alloc _⟩
  · have : w.heap.size = k := by simpa [ob] using hk
    cases hh : X k
    · rfl
    · have := hX k hh; omega
  · rw [flat_length (sz := sz) _ (by intro u hu; rw [List.eq_of_mem_replicate hu]; exact hzs)]
    simp
  · apply List.ext_getElem?
    intro j
    simp only [List.length_replicate]
    by_cases hj : j < n * sz
    · rw [List.getElem?_take_of_lt hj]
      have hg := flat_get (sz := sz) (List.replicate n z) (j / sz) (j % sz) (by simpa using Nat.div_lt_of_lt_mul (by rw [Nat.mul_comm]; exact hj)) (by intro u hu; rw [List.eq_of_mem_replicate hu]; exact hzs) (Nat.mod_lt _ hpos)
      have ej : j / sz * sz + j % sz = j := by rw [Nat.mul_comm]; exact Nat.div_add_mod j sz
      rw [ej] at hg
      rw [hg]
      simp [madeCells, hsz, hj, cellsL, hzs]
      rw [Array.getElem?_eq_getElem (by rw [hzs]; exact Nat.mod_lt _ hpos)]
      rw [getElem!_pos]
    · rw [List.getElem?_eq_none (by simp [size_madeCells, hsz]; omega), List.getElem?_eq_none]
      rw [flat_length (sz := sz) _ (by intro u hu; rw [List.eq_of_mem_replicate hu]; exact hzs)]
      simp; omega
theorem OL.run_store {t : TypeId} {ti : TypeInfo} (ht : P.info? t = some ti) (hts : ti.size = sz) (hR : Elem R sz) (h : OL R sz X base e w ao cap l) (i : Nat) (hi : i < l.length) (u : Value) (x : α) (hu : R (mk (un X ao) w) u x) :
    ∃ w', (storeVar t (adr ao (i * sz)) u).run P w = .ok () w' /\ OL R sz X base e w' ao cap (l.set i x) /\ ExtX (ob ao) w w' := by
  have hus := hR.size _ _ _ hu
  have hu1 := hR.one _ _ _ hu
  have hform := h.form
  obtain ⟨hx, us, h1, h2, h22, h3, h5⟩ := h
  rcases hform with ⟨rfl, rfl, rfl⟩ | ⟨g, cur, rfl, h6, h7, h8, h9, h10⟩
  · simp at hi
  have hadr : adr (some ⟨g, 0, none⟩) (i * sz) = ⟨g, i * sz, none⟩ := by simp [adr]
  have hsub : (i + 1) * sz <= l.length * sz := Nat.mul_le_mul_right _ hi
  have hsub2 : l.length * sz <= cap * sz := Nat.mul_le_mul_right _ h8
  rw [Nat.succ_mul] at hsub
  have hst := run_storeCells_at P g (i * sz) e (cellsL u) 0 cur w h7 (by simp [cellsL, hus, h10]; omega) hu1
  have hE : ExtX (ob (some ⟨g, 0, none⟩)) w (w.setRow g (cur.toList.take (i * sz + 0) ++ cellsL u ++ cur.toList.drop (i * sz + 0 + (cellsL u).length)).toArray) :=
    ⟨rfl, rfl, rfl, by simp, fun k _ hk => setRow_other w g k _ (fun ek => by subst ek; simp [ob] at hk)⟩
  have hne : ∀ v ∈ us.set i u, v.cells.size = sz := by
    intro v hv
    rcases List.mem_or_eq_of_mem_set hv with hv | rfl
    · exact h2 v hv
    · exact hus
  refine ⟨_, ?_, ⟨hx, us.set i u, by simp [h1], hne, ?_, ⟨?_, .inr ⟨g, cap, _, by simp, h6, setRow_heap w g cur _ e _ h7, by simpa using h8, h9, ?_, ?_⟩⟩, ?_⟩, hE⟩
  · rw [hadr]
    simp [storeVar, sizeOf, typeInfo, ht, hts, hus]
    simpa [cellsL] using hst
  · intro v hv
    rcases List.mem_or_eq_of_mem_set hv with hv | rfl
    · exact h22 v hv
    · exact hu1
  · rw [flat_length _ hne]; simp [h1]
  · have hlu : (cellsL u).length = sz := by simp [cellsL, hus]
    simp only [List.size_toArray, List.length_append, List.length_take, List.length_drop, Array.length_toList, hlu, h10, Nat.add_zero]
    omega
  · rcases h3.2 with ⟨hv, _⟩ | ⟨g', c', cur', hv, _, h7', _, _, _, h11⟩
    · simp at hv
    simp at hv
    obtain ⟨rfl, rfl⟩ := hv
    rw [h7] at h7'
    obtain rfl : cur = cur' := by simpa using h7'
    have hlu : (cellsL u).length = sz := by simp [cellsL, hus]
    have hcl : cur.toList.length = cap * sz := by simp [h10]
    rw [flat_set us i u (by omega) h2 hus, <- h11]
    simp only [List.length_set, Nat.add_zero]
    have hA : (cur.toList.take (i * sz)).length = i * sz := by rw [List.length_take, hcl]; omega
    rw [hlu, List.take_append, List.take_of_length_le (by rw [List.length_append, hA, hlu]; omega), List.length_append, hA, hlu, List.take_take, Nat.min_eq_left (by omega), List.drop_take]
  · intro j hj hj'
    have hle : Le (mk (un X (some ⟨g, 0, none⟩)) w) (mk (un X (some ⟨g, 0, none⟩)) _) := mkun_over hE (.inl rfl)
    by_cases hji : i = j
    · subst hji; simpa using hR.mono _ _ _ _ hle hu
    · have := hR.mono _ _ _ _ hle (h5 j (by simpa using hj) (by simpa using hj'))
      simpa [List.getElem_set, hji] using this
end
end Go.Rep
namespace Go.Rep
open Go.RowKit
section
variable {P : Program} {ops : Array Oper} {Q : Exit -> Act -> World -> Prop} {rest : List Oper} {a : Act} {w : World}
variable {α : Type} {R : Mem -> Value -> α -> Prop} {sz : Nat} {X : Nat -> Bool} {base : Nat} {e : TypeId} {ao : Option Addr} {cap : Nat} {l : List α}
variable {d : Option Tmp} {ty : TypeId} {ps : String} {af : Array Edge}
theorem OL.lit (hR : Elem R sz) (hX : ∀ k, X k = true -> k < w.heap.size) (hbase : base <= w.heap.size) (us : List Value) (l : List α) (arr : Array Value) (harr : arr = (us.flatMap cellsL).toArray) (hlen : us.length = l.length)
    (hu : ∀ i (hi : i < us.length) (hi' : i < l.length), R (mk X w) us[i] l[i]) (hmax : l.length <= 9223372036854775807) :
    OL R sz X base e (w.alloc (.cells arr e)) (some ⟨w.heap.size, 0, none⟩) l.length l := by
  subst harr
  have hsz : ∀ u ∈ us, u.cells.size = sz := by
    intro v hv
    obtain ⟨i, hi, rfl⟩ := List.getElem_of_mem hv
    exact hR.size _ _ _ (hu i hi (by omega))
  have hE : Ext w (w.alloc (.cells (us.flatMap cellsL).toArray e)) := (ExtX.refl w).alloc _
  refine ⟨fun k hk => ?_, us, hlen, hsz, ?_, ⟨by rw [flat_length us hsz, hlen], .inr ⟨w.heap.size, _, _, rfl, hbase, heap_alloc_new w _, Nat.le_refl _, by unfold maxLen; exact hmax, by simp [flat_length us hsz, hlen], ?_⟩⟩, fun i hi hi' => ?_⟩
  · have : w.heap.size = k := by simpa [ob] using hk
    cases hh : X k
    · rfl
    · have := hX k hh; omega
  · intro v hv
    obtain ⟨i, hi, rfl⟩ := List.getElem_of_mem hv
    exact hR.one _ _ _ (hu i hi (by omega))
  · rw [List.take_of_length_le]
    simp [flat_length us hsz, hlen]
  · refine hR.mono _ _ _ _ (mk_over hE (fun k _ hk => by simp [noY] at hk) fun k hk hz => ?_) (hu i hi hi')
    by_cases hx : X k = true
    · exact hx
    · have : w.heap.size = k := by simpa [un, hx, ob] using hz
      omega
theorem mk_new (X : Nat -> Bool) (w : World) (o : Obj) : Le (mk X w) (mk (un X (some ⟨w.heap.size, 0, none⟩)) (w.alloc o)) :=
  mk_over ((ExtX.refl (Y := noY) w).alloc o) (fun k _ hk => by simp [noY] at hk) fun k hk hz => by
    by_cases hx : X k = true
    · exact hx
    · have : w.heap.size = k := by simpa [un, hx, ob] using hz
      omega
theorem at_new (w : World) (arr : Array Value) (e : TypeId) (u : Value) (harr : arr = u.cells) : At (w.alloc (.cells arr e)) (some ⟨w.heap.size, 0, none⟩) [u] := by
  subst harr
  refine ⟨fun _ => ⟨_, _, rfl⟩, fun j c hj => ?_⟩
  simp only [List.flatMap_cons, List.flatMap_nil, List.append_nil, cellsL, Array.getElem?_toList] at hj
  have h0 : adr (some ⟨w.heap.size, 0, none⟩) j = ⟨w.heap.size, j, none⟩ := by simp [adr]
  have h1 := heap_alloc_new w (.cells u.cells e)
  rw [h0]
  unfold World.cell?
  rw [h1]
  simpa using hj
theorem st_append1 {t by_ : Nat} {z : Value} {arr : Array Value} {s x : Operand} (T : SliceT P t e sz by_ z) (hzs : z.cells.size = sz) (hR : Elem R sz) (hbase : base <= w.heap.size) (hX : ∀ k, X k = true -> k < w.heap.size)
    (hs : a.eval s = .slice ao l.length cap) (hx : a.eval x = .slice (some ⟨w.heap.size, 0, none⟩) 1 1) (h : OL R sz X base e w ao cap l)
    (u : Value) (y : α) (harr : arr = u.cells) (hu : R (mk (un X ao) w) u y) (hroom : (l.length + 1) * by_ <= 140737488355328) (hmax : l.length + 1 <= 9223372036854775807)
    (K : ∀ ao' cap' w', OL R sz X base e w' ao' cap' (l ++ [y]) -> ExtX (ob ao) w w' -> (ao' = ao \/ ∃ g, ao' = some ⟨g, 0, none⟩ /\ w.heap.size <= g) -> wpList P ops Q rest (a.put d (.slice ao' (l ++ [y]).length cap')) w') :
    wpList P ops Q (⟨d, .call { callee := .builtin .append, args := #[s, x], argTypes := #[t, t] }, ty, ps, af, none⟩ :: rest) a (w.alloc (.cells arr e)) := by
  refine wpList_plain rfl fun K' hK' => ?_
  have hE : Ext w (w.alloc (.cells arr e)) := (ExtX.refl w).alloc _
  have hsz : w.heap.size + 1 = (w.alloc (.cells arr e)).heap.size := by simp
  obtain ⟨ao', cap', w', hr, h2, h3, h4⟩ := (h.ext0 hR hE).run_append (P := P) T hzs hR (by omega) (fun k hk => by have := hX k hk; omega) (some ⟨w.heap.size, 0, none⟩) 1 [u] [y] (at_new w arr e u harr) rfl
    (fun i hi _ => by have : i = 0 := by simpa using hi
                      subst this; exact hR.mono _ _ _ _ (mk_ext hE) hu) (by simpa using hroom) (by simpa using hmax) ty
  unfold Oper.wp execOp
  simp only [resolve, invoke, builtin, Sem.run_bind, Sem.run_pure, Result.andThen_ok, List.map_toArray, List.map_cons, List.map_nil, hs, hx]
  rw [show ([y] : List α).length = 1 from rfl] at hr
  rw [hr]
  refine hK' _ _ (K ao' cap' w' h2 ((ExtX.of hE).trans h3) ?_)
  rcases h4 with h4 | ⟨g, h4, h5⟩
  · exact .inl h4
  · exact .inr ⟨g, h4, by omega⟩
theorem st_appendl {t by_ : Nat} {z : Value} {s x : Operand} {asl : Option Addr} {cs : Nat} (T : SliceT P t e sz by_ z) (hzs : z.cells.size = sz) (hR : Elem R sz) (hbase : base <= w.heap.size) (hX : ∀ k, X k = true -> k < w.heap.size)
    (xs : List α) (hs : a.eval s = .slice ao l.length cap) (hx : a.eval x = .slice asl xs.length cs) (h : OL R sz X base e w ao cap l)
    (hxs : Sl R sz (mk (un X ao) w) asl xs) (hroom : (l.length + xs.length) * by_ <= 140737488355328) (hmax : l.length + xs.length <= 9223372036854775807)
    (K : ∀ ao' cap' w', OL R sz X base e w' ao' cap' (l ++ xs) -> ExtX (ob ao) w w' -> (ao' = ao \/ ∃ g, ao' = some ⟨g, 0, none⟩ /\ w.heap.size <= g) -> wpList P ops Q rest (a.put d (.slice ao' (l ++ xs).length cap')) w') :
    wpList P ops Q (⟨d, .call { callee := .builtin .append, args := #[s, x], argTypes := #[t, t] }, ty, ps, af, none⟩ :: rest) a w := by
  refine wpList_plain rfl fun K' hK' => ?_
  obtain ⟨us, h1, h2, h3⟩ := hxs.at_ hR
  obtain ⟨ao', cap', w', hr, h2, h3, h4⟩ := h.run_append (P := P) T hzs hR hbase hX asl cs us xs h2 h1 h3 hroom hmax ty
  unfold Oper.wp execOp
  simp only [resolve, invoke, builtin, Sem.run_bind, Sem.run_pure, Result.andThen_ok, List.map_toArray, List.map_cons, List.map_nil, hs, hx, hr]
  exact hK' _ _ (K ao' cap' w' h2 h3 h4)
theorem st_make {t by_ : Nat} {z : Value} {x y : Operand} {kl kc : IntKind} {m : Int} (T : SliceT P t e sz by_ z) (hR : Elem R sz) (x0 : α) (hz : ∀ h, R h z x0) (X : Nat -> Bool) (hX : ∀ k, X k = true -> k < w.heap.size) (base : Nat) (hbase : base <= w.heap.size)
    (n : Nat) (hl : a.eval x = .int kl m) (hc : a.eval y = .int kc m) (hm : m = (n : Int)) (hroom : by_ * n <= 281474976710656) (hmax : n <= 9223372036854775807)
    (K : ∀ ao w', OL R sz X base e w' ao n (List.replicate n x0) -> Ext w w' -> wpList P ops Q rest (a.put d (.slice ao n n)) w') :
    wpList P ops Q (⟨d, .makeSlice t x y, ty, ps, af, none⟩ :: rest) a w := by
  refine wpList_plain rfl fun K' hK' => ?_
  subst hm
  obtain ⟨ao, w', hr, h2, h3⟩ := OL.run_make (P := P) T hR x0 hz hX hbase kl kc n hroom hmax
  unfold Oper.wp
  simp [execOp, hl, hc, hr, Result.andThen]
  exact hK' _ _ (K ao w' h2 h3)
theorem st_store {t : TypeId} {x y : Operand} {k : Nat} (hT : TyI P t sz) (hR : Elem R sz) (i : Nat) (hx : a.eval x = .pointer (some (adr ao k))) (hk : k = i * sz)
    (h : OL R sz X base e w ao cap l) (hi : i < l.length) (u : Value) (v : α) (hy : a.eval y = u) (hu : R (mk (un X ao) w) u v)
    (K : ∀ w', OL R sz X base e w' ao cap (l.set i v) -> ExtX (ob ao) w w' -> wpList P ops Q rest (a.put d undef) w') :
    wpList P ops Q (⟨d, .store t x y, ty, ps, af, none⟩ :: rest) a w := by
  refine wpList_plain rfl fun K' hK' => ?_
  subst hk
  obtain ⟨ti, ht, hts⟩ := hT
  obtain ⟨w', hr, h2, h3⟩ := h.run_store (P := P) ht hts hR i hi u v hu
  unfold Oper.wp
  simp [execOp, hx, hy, Instr.storeAt, Instr.sureAddr, hr, Result.andThen]
  exact hK' _ _ (K w' h2 h3)
def subAddr (ao : Option Addr) (i m sz : Nat) : Option Addr := if m = i then ao else ao.map (·.add (i * sz))
theorem Sl.sub {h : Mem} (s : Sl R sz h ao l) (i j m : Nat) (hij : i <= j) (hjm : j <= m) (hjl : j <= l.length) : Sl R sz h (subAddr ao i m sz) ((l.take j).drop i) := by
  refine ⟨fun hn => ?_, fun k hk => ?_⟩
  · simp at hn
    obtain ⟨b, off, rfl⟩ := s.1 (by omega)
    have hm : ¬ m = i := by omega
    simp [subAddr, hm, Addr.add_lit]
  · simp at hk
    obtain ⟨b, off, rfl⟩ := s.1 (by omega)
    have hm : ¬ m = i := by omega
    obtain ⟨u, h1, h2, h3⟩ := s.2 (i + k) (by omega)
    refine ⟨u, h1, fun q hq => ?_, by simpa using h3⟩
    have := h2 q hq
    simp only [subAddr, hm, if_false, Option.map_some, Addr.add_lit, adr, Option.getD_some] at this |-
    rw [<- this, Nat.add_mul]
    congr 2
    omega
theorem run_slice_ij {t by_ : Nat} {z : Value} (T : SliceT P t e sz by_ z) (len cap : Nat) (k1 k2 : IntKind) (i j : Nat) (h1 : i <= j) (h2 : j <= cap) (w : World) :
    (Instr.sliceAt t (.slice ao len cap) (some (.int k1 (i : Int))) (some (.int k2 (j : Int))) none).run P w = .ok (.slice (subAddr ao i cap sz) (j - i) (cap - i)) w := by
  obtain ⟨ti, hi, hz, hsz, hby⟩ := info_parts T.info
  have h1' : (i : Int) <= j := by omega
  have h2' : (j : Int) <= cap := by omega
  simp [Instr.sliceAt, Instr.slice, run_underlying T.und, Instr.sliceBounds, run_sliceBound, h1', h2', sizeOf, typeInfo, hi, hsz, subAddr]
theorem st_storeNat {t : TypeId} {x y : Operand} {k : Nat} {kd : IntKind} {l : List Nat} {m : Int} (hT : TyI P t 1) (i : Nat) (v : Nat) (hx : a.eval x = .pointer (some (adr ao k))) (hk : k = i)
    (h : OL (NatIn kd) 1 X base e w ao cap l) (hi : i < l.length) (hy : a.eval y = .int kd m) (hm : m = (v : Int))
    (K : ∀ w', OL (NatIn kd) 1 X base e w' ao cap (l.set i v) -> ExtX (ob ao) w w' -> wpList P ops Q rest (a.put d undef) w') :
    wpList P ops Q (⟨d, .store t x y, ty, ps, af, none⟩ :: rest) a w :=
  st_store hT (NatIn.elem kd) i hx (by omega) h hi (.int kd m) v hy (by rw [hm]; rfl) K
end
end Go.Rep
namespace Go.Proofs.YtgimdkjgaemcbaaGreat
open Go.RowKit Go.Rep
theorem slU32 : SliceT Tryz.prog 34 144 1 4 (.int .u32 0) := ⟨Tryz.underlying34, by kernel_rfl⟩
theorem slInt : SliceT Tryz.prog 22 3 1 8 (.int .i64 0) := ⟨Tryz.underlying22, by kernel_rfl⟩
theorem infU32 : (Tryz.prog.info? 144).map (fun i => (i.zero, i.size, i.bytes)) = some (some (.int .u32 0), 1, 4) := by kernel_rfl
theorem infInt : (Tryz.prog.info? 3).map (fun i => (i.zero, i.size, i.bytes)) = some (some (.int .i64 0), 1, 8) := by kernel_rfl
theorem tyU32 : TyI Tryz.prog 144 1 := let ⟨i, h, _, h2, _⟩ := info_parts infU32; ⟨i, h, h2⟩
theorem tyInt : TyI Tryz.prog 3 1 := let ⟨i, h, _, h2, _⟩ := info_parts infInt; ⟨i, h, h2⟩
end Go.Proofs.YtgimdkjgaemcbaaGreat
namespace Go.Proofs.YtgimdkjgaemcbaaGreat
open Go.RowKit Go.Rep Go.Lim
theorem valid_any (X : Nat -> Bool) (ao : Option Addr) (l : List Nat) (cap : Nat) (w : World) (hs : Sl (NatIn .u32) 1 (mk X w) ao l) (hl : l.length <= 4398046511104) :
    Calls Tryz.prog 247 #[.slice ao l.length cap] w fun e w' => w = w' /\ e = .returned (.bool (validL l)) := by
  have hh := hs.hd
  by_cases h0 : l.length = 0
  · have hl0 : l = [] := List.eq_nil_of_length_eq_zero h0
    subst hl0
    clear hs hh hl h0
    simp only [List.length_nil]
    go_enter Tryz.func247, Tryz.ntmps247
    go_wp2_with fail
    go_ret
    exact ⟨rfl, rfl⟩
  · have hc := hs.nat (l.length - 1) (by omega)
    have hv := hid (validL_last (l := l) (by omega))
    have hz : ((l.length : Int) == 0) = false := beqF (by omega)
    go_enter Tryz.func247, Tryz.ntmps247
    go_wp2_with (with_reducible refine up_ix1 slU32 (by omega) (by assumption) ?_)
    go_ret
    exact ⟨rfl, ret_bool (by rw [hv.out]; exact cast_bne0 _)⟩
def NatOut (X : Nat -> Bool) (w : World) (n : Nat) (e : Ending) (w' : World) : Prop :=
  Ext w w' /\ ∃ ao cap l, e = .returned (.slice ao l.length cap) /\ l.length <= cap /\ Canon l n /\ Sl (NatIn .u32) 1 (mk X w') ao l
def TrimOut (X : Nat -> Bool) (w : World) (ao : Option Addr) (l : List Nat) (cap : Nat) (e : Ending) (w' : World) : Prop :=
  w = w' /\ ∃ l', e = .returned (.slice ao l'.length cap) /\ l'.length <= l.length /\ Canon l' (nv l) /\ Sl (NatIn .u32) 1 (mk X w) ao l'
def ValOut (X : Nat -> Bool) (w : World) (l : List Nat) (e : Ending) (w' : World) : Prop :=
  w = w' /\ ∃ ao cap l', e = .returned (.slice ao l'.length cap) /\ l'.length <= cap /\ l'.length <= l.length /\ Canon l' (val l) /\ Sl (NatIn .u32) 1 (mk X w) ao l'
theorem trimmed_any (X : Nat -> Bool) (ao : Option Addr) (l : List Nat) (cap : Nat) (w : World) (hs : Sl (NatIn .u32) 1 (mk X w) ao l) (hd : Dig l) (hl : l.length <= 4398046511104) (hcap : l.length <= cap) :
    Calls Tryz.prog 204 #[.slice ao l.length cap] w (TrimOut X w ao l cap) := by
  have hh := hs.hd
  go_enter Tryz.func204, Tryz.ntmps204
  go_wp2_with fail
  go_loop [3] (fun n => ∃ k : Nat, n = .int .i64 k /\ Cut l k) (fun n => (intOf n).toNat)
  case atStart => exact ⟨_, rfl, Cut.all l⟩
  case round =>
    obtain ⟨k, rfl, hk⟩ := hrel
    have hkl := hk.1
    by_cases hlt : 0 < k
    · have hc := hs.nat (k - 1) (by omega)
      by_cases hz : l[k - 1] = 0
      · have hk' := hk.less hlt hz
        have hz' := hid hz
        rw [hz] at hc
        clear hz
        go_wp2_with (with_reducible refine up_ix1 slU32 (by omega) (by assumption) ?_)
        go_round
        case rel => exact ⟨k - 1, by go_num, hk'⟩
        case measure => simp [intOf]; omega
      · have hcn := hk.canon hd (.inr ⟨by omega, hz⟩)
        have hz' : ((l[k - 1] : Int) == 0) = false := beqF (by omega)
        go_wp2_with (with_reducible refine up_ix1 slU32 (by omega) (by assumption) ?_)
        go_ret
        exact ⟨rfl, l.take k, ret_slice (by simp; omega), by simp; omega, hcn, hs.take k⟩
    · have hcn := hk.canon hd (.inl (by omega))
      go_wp2_with fail
      go_ret
      exact ⟨rfl, l.take k, ret_slice (by simp; omega), by simp; omega, hcn, hs.take k⟩
theorem value_any (X : Nat -> Bool) (ao : Option Addr) (l : List Nat) (cap : Nat) (w : World) (hs : Sl (NatIn .u32) 1 (mk X w) ao l) (hd : Dig l) (hl : l.length <= 4398046511104) (hcap : l.length <= cap) :
    Calls Tryz.prog 203 #[.slice ao l.length cap] w (ValOut X w l) := by
  cases hv : validL l
  · have hv' := hid hv
    go_enter Tryz.func203, Tryz.ntmps203
    go_wp2_with (go_at_call 247; refine (valid_any X _ _ _ _ hs hl).mono ?_; rintro e w' ⟨rfl, rfl⟩)
    go_ret
    have : vl l = [] := by unfold vl; rw [hv]; rfl
    exact ⟨rfl, none, 0, [], rfl, by simp, by simp, this ▸ vl_canon hd, Sl.nil _ _ _ _⟩
  · have hv' := hid hv
    go_enter Tryz.func203, Tryz.ntmps203
    go_wp2_with (go_at_call 247; refine (valid_any X _ _ _ _ hs hl).mono ?_; rintro e w' ⟨rfl, rfl⟩)
    go_ret
    have : vl l = l := by unfold vl; rw [hv]; rfl
    have hc := vl_canon hd
    rw [this] at hc
    exact ⟨rfl, ao, cap, l, rfl, hcap, Nat.le_refl _, hc, hs⟩
theorem fromUint_any (X : Nat -> Bool) (n : Nat) (w : World) (hn : n < 18446744073709551616) (hX : ∀ k, X k = true -> k < w.heap.size) :
    Calls Tryz.prog 193 #[.int .u64 n] w (NatOut X w n) := by
  have hO : OL (NatIn .u32) 1 X w.heap.size 144 (w.alloc (.cells #[.int .u32 ((n : Int) % 4294967296), .int .u32 ((n : Int) / 4294967296)] 144)) (some ⟨w.heap.size, 0, none⟩) 2 [n % 4294967296, n / 4294967296] :=
    OL.lit (NatIn.elem .u32) hX (Nat.le_refl _) [.int .u32 ((n % 4294967296 : Nat) : Int), .int .u32 ((n / 4294967296 : Nat) : Int)] [n % 4294967296, n / 4294967296] _ (by simp [cellsL, Value.cells]) rfl
      (fun i hi _ => by match i, hi with
                        | 0, _ => rfl
                        | 1, _ => rfl) (by simp)
  go_enter Tryz.func193, Tryz.ntmps193
  go_wp2_with fail
  refine (trimmed_any X _ [n % 4294967296, n / 4294967296] _ _ (hO.sl (NatIn.elem .u32)) (Dig.cons (by rw [B_eq]; exact Nat.mod_lt _ (by decide)) (Dig.cons (by rw [B_eq]; omega) Dig.nil)) (by simp) (by simp)).mono ?_
  rintro e w' ⟨rfl, l', rfl, hl', hc, hs'⟩
  go_wp2_with fail
  go_ret
  have hv : nv [n % 4294967296, n / 4294967296] = n := by simp only [nv, B_eq]; omega
  rw [hv] at hc
  exact ⟨(ExtX.refl w).alloc _, _, 2, _, rfl, by simpa using hl', hc, hs'⟩
theorem add32_any (x y c : Nat) (w : World) (hx : x < 4294967296) (hy : y < 4294967296) (hc : c <= 1) :
    Calls Tryz.prog 245 #[.int .u32 x, .int .u32 y, .int .u32 c] w fun e w' => w = w' /\ e = .returned (.tuple #[.int .u32 ((x + y + c) % 4294967296 : Nat), .int .u32 ((x + y + c) / 4294967296 : Nat)]) := by
  go_enter Tryz.func245, Tryz.ntmps245
  go_wp2
  go_ret2
  exact ⟨rfl, by simp⟩
theorem add_any (X : Nat -> Bool) (ao bo : Option Addr) (la lb : List Nat) (ca cb : Nat) (w : World) (hsa : Sl (NatIn .u32) 1 (mk X w) ao la) (hsb : Sl (NatIn .u32) 1 (mk X w) bo lb)
    (hda : Dig la) (hdb : Dig lb) (hla : la.length <= 1099511627776) (hlb : lb.length <= 1099511627776) (hca : la.length <= ca) (hcb : lb.length <= cb) (hX : ∀ k, X k = true -> k < w.heap.size) (na nb : Nat) (hna : val la = na) (hnb : val lb = nb) :
    Calls Tryz.prog 195 #[.slice ao la.length ca, .slice bo lb.length cb] w (NatOut X w (na + nb)) := by
  go_enter Tryz.func195, Tryz.ntmps195
  go_wp2_with fail
  refine (value_any X _ _ _ _ hsa hda (by omega) hca).mono ?_
  rintro e w' ⟨rfl, ao1, ca1, a, rfl, hca1, hal, hcan, hsa1⟩
  go_wp2_with fail
  refine (value_any X _ _ _ _ hsb hdb (by omega) hcb).mono ?_
  rintro e w' ⟨rfl, bo1, cb1, b, rfl, hcb1, hbl, hcbn, hsb1⟩
  rw [hna] at hcan
  rw [hnb] at hcbn
  have hal' : a.length <= 1099511627776 := Nat.le_trans hal hla
  have hbl' : b.length <= 1099511627776 := Nat.le_trans hbl hlb
  clear hna hnb hal hbl hsa hsb hla hlb hca hcb
  go_upto_if 18 with (fail)
  go_cut [0, 1] (fun s0 s1 wx => wx = w /\ ∃ ao bo a b ca cb, s0 = .slice ao a.length ca /\ s1 = .slice bo b.length cb /\ b.length <= a.length /\ a.length <= 1099511627776 /\ Sl (NatIn .u32) 1 (mk X w) ao a /\ Sl (NatIn .u32) 1 (mk X w) bo b /\ Dig a /\ Dig b /\ Hid (nv a + nv b = na + nb))
  case first =>
    go_wp2_with fail
    all_goals go_meet
    all_goals case rel => first | exact ⟨rfl, _, _, _, _, _, _, rfl, rfl, by omega, hbl', hsb1, hsa1, hcbn.1, hcan.1, hid (by rw [hcan.2.2, hcbn.2.2, Nat.add_comm])⟩ | exact ⟨rfl, _, _, _, _, _, _, rfl, rfl, by omega, hal', hsa1, hsb1, hcan.1, hcbn.1, hid (by rw [hcan.2.2, hcbn.2.2])⟩
  case rest =>
    clear hca1 hcan hsa1 hcb1 hcbn hsb1 hal' hbl' hda hdb
    clear a b ao1 bo1 ca1 cb1 ao bo la lb ca cb
    obtain ⟨rfl, ao, bo, a, b, ca, cb, rfl, rfl, hab, hal, hsa, hsb, hda, hdb, hsum⟩ := hcut
    have hha := hsa.hd
    have hhb := hsb.hd
    go_wp2_with (at_make; refine st_make slU32 (NatIn.elem .u32) 0 (fun _ => rfl) X hX wc.heap.size (Nat.le_refl _) (a.length + 1) rfl rfl (by omega) (by omega) (by omega) ?_; intro oo w1 hO hE1)
    go_loopw [6, 27] (fun c i wr => ∃ (k : Nat) (o : List Nat) (cy : Nat), i = .int .i64 k /\ c = .int .u32 cy /\ k <= a.length /\ AddInv a b o k cy /\ OL (NatIn .u32) 1 X wc.heap.size 144 wr oo (a.length + 1) o /\ Ext wc wr) (fun _ i _ => a.length - (intOf i).toNat)
    case atStart => exact ⟨0, _, 0, rfl, rfl, by omega, AddInv.start a b, hO, hE1⟩
    case round =>
      obtain ⟨k, o, cy, rfl, rfl, hk, hinv, hOr, hEr⟩ := hrel
      clear hO hE1
      have hcy := hinv.2.2.1
      have hol := hid hinv.1
      have hho : Hd oo (a.length + 1) := hol.out ▸ hOr.hd
      by_cases hlt : k < a.length
      · have hca := (hsa.mono (NatIn.mono _) (mk_ext hEr)).nat k hlt
        have hak := hda.get k hlt
        rw [B_eq] at hak
        by_cases hkb : k < b.length
        · have hcb := (hsb.mono (NatIn.mono _) (mk_ext hEr)).nat k hkb
          have hbk := hdb.get k hkb
          rw [B_eq] at hbk
          have hst := hinv.step hlt (.inl ⟨hkb, rfl⟩) hda hdb
          go_wp2_with (first | (with_reducible refine up_ix1 slU32 (by omega) (by assumption) ?_) | (go_at_call 245; refine (add32_any _ _ _ _ hak hbk hcy).mono ?_; rintro e w' ⟨rfl, rfl⟩) | ((with_reducible show wpList _ _ _ (⟨_, .store _ _ _, _, _, _, _⟩ :: _) _ _); refine st_store tyU32 (NatIn.elem .u32) k rfl (Nat.mul_one k).symm hOr (by rw [hol.out]; omega) _ ((a[k] + b[k] + cy) % 4294967296) rfl rfl ?_; intro w2 hO2 hE2))
          go_roundw
          case rel => exact ⟨k + 1, _, _, by go_num, rfl, by omega, hst, hO2, hEr.own hOr (Nat.le_refl _) hE2⟩
          case measure => simp [intOf]; omega
        · have hst := hinv.step (y := 0) hlt (.inr ⟨by omega, rfl⟩) hda hdb
          go_wp2_with (first | (with_reducible refine up_ix1 slU32 (by omega) (by assumption) ?_) | (go_at_call 245; refine (add32_any _ 0 _ _ hak (by omega) hcy).mono ?_; rintro e w' ⟨rfl, rfl⟩) | ((with_reducible show wpList _ _ _ (⟨_, .store _ _ _, _, _, _, _⟩ :: _) _ _); refine st_store tyU32 (NatIn.elem .u32) k rfl (Nat.mul_one k).symm hOr (by rw [hol.out]; omega) _ ((a[k] + 0 + cy) % 4294967296) rfl rfl ?_; intro w2 hO2 hE2))
          go_roundw
          case rel => exact ⟨k + 1, _, _, by go_num, rfl, by omega, hst, hO2, hEr.own hOr (Nat.le_refl _) hE2⟩
          case measure => simp [intOf]; omega
      · have hke : k = a.length := by omega
        subst hke
        have hdn := hinv.done hab
        go_wp2_with (first | (with_reducible refine up_ix1 slU32 (by omega) (by assumption) ?_) | ((with_reducible show wpList _ _ _ (⟨_, .store _ _ _, _, _, _, _⟩ :: _) _ _); refine st_store tyU32 (NatIn.elem .u32) a.length rfl (Nat.mul_one _).symm hOr (by rw [hol.out]; omega) _ cy rfl rfl ?_; intro w2 hO2 hE2))
        obtain ⟨hd1, hd2, hd3⟩ := hdn
        have hd3' := hid hd3
        have hs3 := hO2.sl (NatIn.elem .u32)
        have hEE := hEr.own hOr (Nat.le_refl _) hE2
        rw [<- hd3]
        clear hd3
        refine (trimmed_any X _ _ _ _ hs3 hd1 (by rw [hd3'.out]; omega) (by rw [hd3'.out]; omega)).mono ?_
        rintro e w' ⟨rfl, l', rfl, hl', hc, hs'⟩
        go_wp2_with fail
        go_ret
        rw [hd2, hsum.out] at hc
        exact ⟨hEE, _, _, _, rfl, by have h1 := hol.out; have h2 := hl'; (try simp only [List.length_set] at h2); omega, hc, hs'⟩
end Go.Proofs.YtgimdkjgaemcbaaGreat
namespace Go.Proofs.YtgimdkjgaemcbaaGreat
open Go.RowKit Go.Rep Go.Lim
def IntOut (w : World) (v : Int) (e : Ending) (w' : World) : Prop := Ext w w' /\ e = .returned (.int .i64 v)
theorem compare_any (X : Nat -> Bool) (ao bo : Option Addr) (la lb : List Nat) (ca cb : Nat) (w : World) (hsa : Sl (NatIn .u32) 1 (mk X w) ao la) (hsb : Sl (NatIn .u32) 1 (mk X w) bo lb)
    (hda : Dig la) (hdb : Dig lb) (hla : la.length <= 1099511627776) (hlb : lb.length <= 1099511627776) (hca : la.length <= ca) (hcb : lb.length <= cb) (na nb : Nat) (hna : val la = na) (hnb : val lb = nb) :
    Calls Tryz.prog 201 #[.slice ao la.length ca, .slice bo lb.length cb] w (IntOut w (cmpN na nb)) := by
  go_enter Tryz.func201, Tryz.ntmps201
  go_wp2_with fail
  refine (value_any X _ _ _ _ hsa hda (by omega) hca).mono ?_
  rintro e w' ⟨rfl, ao1, ca1, a, rfl, hca1, hal, hcan, hsa1⟩
  go_wp2_with fail
  refine (value_any X _ _ _ _ hsb hdb (by omega) hcb).mono ?_
  rintro e w' ⟨rfl, bo1, cb1, b, rfl, hcb1, hbl, hcbn, hsb1⟩
  rw [hna] at hcan
  rw [hnb] at hcbn
  have hal' : a.length <= 1099511627776 := Nat.le_trans hal hla
  have hbl' : b.length <= 1099511627776 := Nat.le_trans hbl hlb
  clear hna hnb hal hbl hsa hsb hla hlb hca hcb
  have hha := hsa1.hd
  have hhb := hsb1.hd
  by_cases hlt : a.length < b.length
  · have hv := hid (cmpN_of_len_lt hcan hcbn hlt)
    have hne : ((a.length : Int) != b.length) = true := bneT (by omega)
    go_wp2_with fail
    go_ret
    exact ⟨ExtX.refl _, ret_int hv.out.symm⟩
  by_cases hgt : b.length < a.length
  · have hv := hid (cmpN_of_len_gt hcan hcbn hgt)
    have hne : ((a.length : Int) != b.length) = true := bneT (by omega)
    go_wp2_with fail
    go_ret
    exact ⟨ExtX.refl _, ret_int hv.out.symm⟩
  have hne : ((a.length : Int) != b.length) = false := bneF (by omega)
  have heq : Hid (a.length = b.length) := hid (by omega)
  have hbl : b.length <= a.length := by omega
  have hab : a.length <= b.length := by omega
  clear hlt hgt
  go_wp2_with fail
  go_loopw [5] (fun i wr => ∃ k : Nat, i = .int .i64 ((k : Int) - 1) /\ k <= a.length /\ Hid (a.drop k = b.drop k) /\ Ext w wr) (fun i _ => (intOf i + 1).toNat)
  case atStart => exact ⟨a.length, rfl, Nat.le_refl _, hid (by rw [List.drop_of_length_le (Nat.le_refl _), List.drop_of_length_le hbl]), ExtX.refl _⟩
  case round =>
    obtain ⟨k, rfl, hk, hdr, hE⟩ := hrel
    by_cases hlt : 0 < k
    · have c1 := (hsa1.mono (NatIn.mono _) (mk_ext hE)).nat (k - 1) (by omega)
      have c2 := (hsb1.mono (NatIn.mono _) (mk_ext hE)).nat (k - 1) (by omega)
      have i1 : ∀ W, (Instr.indexAt 34 (.slice ao1 a.length ca1) (.int .i64 ((k : Int) - 1))).run Tryz.prog W = .ok (.pointer (some (adr ao1 (k - 1)))) W := run_ix1 slU32 ao1 a.length ca1 .i64 (k - 1) hha (by omega) (by omega)
      have i2 : ∀ W, (Instr.indexAt 34 (.slice bo1 b.length cb1) (.int .i64 ((k : Int) - 1))).run Tryz.prog W = .ok (.pointer (some (adr bo1 (k - 1)))) W := run_ix1 slU32 bo1 b.length cb1 .i64 (k - 1) hhb (by omega) (by omega)
      by_cases h1 : a[k - 1] < b[k - 1]
      · have hv := hid (cmpN_of_lt hcan hcbn heq.out hlt hk hdr.out h1)
        have t1 : ((a[k - 1] : Int) < (b[k - 1] : Int)) := by omega
        go_wp2_with fail
        go_quiet (fail)
        go_wp2_with fail
        go_ret
        exact ⟨hE.drewN _, ret_int hv.out.symm⟩
      by_cases h2 : b[k - 1] < a[k - 1]
      · have hv := hid (cmpN_of_gt hcan hcbn heq.out hlt hk hdr.out h2)
        go_wp2_with fail
        go_quiet (fail)
        go_wp2_with fail
        go_quiet (fail)
        go_wp2_with fail
        go_ret
        exact ⟨(hE.drewN _).drewN _, ret_int hv.out.symm⟩
      · have hdr' := hid (drop_eq_pred heq.out hlt hk hdr.out (by omega))
        go_wp2_with fail
        go_quiet (fail)
        go_wp2_with fail
        go_quiet (fail)
        go_wp2_with fail
        go_roundw
        case rel => exact ⟨k - 1, by go_num, by omega, hdr', hE.drewN _⟩
        case measure => simp [intOf]; omega
    · have hv := hid (cmpN_of_eq hcan hcbn (k := k) (by omega) hdr.out)
      go_wp2_with fail
      go_ret
      exact ⟨hE, ret_int hv.out.symm⟩
theorem div32_any (hi lo y : Nat) (w : World) (h1 : hi < y) (h2 : y < 4294967296) (h3 : lo < 4294967296) :
    Calls Tryz.prog 271 #[.int .u32 hi, .int .u32 lo, .int .u32 y] w (fun e w' => Ext w w' /\ e = .returned (.tuple #[.int .u32 ((hi * 4294967296 + lo) / y : Nat), .int .u32 ((hi * 4294967296 + lo) % y : Nat)])) := by
  have t1 : ((y : Int) == 0) = false := beqF (by omega)
  have t2 : ((y : Int) != 0) = true := bneT (by omega)
  have hor : bits BinOp.or IntKind.u64 ((hi : Int) * 4294967296) (lo : Int) = (hi : Int) * 4294967296 + lo := by
    have e := bits_or_u64_nat (hi * 4294967296) lo (by omega) (by omega)
    have e2 := Nat.two_pow_add_eq_or_of_lt (i := 32) (b := lo) (by omega) hi
    rw [Nat.mul_comm] at e2
    rw [<- e2] at e
    simpa using e
  have hq : (hi * 4294967296 + lo) / y < 4294967296 := by
    rw [Nat.div_lt_iff_lt_mul (by omega)]
    have : (hi + 1) * 4294967296 <= y * 4294967296 := Nat.mul_le_mul_right _ h1
    rw [Nat.mul_comm 4294967296 y]; omega
  have hr : (hi * 4294967296 + lo) % y < y := Nat.mod_lt _ (by omega)
  have hq' := hid hq
  have hr' := hid hr
  clear hq hr
  go_enter Tryz.func271, Tryz.ntmps271
  go_wp2_with fail
  go_quiet (fail)
  go_wp2_with fail
  go_ret2
  refine ⟨(ExtX.refl _).drewN _, ?_⟩
  have e1 : (((hi * 4294967296 + lo) / y : Nat) : Int) % 4294967296 = (((hi * 4294967296 + lo) / y : Nat) : Int) := cast_mod32 _ hq'.out
  have e2 : (((hi * 4294967296 + lo) % y : Nat) : Int) % 4294967296 = (((hi * 4294967296 + lo) % y : Nat) : Int) := cast_mod32 _ (Nat.lt_trans hr'.out h2)
  simp only [Int.natCast_ediv, Int.natCast_emod, Int.natCast_add, Int.natCast_mul, Int.cast_ofNat_Int] at e1 e2 |-
  simp [e1, e2]
def ShortOut (X : Nat -> Bool) (w : World) (q r : Nat) (e : Ending) (w' : World) : Prop :=
  Ext w w' /\ ∃ ao cap l, e = .returned (.tuple #[.slice ao l.length cap, .int .u32 r]) /\ l.length <= cap /\ Canon l q /\ Sl (NatIn .u32) 1 (mk X w') ao l
theorem short_any (X : Nat -> Bool) (ao : Option Addr) (l : List Nat) (cap d : Nat) (w : World) (hs : Sl (NatIn .u32) 1 (mk X w) ao l) (hd : Dig l) (hl : l.length <= 1099511627776) (hX : ∀ k, X k = true -> k < w.heap.size) (h0 : 0 < d) (h1 : d < 4294967296) :
    Calls Tryz.prog 252 #[.slice ao l.length cap, .int .u32 d] w (ShortOut X w (nv l / d) (nv l % d)) := by
  have hh := hs.hd
  go_enter Tryz.func252, Tryz.ntmps252
  go_wp2_with (at_make; refine st_make slU32 (NatIn.elem .u32) 0 (fun _ => rfl) X hX w.heap.size (Nat.le_refl _) l.length rfl rfl (by omega) (by omega) (by omega) ?_; intro oo w1 hO hE1)
  go_loopw [5, 6] (fun c i wr => ∃ (k : Nat) (q : List Nat) (r : Nat), i = .int .i64 ((k : Int) - 1) /\ c = .int .u32 r /\ k <= l.length /\ ShortInv l q d k r /\ OL (NatIn .u32) 1 X w.heap.size 144 wr oo l.length q /\ Ext w wr) (fun _ i _ => (intOf i + 1).toNat)
  case atStart => exact ⟨l.length, _, 0, rfl, rfl, by omega, ShortInv.start l d h0, hO, hE1⟩
  case round =>
    obtain ⟨k, q, r, rfl, rfl, hk, hinv, hOr, hEr⟩ := hrel
    clear hO hE1
    have hql := hid hinv.1
    have hrd := hinv.2.2.1
    have hho : Hd oo l.length := hql.out ▸ hOr.hd
    by_cases hlt : 0 < k
    · have hc := (hs.mono (NatIn.mono _) (mk_ext hEr)).nat (k - 1) (by omega)
      have hak := hd.get (k - 1) (by omega)
      rw [B_eq] at hak
      have hst := hinv.step hlt hk hd
      go_wp2_with (first | (with_reducible refine up_ix1 slU32 (by omega) (by assumption) ?_) | (go_at_call 271; refine (div32_any r l[k - 1] d _ hrd h1 hak).mono ?_; rintro e w2 ⟨hE2, rfl⟩; have hO2 := hOr.ext0 (NatIn.elem _) hE2) | ((with_reducible show wpList _ _ _ (⟨_, .store _ _ _, _, _, _, _⟩ :: _) _ _); refine st_storeNat tyU32 (k - 1) ((r * 4294967296 + l[k - 1]) / d) rfl (by omega) hO2 (by rw [hql.out]; omega) rfl (by simp) ?_; intro w3 hO3 hE3))
      go_roundw
      case rel => exact ⟨k - 1, _, _, by go_num, by simp, by omega, hst, hO3, (hEr.trans hE2).own hO2 (Nat.le_refl _) hE3⟩
      case measure => simp [intOf]; omega
    · obtain rfl : k = 0 := by omega
      obtain ⟨hd1, hd2⟩ := hinv.done
      have hd1' := hid hd1
      have hd2' := hid hd2
      have hqd := hinv.2.1
      have hs3 := hOr.sl (NatIn.elem .u32)
      clear hd1 hd2
      go_wp2_with fail
      rw [<- hql.out]
      refine (trimmed_any X _ _ _ _ hs3 hqd (by rw [hql.out]; omega) (by omega)).mono ?_
      rintro e w' ⟨rfl, l', rfl, hl', hc, hs'⟩
      go_wp2_with fail
      go_ret2
      rw [hd1'.out] at hc
      exact ⟨hEr, _, _, _, by rw [<- hd2'.out]; rfl, hl', hc, hs'⟩
set_option maxRecDepth 100000 in
theorem mul_any (X : Nat -> Bool) (ao bo : Option Addr) (la lb : List Nat) (ca cb : Nat) (w : World) (hsa : Sl (NatIn .u32) 1 (mk X w) ao la) (hsb : Sl (NatIn .u32) 1 (mk X w) bo lb)
    (hda : Dig la) (hdb : Dig lb) (hla : la.length <= 1099511627776) (hlb : lb.length <= 1099511627776) (hca : la.length <= ca) (hcb : lb.length <= cb) (hX : ∀ k, X k = true -> k < w.heap.size) (na nb : Nat) (hna : val la = na) (hnb : val lb = nb) :
    Calls Tryz.prog 146 #[.slice ao la.length ca, .slice bo lb.length cb] w (NatOut X w (na * nb)) := by
  go_enter Tryz.func146, Tryz.ntmps146
  go_wp2_with fail
  refine (value_any X _ _ _ _ hsa hda (by omega) hca).mono ?_
  rintro e w' ⟨rfl, ao1, ca1, a, rfl, hca1, hal, hcan, hsa1⟩
  go_wp2_with fail
  refine (value_any X _ _ _ _ hsb hdb (by omega) hcb).mono ?_
  rintro e w' ⟨rfl, bo1, cb1, b, rfl, hcb1, hbl, hcbn, hsb1⟩
  rw [hna] at hcan
  rw [hnb] at hcbn
  have hal' : a.length <= 1099511627776 := Nat.le_trans hal hla
  have hbl' : b.length <= 1099511627776 := Nat.le_trans hbl hlb
  have hsum : Hid (nv a * nv b = na * nb) := hid (by rw [hcan.2.2, hcbn.2.2])
  have hda1 := hcan.1
  have hdb1 := hcbn.1
  clear hna hnb hal hbl hsa hsb hla hlb hca hcb hcan hcbn hda hdb
  have hha := hsa1.hd
  have hhb := hsb1.hd
  go_wp2_with (at_make; refine st_make slU32 (NatIn.elem .u32) 0 (fun _ => rfl) X hX w.heap.size (Nat.le_refl _) (a.length + b.length) rfl rfl (by omega) (by omega) (by omega) ?_; intro oo w1 hO hE1)
  go_loopw [23] (fun i wr => ∃ (k : Nat) (o : List Nat), i = .int .i64 k /\ k <= a.length /\ MulInv a b o k 0 0 /\ OL (NatIn .u32) 1 X w.heap.size 144 wr oo (a.length + b.length) o /\ Ext w wr) (fun i _ => a.length - (intOf i).toNat)
  case atStart => exact ⟨0, _, rfl, by omega, MulInv.start a b, hO, hE1⟩
  case round =>
    obtain ⟨k, o, rfl, hk, hinv, hOr, hEr⟩ := hrel
    clear hO hE1
    have hol := hid hinv.1
    by_cases hlt : k < a.length
    · have hca := (hsa1.mono (NatIn.mono _) (mk_ext hEr)).nat k hlt
      have hak := hda1.get k hlt
      rw [B_eq] at hak
      obtain ⟨x, hx⟩ : ∃ x, a[k] = x := ⟨_, rfl⟩
      rw [hx] at hca hak
      have hx' := hid hx
      clear hx
      obtain ⟨wo, rfl⟩ : ∃ wo : World, wo = wr := ⟨_, rfl⟩
      go_wp2_with (with_reducible refine up_ix1 slU32 (by omega) (by assumption) ?_)
      go_loopw [8, 30] (fun c j wr => ∃ (m : Nat) (o : List Nat) (cy : Nat), j = .int .i64 m /\ c = .int .u64 cy /\ m <= b.length /\ MulInv a b o k m cy /\ OL (NatIn .u32) 1 X w.heap.size 144 wr oo (a.length + b.length) o /\ Ext w wr) (fun _ j _ => b.length - (intOf j).toNat)
      case atStart => exact ⟨0, o, 0, rfl, rfl, by omega, hinv, hOr, hEr⟩
      case round =>
        clear hinv hOr hEr hol hca
        clear o
        obtain ⟨m, o, cy, rfl, rfl, hm, hinv, hOr, hEr⟩ := hrel
        have hol := hid hinv.1
        have hho : Hd oo (a.length + b.length) := hol.out ▸ hOr.hd
        have hcy := hinv.2.2.1
        rw [B_eq] at hcy
        by_cases hmt : m < b.length
        · have hcb := (hsb1.mono (NatIn.mono _) (mk_ext hEr)).nat m hmt
          have hij : k + m < o.length := by rw [hol.out]; omega
          have hoc := (hOr.sl (NatIn.elem _)).nat (k + m) hij
          have hbk := hdb1.get m hmt
          have hok := hinv.2.1.get (k + m) hij
          rw [B_eq] at hbk hok
          obtain ⟨y, hy⟩ : ∃ y, b[m] = y := ⟨_, rfl⟩
          obtain ⟨z, hz⟩ : ∃ z, o[k + m] = z := ⟨_, rfl⟩
          obtain ⟨hst, hb1⟩ := hinv.step' hlt hmt hda1 hdb1 hij hx'.out hy hz
          rw [hy] at hcb hbk
          rw [hz] at hoc hok
          clear hy hz
          have hx0 : (0 : Int) <= (x : Int) * (y : Int) := Int.mul_nonneg (by omega) (by omega)
          have hx3 : (cy : Int) + ((x : Int) * (y : Int) + (z : Int)) < 18446744073709551616 := by rw [<- Int.natCast_mul]; omega
          have hw1 : IntKind.u64.wrap ((x : Int) * (y : Int)) = (x : Int) * (y : Int) := IntWalk.u64_in _ (by omega)
          have hw2 : IntKind.u64.wrap ((x : Int) * (y : Int) + (z : Int)) = (x : Int) * (y : Int) + (z : Int) := IntWalk.u64_in _ (by omega)
          have hw3 : IntKind.u64.wrap ((cy : Int) + ((x : Int) * (y : Int) + (z : Int))) = (cy : Int) + ((x : Int) * (y : Int) + (z : Int)) := IntWalk.u64_in _ (by omega)
          clear hb1 hx3 hx0
          have hoc2 : wr.cell? (adr oo ((k : Int) + (m : Int)).toNat) = some (.int .u32 z) := hoc
          go_wp2_with (first | (with_reducible refine up_ix1 slU32 (by omega) (by assumption) ?_) | ((with_reducible show wpList _ _ _ (⟨_, .store _ _ _, _, _, _, _⟩ :: _) _ _); refine st_storeNat tyU32 (k + m) ((cy + (x * y + z)) % 4294967296) rfl (by omega) hOr hij rfl (by simp) ?_; intro w3 hO3 hE3))
          go_roundw
          case rel => exact ⟨m + 1, _, _, by go_num, by simp, by omega, hst, hO3, hEr.own hOr (Nat.le_refl _) hE3⟩
          case measure => simp [intOf]; omega
        · have hme : m = b.length := by omega
          subst hme
          have hst := hinv.row hlt
          have hij : k + b.length < o.length := by rw [hol.out]; omega
          go_wp2_with (first | (with_reducible refine up_ix1 slU32 (by omega) (by assumption) ?_) | ((with_reducible show wpList _ _ _ (⟨_, .store _ _ _, _, _, _, _⟩ :: _) _ _); refine st_storeNat tyU32 (k + b.length) cy rfl (by omega) hOr hij rfl (by omega) ?_; intro w3 hO3 hE3))
          go_roundw
          case rel => exact ⟨k + 1, _, by go_num, by omega, hst, hO3, hEr.own hOr (Nat.le_refl _) hE3⟩
          case measure => simp [intOf]; omega
    · have hke : k = a.length := by omega
      subst hke
      have hdn := hinv.done rfl
      have hod := hinv.2.1
      have hs3 := hOr.sl (NatIn.elem .u32)
      have hdn' := hid hdn
      clear hdn
      go_wp2_with fail
      rw [<- hol.out]
      refine (trimmed_any X _ _ _ _ hs3 hod (by rw [hol.out]; omega) (by omega)).mono ?_
      rintro e w' ⟨rfl, l', rfl, hl', hc, hs'⟩
      go_wp2_with fail
      go_ret
      rw [hdn'.out, hsum.out] at hc
      exact ⟨hEr, _, _, _, rfl, hl', hc, hs'⟩
end Go.Proofs.YtgimdkjgaemcbaaGreat
namespace Go.Proofs.YtgimdkjgaemcbaaGreat
open Go.RowKit Go.Rep Go.Lim
theorem clone_any (X : Nat -> Bool) (ao : Option Addr) (l : List Nat) (cap : Nat) (w : World) (n : Nat) (hs : Sl (NatIn .u32) 1 (mk X w) ao l) (hc : Canon l n) (hl : l.length <= 4398046511104) (hX : ∀ k, X k = true -> k < w.heap.size) :
    Calls Tryz.prog 251 #[.slice ao l.length cap] w (NatOut X w n) := by
  have hnil := fun wx => Lib.run_eql_slice_nil (P := Tryz.prog) wx 34 144 ao l.length cap 0 0 Tryz.underlying34
  cases ao with
  | none =>
    have hl0 : l = [] := by
      cases l with
      | nil => rfl
      | cons x l => obtain ⟨b, o, h⟩ := hs.1 (by simp); simp at h
    subst hl0
    simp only [List.length_nil, Option.isNone_none] at hnil |-
    go_enter Tryz.func251, Tryz.ntmps251
    go_wp2_with fail
    go_ret
    exact ⟨ExtX.refl _, none, 0, [], rfl, by simp, hc, Sl.nil _ _ _ _⟩
  | some ad =>
    have hO : OL (NatIn .u32) 1 X w.heap.size 144 (w.alloc (.cells #[] 144)) (some ⟨w.heap.size, 0, none⟩) 0 [] :=
      OL.lit (NatIn.elem .u32) hX (Nat.le_refl _) [] [] _ rfl rfl (fun i hi => by simp at hi) (by simp)
    have hs2 := hs.mono (NatIn.mono _) (mk_new X w (.cells #[] 144))
    have hX2 : ∀ k, X k = true -> k < (w.alloc (.cells #[] 144)).heap.size := fun k hk => by have := hX k hk; simp; omega
    go_enter Tryz.func251, Tryz.ntmps251
    go_wp2_with (at_builtin; refine st_appendl (l := []) slU32 rfl (NatIn.elem .u32) (by simp) hX2 l rfl rfl hO hs2 (by simp; omega) (by simp; omega) ?_; intro ao2 cap2 w2 hO2 hE2 _)
    go_ret
    exact ⟨((ExtX.refl w).alloc _).own hO (Nat.le_refl _) hE2, _, _, l, rfl, by have := hO2.lenCap; simpa using this, hc, by simpa using hO2.sl (NatIn.elem _)⟩
def DivOut (X : Nat -> Bool) (w : World) (q r : Nat) (e : Ending) (w' : World) : Prop :=
  Ext w w' /\ ∃ ao cap l bo cbp m, e = .returned (.tuple #[.slice ao l.length cap, .slice bo m.length cbp, .bool true]) /\ l.length <= cap /\ Canon l q /\ Sl (NatIn .u32) 1 (mk X w') ao l /\ m.length <= cbp /\ Canon m r /\ Sl (NatIn .u32) 1 (mk X w') bo m
theorem div1_any (X : Nat -> Bool) (ao bo : Option Addr) (la lb : List Nat) (ca cb : Nat) (w : World) (hsa : Sl (NatIn .u32) 1 (mk X w) ao la) (hsb : Sl (NatIn .u32) 1 (mk X w) bo lb)
    (hda : Dig la) (hdb : Dig lb) (hla : la.length <= 1099511627776) (hlb : lb.length <= 1099511627776) (hca : la.length <= ca) (hcb : lb.length <= cb) (hX : ∀ k, X k = true -> k < w.heap.size) (na nb : Nat) (hna : val la = na) (hnb : val lb = nb)
    (h0 : 0 < nb) (h1 : nb < 4294967296) :
    Calls Tryz.prog 200 #[.slice ao la.length ca, .slice bo lb.length cb] w (DivOut X w (na / nb) (na % nb)) := by
  go_enter Tryz.func200, Tryz.ntmps200
  go_wp2_with fail
  refine (value_any X _ _ _ _ hsa hda (by omega) hca).mono ?_
  rintro e w' ⟨rfl, ao1, ca1, a, rfl, hca1, hal, hcan, hsa1⟩
  go_wp2_with fail
  refine (value_any X _ _ _ _ hsb hdb (by omega) hcb).mono ?_
  rintro e w' ⟨rfl, bo1, cb1, b, rfl, hcb1, hbl, hcbn, hsb1⟩
  rw [hna] at hcan
  rw [hnb] at hcbn
  have hb1 := canon_one hcbn h0 h1
  subst hb1
  have hal' : a.length <= 1099511627776 := Nat.le_trans hal hla
  have hva := hid hcan.val
  have hvb := hid hcbn.val
  have hdb1 := hcbn.1
  have hda1 := hcan.1
  clear hna hnb hal hbl hsa hsb hla hlb hca hcb
  have hha := hsa1.hd
  have hhb := hsb1.hd
  simp only [List.length_cons, List.length_nil, Nat.zero_add] at hhb hcb1 |-
  go_wp2_with fail
  refine (compare_any X ao1 bo1 a [nb] ca1 cb1 w hsa1 hsb1 hda1 hdb1 hal' (by simp) hca1 hcb1 na nb hva.out hvb.out).mono ?_
  rintro e w2 ⟨hE2, rfl⟩
  have hsa2 := hsa1.mono (NatIn.mono _) (mk_ext hE2)
  have hsb2 := hsb1.mono (NatIn.mono _) (mk_ext hE2)
  have hX2 : ∀ k, X k = true -> k < w2.heap.size := fun k hk => Nat.lt_of_lt_of_le (hX k hk) hE2.size
  by_cases hlt : na < nb
  · have hcl : cmpN na nb < 0 := (cmpN_lt na nb).2 hlt
    have hq := hid (Nat.div_eq_of_lt hlt)
    have hr := hid (Nat.mod_eq_of_lt hlt)
    generalize cmpN na nb = c at hcl
    go_wp2_with fail
    refine (clone_any X _ _ _ _ na hsa2 hcan (by omega) hX2).mono ?_
    rintro e w3 ⟨hE3, ao3, ca3, l3, rfl, hc3, hcan3, hs3⟩
    go_wp2_with fail
    go_ret3
    refine ⟨hE2.trans hE3, none, 0, [], ao3, ca3, l3, rfl, by simp, ?_, Sl.nil _ _ _ _, hc3, ?_, hs3⟩
    · rw [hq.out]; exact Canon.nil
    · rw [hr.out]; exact hcan3
  · have hcl : ¬ cmpN na nb < 0 := fun h => hlt ((cmpN_lt na nb).1 h)
    generalize cmpN na nb = c at hcl
    have hcell := hsb2.nat 0 (by simp)
    simp only [List.getElem_cons_zero] at hcell
    go_wp2_with (with_reducible refine up_ix1 slU32 (by omega) (by assumption) ?_)
    refine (short_any X ao1 a ca1 nb w2 hsa2 hda1 hal' hX2 h0 h1).mono ?_
    rintro e w3 ⟨hE3, ao3, ca3, l3, rfl, hc3, hcan3, hs3⟩
    have hX3 : ∀ k, X k = true -> k < w3.heap.size := fun k hk => Nat.lt_of_lt_of_le (hX2 k hk) hE3.size
    have hrl : nv a % nb < nb := Nat.mod_lt _ h0
    obtain ⟨r, hr⟩ : ∃ r, nv a % nb = r := ⟨_, rfl⟩
    rw [hr] at hrl |-
    have hr' := hid hr
    clear hr
    go_wp2_with fail
    refine (fromUint_any X r _ (by omega) hX3).mono ?_
    rintro e w4 ⟨hE4, bo4, cb4, l4, rfl, hc4, hcan4, hs4⟩
    go_wp2_with fail
    go_ret3
    have hs3' := hs3.mono (NatIn.mono _) (mk_ext hE4)
    have hnv := hcan.2.2
    rw [hnv] at hcan3
    have hr2 := hr'.out
    rw [hnv] at hr2
    rw [<- hr2] at hcan4
    exact ⟨(hE2.trans hE3).trans hE4, ao3, ca3, l3, bo4, cb4, l4, rfl, hc3, hcan3, hs3', hc4, hcan4, hs4⟩
end Go.Proofs.YtgimdkjgaemcbaaGreat
namespace Go.Lim
theorem nv_take_lt {l : List Nat} (h : Dig l) (k : Nat) : nv (l.take k) < B ^ k := by
  refine Nat.lt_of_lt_of_le (nv_lt (h.take k)) (Nat.pow_le_pow_right B_pos ?_)
  simp; omega
theorem nv_take_of_lt {l : List Nat} {k : Nat} (h : nv l < B ^ k) : nv (l.take k) = nv l := by
  by_cases hk : k <= l.length
  · have h1 := nv_split l k hk
    have h2 : nv (l.drop k) = 0 := by
      by_cases h0 : nv (l.drop k) = 0
      · exact h0
      · have : B ^ k * 1 <= B ^ k * nv (l.drop k) := Nat.mul_le_mul_left _ (by omega)
        omega
    rw [h2] at h1; omega
  · rw [List.take_of_length_le (by omega)]
theorem getD_of_lt {l : List Nat} {i : Nat} (h : i < l.length) : l.getD i 0 = l[i] := by simp [List.getD, h]
theorem getD_of_ge {l : List Nat} {i : Nat} (h : l.length <= i) : l.getD i 0 = 0 := by simp [List.getD, h]
def subD (x y c : Nat) : Nat := (x + 4294967296 - y - c) % 4294967296
def subC (x y c : Nat) : Nat := if x < y + c then 1 else 0
theorem subD_eq {x y c : Nat} (hx : x < B) (hy : y < B) (hc : c <= 1) : subD x y c + y + c = x + B * subC x y c /\ subD x y c < B /\ subC x y c <= 1 := by
  rw [B_eq] at *
  unfold subD subC
  split <;> omega
def SubInv (a b o : List Nat) (i c : Nat) : Prop := o.length = a.length /\ Dig o /\ c <= 1 /\ nv (o.take i) + nv (b.take i) = nv (a.take i) + B ^ i * c
theorem SubInv.start (a b : List Nat) : SubInv a b (List.replicate a.length 0) 0 0 := ⟨by simp, Dig.zeros _, by omega, by simp [nv]⟩
theorem SubInv.step {a b o : List Nat} {i c x y : Nat} (h : SubInv a b o i c) (hi : i < a.length) (hx : a[i] = x) (hy : b.getD i 0 = y) (ha : Dig a) (hb : Dig b) :
    SubInv a b (o.set i (subD x y c)) (i + 1) (subC x y c) := by
  obtain ⟨h1, h2, h3, h4⟩ := h
  have hai := ha.get i hi
  have hyB := hb.getD i
  rw [hx] at hai
  rw [hy] at hyB
  obtain ⟨e1, e2, e3⟩ := subD_eq hai hyB h3
  refine ⟨by simpa using h1, h2.set _ _ e2, e3, ?_⟩
  rw [take_set_succ o i _ (by omega), nv_snoc, nv_take_succ a i hi, nv_take_getD, hx, hy, List.length_take, Nat.min_eq_left (by omega), Nat.pow_succ]
  generalize subD x y c = d at *
  generalize subC x y c = c' at *
  have e4 : B ^ i * (d + y + c) = B ^ i * (x + B * c') := by rw [e1]
  rw [Nat.mul_add, Nat.mul_add, Nat.mul_add] at e4
  rw [Nat.mul_assoc]
  omega
theorem SubInv.done {a b o : List Nat} {c : Nat} (h : SubInv a b o a.length c) (hab : b.length <= a.length) (hle : nv b <= nv a) : nv o = nv a - nv b := by
  obtain ⟨h1, h2, h3, h4⟩ := h
  rw [List.take_of_length_le (Nat.le_of_eq h1), List.take_of_length_le hab, List.take_of_length_le (Nat.le_refl _)] at h4
  have h5 := nv_lt h2
  rw [h1] at h5
  have h6 : c = 0 := by
    by_cases h0 : c = 0
    · exact h0
    · have : c = 1 := by omega
      subst this; omega
  subst h6; omega
def RedInv (W V : List Nat) (x : Nat) (o : List Nat) (k cy bo : Nat) : Prop :=
  o.length = W.length /\ Dig o /\ o.drop k = W.drop k /\ bo <= 1 /\ cy < B /\ (∃ L, L < B ^ k /\ x * nv (V.take k) = L + B ^ k * cy) /\ nv (o.take k) + x * nv (V.take k) = nv (W.take k) + B ^ k * (cy + bo)
theorem RedInv.start {W V : List Nat} {x : Nat} (hW : Dig W) : RedInv W V x W 0 0 0 := ⟨rfl, hW, rfl, by omega, B_pos, ⟨0, by simp, by simp [nv]⟩, by simp [nv]⟩
theorem RedInv.step {W V o : List Nat} {x k cy bo y z : Nat} (h : RedInv W V x o k cy bo) (hk : k < W.length) (hy : V.getD k 0 = y) (hz : o.getD k 0 = z) (hV : Dig V) (hx : x < B) :
    RedInv W V x (o.set k (subD z ((cy + x * y) % 4294967296) bo)) (k + 1) ((cy + x * y) / 4294967296) (subC z ((cy + x * y) % 4294967296) bo) /\ cy + x * y < 18446744073709551616 /\ z < 4294967296 := by
  obtain ⟨h1, h2, h3, h4, h5, ⟨L, h6, h7⟩, h8⟩ := h
  have hyB := hV.getD k
  rw [hy] at hyB
  have hzB := h2.getD k
  rw [hz] at hzB
  have hzW : W[k] = z := by
    have e0 : (o.drop k)[0]'(by simp; omega) = (W.drop k)[0]'(by simp; omega) := by simp only [h3]
    simp at e0
    rw [<- e0, <- hz, getD_of_lt (by omega)]
  have hm : x * y <= 4294967295 * 4294967295 := Nat.mul_le_mul (by rw [B_eq] at hx; omega) (by rw [B_eq] at hyB; omega)
  obtain ⟨lo, hlo⟩ : ∃ lo, (cy + x * y) % 4294967296 = lo := ⟨_, rfl⟩
  obtain ⟨hi, hhi⟩ : ∃ hi, (cy + x * y) / 4294967296 = hi := ⟨_, rfl⟩
  have hdm : B * hi + lo = cy + x * y := by rw [<- hlo, <- hhi, B_eq]; exact Nat.div_add_mod _ _
  have hloB : lo < B := by rw [<- hlo, B_eq]; exact Nat.mod_lt _ (by decide)
  have hhiB : hi < B := by rw [B_eq] at h5 |-; omega
  rw [hlo, hhi]
  obtain ⟨e1, e2, e3⟩ := subD_eq hzB hloB h4
  have hV1 : nv (V.take (k + 1)) = nv (V.take k) + B ^ k * y := by rw [nv_take_getD, hy]
  have e5 : B ^ k * (B * hi + lo) = B ^ k * (cy + x * y) := by rw [hdm]
  rw [Nat.mul_add, Nat.mul_add] at e5
  have e6 : x * (nv (V.take k) + B ^ k * y) = x * nv (V.take k) + B ^ k * (x * y) := by rw [Nat.mul_add, Nat.mul_left_comm]
  refine ⟨⟨by simpa using h1, h2.set _ _ e2, ?_, e3, hhiB, ⟨L + B ^ k * lo, ?_, ?_⟩, ?_⟩, by rw [B_eq] at h5; omega, by rw [B_eq] at hzB; exact hzB⟩
  · rw [List.drop_set_of_lt (by omega)]
    have : (o.drop k).drop 1 = (W.drop k).drop 1 := by rw [h3]
    simpa using this
  · rw [Nat.pow_succ]
    have : B ^ k * lo + B ^ k <= B ^ k * B := by rw [<- Nat.mul_succ]; exact Nat.mul_le_mul_left _ hloB
    omega
  · rw [hV1, e6, h7, Nat.pow_succ, Nat.mul_assoc]; omega
  · rw [take_set_succ o k _ (by omega), nv_snoc, nv_take_succ W k hk, hzW, hV1, e6, List.length_take, Nat.min_eq_left (by omega), Nat.pow_succ, Nat.mul_assoc, Nat.mul_add]
    rw [Nat.mul_add] at h8
    generalize subD z lo bo = d at *
    generalize subC z lo bo = c' at *
    have e7 : B ^ k * (d + lo + bo) = B ^ k * (z + B * c') := by rw [e1]
    rw [Nat.mul_add, Nat.mul_add, Nat.mul_add] at e7
    rw [Nat.mul_add]
    omega
theorem RedInv.done {W V o : List Nat} {x cy bo n : Nat} (h : RedInv W V x o W.length cy bo) (hW : W.length = n + 1) (hV : V.length = n) (hVd : Dig V) (hx : x < B) :
    o.length = n + 1 /\ Dig o /\ ((bo = 0 /\ nv o + x * nv V = nv W) \/ (bo = 1 /\ nv W < x * nv V /\ nv o + x * nv V = nv W + B ^ (n + 1))) := by
  obtain ⟨h1, h2, h3, h4, h5, ⟨L, h6, h7⟩, h8⟩ := h
  have hVl := nv_lt hVd
  rw [hV] at hVl
  have hol := nv_lt h2
  rw [h1, hW] at hol
  rw [List.take_of_length_le (by omega)] at h7
  rw [List.take_of_length_le (by omega), List.take_of_length_le (by omega), List.take_of_length_le (Nat.le_refl _)] at h8
  rw [hW] at h6 h7 h8
  have hxv : x * nv V < B ^ (n + 1) := by
    rw [Nat.pow_succ, Nat.mul_comm (B ^ n)]
    exact Nat.lt_of_le_of_lt (Nat.mul_le_mul_right _ (Nat.le_of_lt hx)) (Nat.mul_lt_mul_of_pos_left hVl B_pos)
  have hcy : cy = 0 := by
    by_cases h0 : cy = 0
    · exact h0
    · have : B ^ (n + 1) * 1 <= B ^ (n + 1) * cy := Nat.mul_le_mul_left _ (by omega)
      omega
  subst hcy
  refine ⟨by omega, h2, ?_⟩
  rcases (show bo = 0 \/ bo = 1 by omega) with rfl | rfl
  · left; exact ⟨rfl, by simpa using h8⟩
  · right
    rw [Nat.zero_add, Nat.mul_one] at h8
    exact ⟨rfl, by omega, h8⟩
def ResInv (W V : List Nat) (o : List Nat) (k c : Nat) : Prop :=
  o.length = W.length /\ Dig o /\ o.drop k = W.drop k /\ c <= 1 /\ nv (o.take k) + B ^ k * c = nv (W.take k) + nv (V.take k)
theorem ResInv.start {W V : List Nat} (hW : Dig W) : ResInv W V W 0 0 := ⟨rfl, hW, rfl, by omega, by simp [nv]⟩
theorem ResInv.step {W V o : List Nat} {k c y z : Nat} (h : ResInv W V o k c) (hk : k < W.length) (hy : V.getD k 0 = y) (hz : o.getD k 0 = z) (hV : Dig V) :
    ResInv W V (o.set k ((z + y + c) % 4294967296)) (k + 1) ((z + y + c) / 4294967296) /\ z < 4294967296 := by
  obtain ⟨h1, h2, h3, h4, h8⟩ := h
  have hyB := hV.getD k
  rw [hy, B_eq] at hyB
  have hzB := h2.getD k
  rw [hz, B_eq] at hzB
  have hzW : W[k] = z := by
    have e0 : (o.drop k)[0]'(by simp; omega) = (W.drop k)[0]'(by simp; omega) := by simp only [h3]
    simp at e0
    rw [<- e0, <- hz, getD_of_lt (by omega)]
  refine ⟨⟨by simpa using h1, h2.set _ _ (by rw [B_eq]; exact Nat.mod_lt _ (by decide)), ?_, by omega, ?_⟩, hzB⟩
  · rw [List.drop_set_of_lt (by omega)]
    have : (o.drop k).drop 1 = (W.drop k).drop 1 := by rw [h3]
    simpa using this
  · rw [take_set_succ o k _ (by omega), nv_snoc, nv_take_succ W k hk, hzW, nv_take_getD, hy, List.length_take, Nat.min_eq_left (by omega), Nat.pow_succ, Nat.mul_assoc]
    have e : (z + y + c) % 4294967296 + B * ((z + y + c) / 4294967296) = z + y + c := by rw [B_eq]; omega
    have e2 : B ^ k * ((z + y + c) % 4294967296) + B ^ k * (B * ((z + y + c) / 4294967296)) = B ^ k * z + B ^ k * y + B ^ k * c := by rw [<- Nat.mul_add, e, Nat.mul_add, Nat.mul_add]
    omega
theorem ResInv.done {W V o : List Nat} {c n : Nat} (h : ResInv W V o W.length c) (hW : W.length = n + 1) (hV : V.length = n) : o.length = n + 1 /\ Dig o /\ c <= 1 /\ nv o + B ^ (n + 1) * c = nv W + nv V := by
  obtain ⟨h1, h2, h3, h4, h8⟩ := h
  rw [List.take_of_length_le (by omega), List.take_of_length_le (Nat.le_refl _), List.take_of_length_le (by omega), hW] at h8
  exact ⟨by omega, h2, h4, h8⟩
def ShInv (a o : List Nat) (s k : Nat) : Prop := o.length = a.length + 1 /\ Dig o /\ (∀ p, k < p -> o.getD p 0 = 0) /\ o.getD k 0 < 2 ^ s /\ nv (o.take (k + 1)) = nv (a.take k) * 2 ^ s
theorem ShInv.start (a : List Nat) (s : Nat) : ShInv a (List.replicate (a.length + 1) 0) s 0 :=
  ⟨by simp, Dig.zeros _, fun p _ => by by_cases h : p < a.length + 1 <;> simp [List.getD, h], by simp [List.getD]; exact Nat.two_pow_pos _, by rw [nv_take_getD]; simp [nv, List.getD]⟩
theorem or_shift {lo x s : Nat} (hlo : lo < 2 ^ s) (hs : s < 32) : lo ||| (x * 2 ^ s) % 4294967296 = lo + (x * 2 ^ s) % 4294967296 := by
  have e : (x * 2 ^ s) % 4294967296 = 2 ^ s * (x % 2 ^ (32 - s)) := by
    rw [show (4294967296 : Nat) = 2 ^ s * 2 ^ (32 - s) by rw [<- Nat.pow_add, show s + (32 - s) = 32 by omega], Nat.mul_comm x, Nat.mul_mod_mul_left]
  rw [e, Nat.or_comm, <- Nat.two_pow_add_eq_or_of_lt hlo, Nat.add_comm]
theorem ShInv.step {a o : List Nat} {s k x lo : Nat} (h : ShInv a o s k) (hk : k < a.length) (hx : a[k] = x) (hlo : o.getD k 0 = lo) (ha : Dig a) (hs : s < 32) :
    ShInv a ((o.set k (lo ||| (x * 2 ^ s) % 4294967296)).set (k + 1) (x * 2 ^ s / 4294967296)) s (k + 1) /\ (lo ||| (x * 2 ^ s) % 4294967296) < 4294967296 /\ x * 2 ^ s < 18446744073709551616 /\ x * 2 ^ s / 4294967296 < 4294967296 := by
  obtain ⟨h1, h2, h3, h4, h5⟩ := h
  have hai := ha.get k hk
  rw [hx, B_eq] at hai
  rw [hlo] at h4
  rw [or_shift h4 hs]
  have hp : (2 : Nat) ^ s <= 2 ^ 31 := Nat.pow_le_pow_right (by omega) (by omega)
  have hdiv : x * 2 ^ s / 4294967296 < 2 ^ s := Nat.div_lt_of_lt_mul (Nat.mul_lt_mul_of_pos_right hai (Nat.two_pow_pos _))
  have hsum : lo + (x * 2 ^ s) % 4294967296 < 4294967296 := by
    have e : (x * 2 ^ s) % 4294967296 = 2 ^ s * (x % 2 ^ (32 - s)) := by
      rw [show (4294967296 : Nat) = 2 ^ s * 2 ^ (32 - s) by rw [<- Nat.pow_add, show s + (32 - s) = 32 by omega], Nat.mul_comm x, Nat.mul_mod_mul_left]
    have e2 : x % 2 ^ (32 - s) < 2 ^ (32 - s) := Nat.mod_lt _ (Nat.two_pow_pos _)
    have e3 : 2 ^ s * (x % 2 ^ (32 - s)) + 2 ^ s <= 2 ^ s * 2 ^ (32 - s) := by rw [<- Nat.mul_succ]; exact Nat.mul_le_mul_left _ e2
    have e4 : 2 ^ s * 2 ^ (32 - s) = 4294967296 := by rw [<- Nat.pow_add, show s + (32 - s) = 32 by omega]
    omega
  have hxs : x * 2 ^ s < 18446744073709551616 := by
    have : x * 2 ^ s <= x * 2 ^ 31 := Nat.mul_le_mul_left _ hp
    omega
  refine ⟨⟨by simpa using h1, (h2.set _ _ (by rw [B_eq]; exact hsum)).set _ _ (by rw [B_eq]; omega), fun p hp => ?_, ?_, ?_⟩, hsum, hxs, by omega⟩
  · have := h3 p (by omega)
    simp only [List.getD_eq_getElem?_getD] at this |-
    rw [List.getElem?_set_ne (by omega), List.getElem?_set_ne (by omega)]; exact this
  · rw [getD_of_lt (by simp; omega), List.getElem_set_self]; exact hdiv
  · rw [take_set_succ _ _ _ (by simp; omega), nv_snoc, take_set_succ _ _ _ (by omega), nv_snoc]
    simp only [List.length_append, List.length_take, List.length_singleton, h1]
    rw [Nat.min_eq_left (by omega), nv_take_succ a k hk, hx, Nat.add_mul]
    rw [nv_take_getD, hlo] at h5
    have e := Nat.div_add_mod (x * 2 ^ s) 4294967296
    have hmin : min (k + 1) (a.length + 1) = k + 1 := by omega
    rw [Nat.mul_add, Nat.pow_succ, Nat.mul_assoc (B ^ k)]
    try rw [hmin]
    have e2 : B ^ k * (B * (x * 2 ^ s / 4294967296)) + B ^ k * (x * 2 ^ s % 4294967296) = B ^ k * x * 2 ^ s := by rw [<- Nat.mul_add, B_eq, e, Nat.mul_assoc]
    omega
theorem ShInv.done {a o : List Nat} {s : Nat} (h : ShInv a o s a.length) : o.length = a.length + 1 /\ Dig o /\ o.getD a.length 0 < 2 ^ s /\ nv o = nv a * 2 ^ s := by
  obtain ⟨h1, h2, h3, h4, h5⟩ := h
  rw [List.take_of_length_le (by omega), List.take_of_length_le (Nat.le_refl _)] at h5
  exact ⟨h1, h2, h4, h5⟩
def estB (b u2 u1 u0 v1 v0 : Nat) : Nat := min ((u2 * (b * b) + u1 * b + u0) / (v1 * b + v0)) (b - 1)
def GInvB (b u2 u1 u0 v1 v0 q r : Nat) : Prop := q * v1 + r = u2 * b + u1 /\ estB b u2 u1 u0 v1 v0 <= q /\ q <= b + 1
theorem GInvB.start {b u2 u1 u0 v1 v0 : Nat} (hv : b <= 2 * v1) (hb : 2 <= b) (h2 : u2 <= v1) (h1 : u1 < b) (h0 : u0 < b) : GInvB b u2 u1 u0 v1 v0 ((u2 * b + u1) / v1) ((u2 * b + u1) % v1) := by
  refine ⟨by rw [Nat.mul_comm]; exact Nat.div_add_mod _ _, ?_, ?_⟩
  · unfold estB
    refine Nat.le_trans (Nat.min_le_left _ _) ?_
    rw [Nat.le_div_iff_mul_le (by omega)]
    generalize hq : (u2 * (b * b) + u1 * b + u0) / (v1 * b + v0) = q
    have e : q * (v1 * b + v0) <= u2 * (b * b) + u1 * b + u0 := by rw [<- hq]; exact Nat.div_mul_le_self _ _
    have e1 : q * v1 * b < (u2 * b + u1 + 1) * b := by
      rw [Nat.mul_add, <- Nat.mul_assoc] at e
      rw [Nat.add_mul, Nat.add_mul, Nat.mul_assoc u2, Nat.one_mul]
      omega
    have := Nat.lt_of_mul_lt_mul_right e1
    omega
  · have : (u2 * b + u1) / v1 < b + 2 := by
      rw [Nat.div_lt_iff_lt_mul (by omega)]
      have : u2 * b <= v1 * b := Nat.mul_le_mul_right _ h2
      rw [Nat.add_mul, Nat.mul_comm b v1]
      omega
    omega
theorem GInvB.more {b u2 u1 u0 v1 v0 q r : Nat} (h : GInvB b u2 u1 u0 v1 v0 q r) (hb : 2 <= b) (hc : b <= q \/ r * b + u0 < q * v0) (hv : 0 < v1) : 1 <= q /\ GInvB b u2 u1 u0 v1 v0 (q - 1) (r + v1) := by
  obtain ⟨h1, h2, h3⟩ := h
  have hlt : estB b u2 u1 u0 v1 v0 < q := by
    rcases hc with hc | hc
    · unfold estB; omega
    · unfold estB
      refine Nat.lt_of_le_of_lt (Nat.min_le_left _ _) ?_
      have hp : 0 < v1 * b := Nat.mul_pos hv (by omega)
      have e5 : q * (v1 * b + v0) = q * v1 * b + q * v0 := by rw [Nat.mul_add, Nat.mul_assoc]
      rw [Nat.div_lt_iff_lt_mul (by omega), e5]
      have e : (q * v1 + r) * b = (u2 * b + u1) * b := by rw [h1]
      rw [Nat.add_mul, Nat.add_mul, Nat.mul_assoc u2] at e
      omega
  refine ⟨by omega, ?_, by omega, by omega⟩
  obtain ⟨p, rfl⟩ : ∃ p, q = p + 1 := ⟨q - 1, by omega⟩
  rw [Nat.succ_mul] at h1
  rw [show p + 1 - 1 = p from rfl]; omega
theorem GInvB.less {b u2 u1 u0 v1 v0 q r : Nat} (h : GInvB b u2 u1 u0 v1 v0 q r) (hb : 2 <= b) (hv : b <= 2 * v1) (h2' : u2 <= v1) (hu1 : u1 < b) (hv0 : v0 < b) (hc : b <= r \/ (q < b /\ q * v0 <= r * b + u0)) : q = estB b u2 u1 u0 v1 v0 := by
  obtain ⟨h1, h2, h3⟩ := h
  have hq : q < b := by
    rcases hc with hc | hc
    · by_cases hq : q < b
      · exact hq
      · have e1 : b * v1 <= q * v1 := Nat.mul_le_mul_right _ (by omega)
        have e2 : u2 * b <= v1 * b := Nat.mul_le_mul_right _ h2'
        rw [Nat.mul_comm b] at e1
        omega
    · exact hc.1
  have hv0' : q * v0 <= r * b + u0 := by
    rcases hc with hc | hc
    · have e1 : q * v0 <= b * b := Nat.mul_le_mul (by omega) (by omega)
      have e2 : b * b <= r * b := Nat.mul_le_mul_right _ hc
      omega
    · exact hc.2
  refine Nat.le_antisymm ?_ h2
  unfold estB
  refine Nat.le_min.2 ⟨?_, by omega⟩
  have hp : 0 < v1 * b := Nat.mul_pos (by omega) (by omega)
  rw [Nat.le_div_iff_mul_le (by omega), Nat.mul_add, <- Nat.mul_assoc]
  have e : (q * v1 + r) * b = (u2 * b + u1) * b := by rw [h1]
  rw [Nat.add_mul, Nat.add_mul, Nat.mul_assoc u2] at e
  omega
theorem nv_top3 {W : List Nat} {n : Nat} (hW : W.length = n + 3) : nv W = nv (W.take n) + B ^ n * (W[n + 2] * (B * B) + W[n + 1] * B + W[n]) := by
  have e : W.take (n + 3) = W := List.take_of_length_le (by omega)
  have h0 : nv (W.take (n + 1)) = nv (W.take n) + B ^ n * W[n] := nv_take_succ W n (by omega)
  have h1 : nv (W.take (n + 2)) = nv (W.take (n + 1)) + B ^ (n + 1) * W[n + 1] := nv_take_succ W (n + 1) (by omega)
  have h2 : nv (W.take (n + 3)) = nv (W.take (n + 2)) + B ^ (n + 2) * W[n + 2] := nv_take_succ W (n + 2) (by omega)
  rw [e] at h2
  rw [h2, h1, h0, show B ^ (n + 2) = B ^ n * B * B by rw [Nat.pow_succ, Nat.pow_succ], show B ^ (n + 1) = B ^ n * B from Nat.pow_succ ..]
  generalize W[n] = x0
  generalize W[n + 1] = x1
  generalize W[n + 2] = x2
  generalize B ^ n = q
  simp only [Nat.mul_add]
  have e1 : q * B * B * x2 = q * (x2 * (B * B)) := by ac_rfl
  have e2 : q * B * x1 = q * (x1 * B) := by ac_rfl
  rw [e1, e2]
  omega
theorem nv_top2 {V : List Nat} {n : Nat} (hV : V.length = n + 2) : nv V = nv (V.take n) + B ^ n * (V[n + 1] * B + V[n]) := by
  have e : V.take (n + 2) = V := List.take_of_length_le (by omega)
  have h0 := nv_take_succ V n (by omega)
  have h1 := nv_take_succ V (n + 1) (by omega)
  rw [show n + 1 + 1 = n + 2 from rfl, e, Nat.pow_succ] at h1
  rw [h1, h0]
  generalize V[n] = x0
  generalize V[n + 1] = x1
  generalize B ^ n = q
  simp only [Nat.mul_add]
  have e2 : q * B * x1 = q * (x1 * B) := by ac_rfl
  rw [e2]
  omega
theorem est_law {b Q u2 u1 u0 v1 v0 lw lv W V : Nat} (hb : 2 <= b) (_hQ : 0 < Q) (eW : W = lw + Q * (u2 * (b * b) + u1 * b + u0)) (eV : V = lv + Q * (v1 * b + v0)) (lW : lw < Q) (lV : lv < Q)
    (_d2 : u2 < b) (d1 : u1 < b) (f0 : v0 < b) (hn : b <= 2 * v1) (hlt : W < V * b) : u2 <= v1 /\ W / V <= estB b u2 u1 u0 v1 v0 /\ estB b u2 u1 u0 v1 v0 <= W / V + 1 := by
  have hv1 : 0 < v1 := by omega
  have hp : 0 < v1 * b := Nat.mul_pos hv1 (by omega)
  have hVpos : 0 < V := by
    have : Q * 1 <= Q * (v1 * b + v0) := Nat.mul_le_mul_left _ (by omega)
    omega
  obtain ⟨v2, hv2⟩ : ∃ v2, v1 * b + v0 = v2 := ⟨_, rfl⟩
  obtain ⟨u3, hu3⟩ : ∃ u3, u2 * (b * b) + u1 * b + u0 = u3 := ⟨_, rfl⟩
  have hest : estB b u2 u1 u0 v1 v0 = min (u3 / v2) (b - 1) := by unfold estB; rw [hv2, hu3]
  rw [hest]
  rw [hv2] at eV
  rw [hu3] at eW
  have hU3 : u3 < (v2 + 1) * b := by
    have : Q * u3 < Q * ((v2 + 1) * b) := by
      have e0 : Q * ((v2 + 1) * b) = (Q * v2 + Q) * b := by rw [<- Nat.mul_assoc, Nat.mul_add Q v2 1, Nat.mul_one]
      have e1 : (lv + Q * v2) * b <= (Q * v2 + Q) * b := Nat.mul_le_mul_right _ (by omega)
      rw [eV] at hlt
      omega
    exact Nat.lt_of_mul_lt_mul_left this
  refine ⟨?_, ?_, ?_⟩
  · by_cases h : u2 <= v1
    · exact h
    · have e1 : (v1 + 1) * (b * b) <= u2 * (b * b) := Nat.mul_le_mul_right _ (by omega)
      have e2 : (v2 + 1) * b <= (v1 * b + b) * b := Nat.mul_le_mul_right _ (by omega)
      rw [Nat.add_mul, Nat.one_mul] at e1
      have e3 : (v1 * b + b) * b = v1 * (b * b) + b * b := by rw [Nat.add_mul, Nat.mul_assoc]
      omega
  · refine Nat.le_min.2 ⟨?_, ?_⟩
    · have hv2p : 0 < v2 := by omega
      rw [Nat.le_div_iff_mul_le hv2p]
      generalize hq : W / V = q
      have h1 : q * V <= W := by rw [<- hq]; exact Nat.div_mul_le_self _ _
      have h2 : Q * (q * v2) < Q * (u3 + 1) := by
        have e1 : q * (Q * v2) <= q * V := Nat.mul_le_mul_left _ (by omega)
        rw [Nat.mul_left_comm, Nat.mul_add Q, Nat.mul_one]
        omega
      have := Nat.lt_of_mul_lt_mul_left h2
      omega
    · have : W / V < b := by rw [Nat.div_lt_iff_lt_mul hVpos, Nat.mul_comm]; exact hlt
      omega
  · generalize hx : min (u3 / v2) (b - 1) = x
    have hxB : x < b := by omega
    have hxV : x * v2 <= u3 := by
      rw [<- hx]
      exact Nat.le_trans (Nat.mul_le_mul_right _ (Nat.min_le_left _ _)) (Nat.div_mul_le_self _ _)
    clear hx
    cases x with
    | zero => exact Nat.zero_le _
    | succ y =>
      rw [Nat.add_le_add_iff_right, Nat.le_div_iff_mul_le hVpos]
      have h1 : (y + 1) * V <= W + V := by
        have e1 : (y + 1) * V = (y + 1) * lv + Q * ((y + 1) * v2) := by rw [eV, Nat.mul_add, Nat.mul_left_comm]
        have e2 : Q * ((y + 1) * v2) <= Q * u3 := Nat.mul_le_mul_left _ hxV
        have e3 : (y + 1) * lv <= b * Q := Nat.mul_le_mul (by omega) (by omega)
        have e4 : b * Q <= Q * v2 := by
          rw [Nat.mul_comm]
          refine Nat.mul_le_mul_left _ ?_
          have : 1 * b <= v1 * b := Nat.mul_le_mul_right _ (by omega)
          omega
        omega
      rw [Nat.succ_mul] at h1
      omega
theorem est_ok {W V : List Nat} {n : Nat} (hW : W.length = n + 3) (hV : V.length = n + 2) (hWd : Dig W) (hVd : Dig V) (hn : B <= 2 * V[n + 1]) (hlt : nv W < nv V * B) :
    W[n + 2] <= V[n + 1] /\ nv W / nv V <= estB B W[n + 2] W[n + 1] W[n] V[n + 1] V[n] /\ estB B W[n + 2] W[n + 1] W[n] V[n + 1] V[n] <= nv W / nv V + 1 :=
  est_law (by rw [B_eq]; decide) (Nat.pow_pos B_pos) (nv_top3 hW) (nv_top2 hV) (nv_take_lt hWd n) (nv_take_lt hVd n) (hWd.get _ _) (hWd.get _ _) (hVd.get _ _) hn hlt
theorem shr_digit {u : List Nat} {s i : Nat} (hs : s < 32) (hi : i + 1 < u.length) (hd : Dig u) :
    (nv u / 2 ^ s) % B ^ (i + 1) = (nv u / 2 ^ s) % B ^ i + B ^ i * ((u[i + 1] * 4294967296 + u[i]) / 2 ^ s % 4294967296) := by
  have h1 : nv u = nv (u.take i) + B ^ i * (u[i] + B * (u[i + 1] + B * nv (u.drop (i + 2)))) := by
    have e := nv_split u i (by omega)
    rw [List.drop_eq_getElem_cons (show i < u.length by omega), List.drop_eq_getElem_cons (show i + 1 < u.length by omega)] at e
    exact e
  obtain ⟨c, hc⟩ : ∃ c, 2 ^ s * c = 4294967296 := ⟨2 ^ (32 - s), by rw [<- Nat.pow_add, show s + (32 - s) = 32 by omega]⟩
  have hp : 0 < 2 ^ s := Nat.two_pow_pos _
  have hlo := nv_take_lt hd i
  have hQ : 0 < B ^ i := Nat.pow_pos B_pos
  have hdiv : nv u / B ^ i = u[i] + B * (u[i + 1] + B * nv (u.drop (i + 2))) := by
    rw [h1, Nat.add_mul_div_left _ _ hQ, Nat.div_eq_of_lt hlo, Nat.zero_add]
  rw [Nat.pow_succ, Nat.mod_mul, Nat.div_div_eq_div_mul, Nat.mul_comm (2 ^ s), <- Nat.div_div_eq_div_mul, hdiv]
  have e : u[i] + B * (u[i + 1] + B * nv (u.drop (i + 2))) = (u[i + 1] * 4294967296 + u[i]) + 2 ^ s * (B * (c * nv (u.drop (i + 2)))) := by
    have e1 : 2 ^ s * (B * (c * nv (u.drop (i + 2)))) = B * (B * nv (u.drop (i + 2))) := by
      rw [Nat.mul_left_comm, <- Nat.mul_assoc (2 ^ s), hc, <- B_eq]
    rw [e1, Nat.mul_add, B_eq]
    omega
  rw [e, Nat.add_mul_div_left _ _ hp, Nat.add_mul_mod_self_left, <- B_eq]
def ShrInv (u o : List Nat) (s n i : Nat) : Prop := o.length = n /\ Dig o /\ nv (o.take i) = (nv u / 2 ^ s) % B ^ i
theorem ShrInv.start (u : List Nat) (s n : Nat) : ShrInv u (List.replicate n 0) s n 0 := ⟨by simp, Dig.zeros _, by simp [nv, Nat.mod_one]⟩
theorem ShrInv.step {u o : List Nat} {s n i x y : Nat} (h : ShrInv u o s n i) (hi : i < n) (hs : s < 32) (hu : i + 1 < u.length) (hd : Dig u) (hx : u[i + 1] = x) (hy : u[i] = y) : ShrInv u (o.set i ((x * 4294967296 + y) / 2 ^ s % 4294967296)) s n (i + 1) := by
  obtain ⟨h1, h2, h3⟩ := h
  refine ⟨by simpa using h1, h2.set _ _ (by rw [B_eq]; exact Nat.mod_lt _ (by decide)), ?_⟩
  rw [take_set_succ o i _ (by omega), nv_snoc, h3, shr_digit hs hu hd, hx, hy, List.length_take, Nat.min_eq_left (by omega)]
theorem ShrInv.done {u o : List Nat} {s n : Nat} (h : ShrInv u o s n n) (hlt : nv u / 2 ^ s < B ^ n) : nv o = nv u / 2 ^ s := by
  obtain ⟨h1, h2, h3⟩ := h
  rw [List.take_of_length_le (by omega), Nat.mod_eq_of_lt hlt] at h3
  exact h3
def DivInv (N : Nat) (V U Q : List Nat) (k : Nat) : Prop := Dig U /\ Dig Q /\ nv (U.drop k) < nv V /\ nv U + nv V * (B ^ k * nv (Q.drop k)) = N
theorem nv_drop_eq {U : List Nat} {j : Nat} (h : j < U.length) : nv (U.drop j) = U[j] + B * nv (U.drop (j + 1)) := by
  rw [List.drop_eq_getElem_cons h]; rfl
theorem DivInv.win {N : Nat} {V U Q : List Nat} {j n : Nat} (h : DivInv N V U Q (j + 1)) (hj : j + (n + 1) <= U.length) (hV : V.length = n) (hVd : Dig V) :
    ((U.drop j).take (n + 1)).length = n + 1 /\ Dig ((U.drop j).take (n + 1)) /\ nv ((U.drop j).take (n + 1)) < nv V * B /\ nv (U.drop (j + (n + 1))) = 0 /\ U = U.take j ++ (U.drop j).take (n + 1) ++ U.drop (j + (n + 1)) /\ nv U = nv (U.take j) + B ^ j * nv ((U.drop j).take (n + 1)) /\ (U.take j).length = j := by
  obtain ⟨h1, h2, h3, h4⟩ := h
  have e := nv_drop_eq (show j < U.length by omega)
  have hd := h1.get j (by omega)
  have hVl := nv_lt hVd
  rw [hV] at hVl
  have hlt : nv (U.drop j) < nv V * B := by
    rw [e]
    have : B * (nv (U.drop (j + 1)) + 1) <= B * nv V := Nat.mul_le_mul_left _ h3
    rw [Nat.mul_add, Nat.mul_one] at this
    rw [Nat.mul_comm (nv V)]
    omega
  have hlt2 : nv (U.drop j) < B ^ (n + 1) := by
    rw [Nat.pow_succ]
    exact Nat.lt_of_lt_of_le hlt (Nat.mul_le_mul_right _ (Nat.le_of_lt hVl))
  have ht := nv_take_of_lt hlt2
  have hsp := nv_split (U.drop j) (n + 1) (by simp; omega)
  rw [List.drop_drop] at hsp
  have hR : nv (U.drop (j + (n + 1))) = 0 := by
    by_cases h0 : nv (U.drop (j + (n + 1))) = 0
    · exact h0
    · have : B ^ (n + 1) * 1 <= B ^ (n + 1) * nv (U.drop (j + (n + 1))) := Nat.mul_le_mul_left _ (by omega)
      omega
  refine ⟨by simp; omega, (h1.drop j).take _, by rw [ht]; exact hlt, hR, ?_, ?_, by simp; omega⟩
  · rw [List.append_assoc]
    conv => lhs; rw [<- List.take_append_drop j U]
    congr 1
    rw [<- List.drop_drop, List.take_append_drop]
  · rw [ht]; exact nv_split U j (by omega)
theorem DivInv.next {N : Nat} {V U Q W' : List Nat} {j n : Nat} (h : DivInv N V U Q (j + 1)) (hj : j + (n + 1) <= U.length) (hjq : j < Q.length) (hV : V.length = n) (hVd : Dig V) (hW' : Dig W') (hl : W'.length = n + 1)
    (heq : nv W' = nv ((U.drop j).take (n + 1)) % nv V) : DivInv N V (U.take j ++ W' ++ U.drop (j + (n + 1))) (Q.set j (nv ((U.drop j).take (n + 1)) / nv V)) j /\ (U.take j ++ W' ++ U.drop (j + (n + 1))).length = U.length := by
  obtain ⟨w1, w2, w3, w4, w5, w6, w7⟩ := h.win hj hV hVd
  obtain ⟨h1, h2, h3, h4⟩ := h
  have hVp : 0 < nv V := by omega
  have hq : nv ((U.drop j).take (n + 1)) / nv V < B := by rw [Nat.div_lt_iff_lt_mul hVp, Nat.mul_comm]; exact w3
  have hdr : (U.take j ++ W' ++ U.drop (j + (n + 1))).drop j = W' ++ U.drop (j + (n + 1)) := by
    rw [List.append_assoc, List.drop_append_of_le_length (by omega), List.drop_of_length_le (by omega), List.nil_append]
  have hnd : nv ((U.take j ++ W' ++ U.drop (j + (n + 1))).drop j) = nv W' := by rw [hdr, nv_append, w4]; simp
  have hnu : nv (U.take j ++ W' ++ U.drop (j + (n + 1))) = nv (U.take j) + B ^ j * nv W' := by
    rw [List.append_assoc, nv_append, nv_append, w4, w7]; simp
  refine ⟨⟨((h1.take j).append hW').append (h1.drop _), h2.set _ _ hq, ?_, ?_⟩, by simp; omega⟩
  · rw [hnd, heq]; exact Nat.mod_lt _ hVp
  · have hQ : nv ((Q.set j (nv ((U.drop j).take (n + 1)) / nv V)).drop j) = nv ((U.drop j).take (n + 1)) / nv V + B * nv (Q.drop (j + 1)) := by
      rw [nv_drop_eq (by simpa using hjq), List.getElem_set_self, List.drop_set_of_lt (by omega)]
    rw [hnu, hQ, heq]
    rw [w6] at h4
    rw [Nat.pow_succ] at h4
    have e := Nat.div_add_mod (nv ((U.drop j).take (n + 1))) (nv V)
    generalize nv ((U.drop j).take (n + 1)) / nv V = q at *
    generalize nv ((U.drop j).take (n + 1)) % nv V = r at *
    generalize nv ((U.drop j).take (n + 1)) = x at *
    generalize nv (Q.drop (j + 1)) = y at *
    generalize B ^ j = p at *
    have e1 : nv V * (p * (q + B * y)) = p * (nv V * q) + nv V * (p * B * y) := by
      rw [Nat.mul_add, Nat.mul_add, Nat.mul_left_comm (nv V) p q, Nat.mul_assoc p B y]
    have e2 : p * x = p * (nv V * q) + p * r := by rw [<- e, Nat.mul_add]
    omega
theorem DivInv.done {N a b s : Nat} {V U Q : List Nat} (h : DivInv N V U Q 0) (hN : N = a * 2 ^ s) (hV : nv V = b * 2 ^ s) : nv Q = a / b /\ nv U / 2 ^ s = a % b /\ nv U < nv V := by
  obtain ⟨h1, h2, h3, h4⟩ := h
  simp only [List.drop_zero, Nat.pow_zero, Nat.one_mul] at h3 h4
  have hp : 0 < 2 ^ s := Nat.two_pow_pos s
  rw [hV] at h3 h4
  rw [hN] at h4
  have e : nv U = 2 ^ s * (nv U / 2 ^ s) := by
    have hm : nv U % 2 ^ s = 0 := by
      have : (nv U + b * 2 ^ s * nv Q) % 2 ^ s = 0 := by rw [h4]; exact Nat.mul_mod_left _ _
      rw [Nat.mul_right_comm, Nat.add_mul_mod_self_right] at this
      exact this
    have := Nat.div_add_mod (nv U) (2 ^ s)
    omega
  have hr : nv U / 2 ^ s < b := by rw [Nat.div_lt_iff_lt_mul hp]; exact h3
  have hsum : a = b * nv Q + nv U / 2 ^ s := by
    have : a * 2 ^ s = (b * nv Q + nv U / 2 ^ s) * 2 ^ s := by
      have e2 : b * nv Q * 2 ^ s = b * 2 ^ s * nv Q := Nat.mul_right_comm _ _ _
      rw [<- h4, Nat.add_mul, e2, Nat.mul_comm (nv U / 2 ^ s)]
      omega
    exact Nat.eq_of_mul_eq_mul_right hp this
  have hb : 0 < b := Nat.lt_of_le_of_lt (Nat.zero_le _) hr
  refine ⟨?_, ?_, by rw [hV]; exact h3⟩
  · conv => rhs; rw [hsum, Nat.mul_add_div hb, Nat.div_eq_of_lt hr, Nat.add_zero]
  · conv => rhs; rw [hsum, Nat.mul_add_mod, Nat.mod_eq_of_lt hr]
theorem DivInv.start {a s n m : Nat} {V U : List Nat} (hU : Dig U) (hUl : U.length = m + 1 + n) (hn : 0 < n) (hUv : nv U = a * 2 ^ s) (htop : U.getD (m + n) 0 < 2 ^ s) (hs : s < 32) (hV : V.length = n) (hVt : B <= 2 * V.getD (n - 1) 0) :
    DivInv (a * 2 ^ s) V U (List.replicate (m + 1) 0) (m + 1) := by
  refine ⟨hU, Dig.zeros _, ?_, ?_⟩
  · have h1 : (U.drop (m + 1)).length = n := by simp; omega
    have h2 := nv_split (U.drop (m + 1)) (n - 1) (by omega)
    have h3 := nv_split V (n - 1) (by omega)
    have h4 := nv_take_lt (hU.drop (m + 1)) (n - 1)
    have e1 : (U.drop (m + 1)).drop (n - 1) = [U.getD (m + n) 0] := by
      rw [List.drop_drop, List.drop_eq_getElem_cons (by omega), List.drop_of_length_le (by omega), getD_of_lt (by omega)]
      congr 2; omega
    have e2 : V.drop (n - 1) = [V.getD (n - 1) 0] := by
      rw [List.drop_eq_getElem_cons (by omega), List.drop_of_length_le (by omega), getD_of_lt (by omega)]
    rw [e1] at h2
    rw [e2] at h3
    simp only [nv, Nat.mul_zero, Nat.add_zero] at h2 h3
    have hp : (2 : Nat) ^ s <= 2 ^ 31 := Nat.pow_le_pow_right (by omega) (by omega)
    rw [B_eq] at hVt
    have : B ^ (n - 1) * (U.getD (m + n) 0 + 1) <= B ^ (n - 1) * V.getD (n - 1) 0 := Nat.mul_le_mul_left _ (by omega)
    rw [Nat.mul_add, Nat.mul_one] at this
    omega
  · rw [List.drop_of_length_le (by simp)]; simpa [nv] using hUv
theorem digit_found {x c W V W' : Nat} {e : Nat} (hV : 0 < V) (h1 : W / V <= x) (h2 : x <= W / V + 1) (hW' : (c = 0 /\ W' + x * V = W) \/ (c = 1 /\ W < x * V /\ W' + x * V = W + e)) :
    (c = 0 -> x = W / V /\ W' = W % V) /\ (c = 1 -> 1 <= x /\ x - 1 = W / V /\ W' + V = W % V + e) := by
  have hd := Nat.div_add_mod W V
  have hm := Nat.mod_lt W hV
  generalize W / V = q at *
  generalize W % V = r at *
  refine ⟨fun h => ?_, fun h => ?_⟩
  · rcases hW' with ⟨_, h3⟩ | ⟨h4, _⟩
    · rcases (by omega : x = q \/ x = q + 1) with rfl | rfl
      · refine ⟨rfl, ?_⟩; rw [Nat.mul_comm] at hd; omega
      · rw [Nat.succ_mul, Nat.mul_comm q] at h3; omega
    · omega
  · rcases hW' with ⟨h4, _⟩ | ⟨_, h3, h5⟩
    · omega
    · rcases (by omega : x = q \/ x = q + 1) with rfl | rfl
      · rw [Nat.mul_comm] at hd; omega
      · refine ⟨by omega, by omega, ?_⟩
        rw [Nat.succ_mul, Nat.mul_comm q] at h5; omega
theorem div_norm {b V : List Nat} {n t s : Nat} (hb : Dig b) (hbl : b.length = n) (hn : 0 < n) (ht : b.getD (n - 1) 0 = t) (hs : s < 32) (h1 : 4294967296 <= 2 * (t * 2 ^ s)) (h2 : t * 2 ^ s < 4294967296) (hV : Canon V (nv b * 2 ^ s)) : V.length = n /\ B <= 2 * V.getD (n - 1) 0 := by
  have h3 := nv_split b (n - 1) (by omega)
  have h4 := nv_take_lt hb (n - 1)
  have e2 : b.drop (n - 1) = [t] := by
    rw [List.drop_eq_getElem_cons (by omega), List.drop_of_length_le (by omega), <- ht, getD_of_lt (by omega)]
  rw [e2] at h3
  simp only [nv, Nat.mul_zero, Nat.add_zero] at h3
  have hpow : B ^ n = B ^ (n - 1) * B := by rw [<- Nat.pow_succ]; congr 1; omega
  have hQ : 0 < B ^ (n - 1) := Nat.pow_pos B_pos
  have hc : 2 ^ s * 2 ^ (32 - s) = 4294967296 := by rw [<- Nat.pow_add, show s + (32 - s) = 32 by omega]
  have hp : 0 < 2 ^ s := Nat.two_pow_pos _
  have htt : (t + 1) * 2 ^ s <= B := by
    have : t < 2 ^ (32 - s) := by
      have : 2 ^ s * t < 2 ^ s * 2 ^ (32 - s) := by rw [hc, Nat.mul_comm]; exact h2
      exact Nat.lt_of_mul_lt_mul_left this
    have : 2 ^ s * (t + 1) <= 2 ^ s * 2 ^ (32 - s) := Nat.mul_le_mul_left _ this
    rw [hc, Nat.mul_comm] at this
    rw [B_eq]; exact this
  have hN : nv b * 2 ^ s = nv (b.take (n - 1)) * 2 ^ s + B ^ (n - 1) * (t * 2 ^ s) := by rw [h3, Nat.add_mul, Nat.mul_assoc]
  have hup : nv b * 2 ^ s < B ^ n := by
    have e1 : nv (b.take (n - 1)) * 2 ^ s < B ^ (n - 1) * 2 ^ s := Nat.mul_lt_mul_of_pos_right h4 hp
    have e3 : B ^ (n - 1) * ((t + 1) * 2 ^ s) <= B ^ (n - 1) * B := Nat.mul_le_mul_left _ htt
    rw [Nat.add_mul, Nat.one_mul, Nat.mul_add] at e3
    rw [hpow, hN]; omega
  have hlo : B ^ (n - 1) * (t * 2 ^ s) <= nv b * 2 ^ s := by rw [hN]; omega
  have hl1 : V.length <= n := by rw [hV.len]; exact lg_le.2 hup
  have hl2 : ¬ V.length <= n - 1 := by
    rw [hV.len, lg_le]
    have : B ^ (n - 1) * 1 <= B ^ (n - 1) * (t * 2 ^ s) := Nat.mul_le_mul_left _ (by omega)
    omega
  have hl : V.length = n := by omega
  refine ⟨hl, ?_⟩
  have g3 := nv_split V (n - 1) (by omega)
  have g4 := nv_take_lt hV.1 (n - 1)
  have g2 : V.drop (n - 1) = [V.getD (n - 1) 0] := by
    rw [List.drop_eq_getElem_cons (by omega), List.drop_of_length_le (by omega), getD_of_lt (by omega)]
  rw [g2] at g3
  simp only [nv, Nat.mul_zero, Nat.add_zero] at g3
  rw [hV.2.2] at g3
  have : B ^ (n - 1) * (t * 2 ^ s) < B ^ (n - 1) * (V.getD (n - 1) 0 + 1) := by rw [Nat.mul_add, Nat.mul_one]; omega
  have := Nat.lt_of_mul_lt_mul_left this
  rw [B_eq]; omega
theorem est_ok2 {W V : List Nat} {n : Nat} (hW : W.length = n + 1) (hV : V.length = n) (hn2 : 2 <= n) (hWd : Dig W) (hVd : Dig V) (hn : B <= 2 * V.getD (n - 1) 0) (hlt : nv W < nv V * B) :
    W.getD n 0 <= V.getD (n - 1) 0 /\ nv W / nv V <= estB B (W.getD n 0) (W.getD (n - 1) 0) (W.getD (n - 2) 0) (V.getD (n - 1) 0) (V.getD (n - 2) 0) /\ estB B (W.getD n 0) (W.getD (n - 1) 0) (W.getD (n - 2) 0) (V.getD (n - 1) 0) (V.getD (n - 2) 0) <= nv W / nv V + 1 := by
  obtain ⟨p, rfl⟩ : ∃ p, n = p + 2 := ⟨n - 2, by omega⟩
  rw [show p + 2 - 1 = p + 1 from rfl, show p + 2 - 2 = p from rfl] at *
  rw [getD_of_lt (l := V) (i := p + 1) (by omega)] at hn
  rw [getD_of_lt (l := W) (i := p + 2) (by omega), getD_of_lt (l := W) (i := p + 1) (by omega), getD_of_lt (l := W) (i := p) (by omega), getD_of_lt (l := V) (i := p + 1) (by omega), getD_of_lt (l := V) (i := p) (by omega)]
  exact est_ok hW hV hWd hVd hn hlt
theorem estB_lt {u2 u1 u0 v1 v0 : Nat} : estB B u2 u1 u0 v1 v0 < 4294967296 := by unfold estB; rw [B_eq]; omega
theorem win_getD {U : List Nat} {j n i : Nat} (hi : i <= n) : ((U.drop j).take (n + 1)).getD i 0 = U.getD (j + i) 0 := by
  simp only [List.getD_eq_getElem?_getD, List.getElem?_take_of_lt (Nat.lt_succ_of_le hi), List.getElem?_drop]
theorem restored {V o o2 : List Nat} {W n c : Nat} (_hVd : Dig V) (_hV : V.length = n) (hV0 : 0 < nv V) (h1 : nv o + nv V = W % nv V + B ^ (n + 1)) (h2 : nv o2 + B ^ (n + 1) * c = nv o + nv V) (hc : c <= 1) (ho : Dig o2) (hl : o2.length = n + 1) : nv o2 = W % nv V := by
  have h3 := nv_lt ho
  rw [hl] at h3
  have h4 := Nat.mod_lt W hV0
  have h6 : B ^ n <= B ^ (n + 1) := Nat.pow_le_pow_right B_pos (by omega)
  rcases (by omega : c = 0 \/ c = 1) with rfl | rfl
  · omega
  · omega
end Go.Lim
namespace Go.Proofs.YtgimdkjgaemcbaaGreat
open Go.RowKit Go.Rep Go.Lim
theorem bits_or_u32_nat (a b : Nat) (ha : a < 4294967296) (hb : b < 4294967296) : bits .or .u32 (a : Int) (b : Int) = ((a ||| b : Nat) : Int) := by
  have hx : a ||| b < 2 ^ 32 := Nat.or_lt_two_pow (by omega) (by omega)
  have h1 : (BitVec.ofInt 32 (a : Int)).toNat = a := by
    rw [BitVec.ofInt_natCast, BitVec.toNat_ofNat]; exact Nat.mod_eq_of_lt (by omega)
  have h2 : (BitVec.ofInt 32 (b : Int)).toNat = b := by
    rw [BitVec.ofInt_natCast, BitVec.toNat_ofNat]; exact Nat.mod_eq_of_lt (by omega)
  show IntKind.u32.wrap ((BitVec.ofInt 32 (a : Int) ||| BitVec.ofInt 32 (b : Int)).toNat : Int) = _
  rw [BitVec.toNat_or, h1, h2, IntKind.wrap_u32]
  omega
theorem bits_xor_u32_nat (a b : Nat) (ha : a < 4294967296) (hb : b < 4294967296) : bits .xor .u32 (a : Int) (b : Int) = ((a ^^^ b : Nat) : Int) := by
  have hx : a ^^^ b < 2 ^ 32 := Nat.xor_lt_two_pow (by omega) (by omega)
  have h1 : (BitVec.ofInt 32 (a : Int)).toNat = a := by
    rw [BitVec.ofInt_natCast, BitVec.toNat_ofNat]; exact Nat.mod_eq_of_lt (by omega)
  have h2 : (BitVec.ofInt 32 (b : Int)).toNat = b := by
    rw [BitVec.ofInt_natCast, BitVec.toNat_ofNat]; exact Nat.mod_eq_of_lt (by omega)
  show IntKind.u32.wrap ((BitVec.ofInt 32 (a : Int) ^^^ BitVec.ofInt 32 (b : Int)).toNat : Int) = _
  rw [BitVec.toNat_xor, h1, h2, IntKind.wrap_u32]
  omega
theorem bits_and_u32_nat (a b : Nat) (ha : a < 4294967296) (hb : b < 4294967296) : bits .and .u32 (a : Int) (b : Int) = ((a &&& b : Nat) : Int) := by
  have hx : a &&& b < 2 ^ 32 := Nat.and_lt_two_pow _ (by omega)
  have h1 : (BitVec.ofInt 32 (a : Int)).toNat = a := by
    rw [BitVec.ofInt_natCast, BitVec.toNat_ofNat]; exact Nat.mod_eq_of_lt (by omega)
  have h2 : (BitVec.ofInt 32 (b : Int)).toNat = b := by
    rw [BitVec.ofInt_natCast, BitVec.toNat_ofNat]; exact Nat.mod_eq_of_lt (by omega)
  show IntKind.u32.wrap ((BitVec.ofInt 32 (a : Int) &&& BitVec.ofInt 32 (b : Int)).toNat : Int) = _
  rw [BitVec.toNat_and, h1, h2, IntKind.wrap_u32]
  omega
theorem top_bit (n : Nat) (h : n < 4294967296) : n / 2147483648 = (n.testBit 31).toNat := by
  rw [Nat.testBit_eq_decide_div_mod_eq, show (2 : Nat) ^ 31 = 2147483648 from rfl]
  by_cases h1 : n / 2147483648 % 2 = 1
  · rw [decide_eq_true h1]; simp; omega
  · rw [decide_eq_false h1]; simp; omega
theorem top_not (n : Nat) : (4294967295 ^^^ n).testBit 31 = !n.testBit 31 := by
  rw [Nat.testBit_xor, show (4294967295 : Nat) = 2 ^ 32 - 1 from rfl, Nat.testBit_two_pow_sub_one]
  cases n.testBit 31 <;> rfl
theorem borrow_eq (x y d c : Nat) (hx : x < 4294967296) (hy : y < 4294967296) (hc : c <= 1) (hd : d = subD x y c) :
    (((4294967295 ^^^ x) &&& y) ||| ((4294967295 ^^^ (x ^^^ y)) &&& d)) / 2147483648 = subC x y c := by
  have hdl : d < 4294967296 := by rw [hd]; unfold subD; omega
  have h1 : (4294967295 ^^^ x) &&& y < 4294967296 := Nat.and_lt_two_pow (n := 32) _ hy
  have h2 : (4294967295 ^^^ (x ^^^ y)) &&& d < 4294967296 := Nat.and_lt_two_pow (n := 32) _ hdl
  rw [top_bit _ (Nat.or_lt_two_pow (n := 32) h1 h2), Nat.testBit_or, Nat.testBit_and, Nat.testBit_and, top_not x, top_not, Nat.testBit_xor]
  have e1 := top_bit x hx
  have e2 := top_bit y hy
  have e3 := top_bit d hdl
  rw [hd] at e3 |-
  unfold subC
  unfold subD at *
  cases hbx : x.testBit 31 <;> cases hby : y.testBit 31 <;> cases hbd : ((x + 4294967296 - y - c) % 4294967296).testBit 31 <;> simp [hbx, hby, hbd] at e1 e2 e3 |- <;> omega
theorem sub32_any (x y c : Nat) (w : World) (hx : x < 4294967296) (hy : y < 4294967296) (hc : c <= 1) :
    Calls Tryz.prog 248 #[.int .u32 x, .int .u32 y, .int .u32 c] w fun e w' => w = w' /\ e = .returned (.tuple #[.int .u32 (subD x y c : Nat), .int .u32 (subC x y c : Nat)]) := by
  have hb := hid (borrow_eq x y (subD x y c) c hx hy hc rfl)
  go_enter Tryz.func248, Tryz.ntmps248
  go_wp2_with fail
  go_ret2
  refine ⟨rfl, ?_⟩
  have hxy : x ^^^ y < 4294967296 := Nat.xor_lt_two_pow (n := 32) hx hy
  have hn : ∀ n : Nat, n < 4294967296 -> 4294967295 ^^^ n < 4294967296 := fun n h => Nat.xor_lt_two_pow (n := 32) (by omega) h
  have hm : IntKind.u32.max = ((4294967295 : Nat) : Int) := rfl
  have hd : ((x : Int) - y - c) % 4294967296 = (subD x y c : Nat) := by unfold subD; omega
  have hdl : subD x y c < 4294967296 := by unfold subD; omega
  rw [hm, hd, bits_xor_u32_nat _ _ (by decide) hx, bits_xor_u32_nat _ _ hx hy, bits_xor_u32_nat _ _ (by decide) hxy, bits_and_u32_nat _ _ (hn _ hx) hy, bits_and_u32_nat _ _ (hn _ hxy) hdl,
    bits_or_u32_nat _ _ (Nat.and_lt_two_pow (n := 32) _ hy) (Nat.and_lt_two_pow (n := 32) _ hdl)]
  have h2 : ((((4294967295 ^^^ x) &&& y ||| (4294967295 ^^^ (x ^^^ y)) &&& subD x y c : Nat) : Int) / 2147483648) = (subC x y c : Nat) := by rw [<- hb.out]; rfl
  simp [h2]
end Go.Proofs.YtgimdkjgaemcbaaGreat
namespace Go.Lim
def meets (a b : List Int) : Bool := a.any fun x => b.any fun y => x == y
end Go.Lim
namespace Go.Lim
def ch : Nat -> Nat -> Nat
  | _, 0 => 1
  | 0, _ + 1 => 0
  | n + 1, k + 1 => ch n k + ch n (k + 1)
theorem ch_zero (n : Nat) : ch n 0 = 1 := by cases n <;> rfl
theorem ch_le : ∀ (n k : Nat), ch n k <= 2 ^ n
  | n, 0 => by rw [ch_zero]; exact Nat.one_le_two_pow
  | 0, _ + 1 => by simp [ch]
  | n + 1, k + 1 => by
    have h1 := ch_le n k
    have h2 := ch_le n (k + 1)
    rw [ch, Nat.pow_succ]; omega
theorem ch_lt64 {n k : Nat} (h : n <= 64) : ch n k < B ^ 3 := by
  rw [B_two]
  have := ch_le n k
  have h2 : (2 : Nat) ^ n <= 2 ^ 64 := Nat.pow_le_pow_right (by decide) h
  have h3 : (2 : Nat) ^ 64 < 2 ^ (32 * 3) := Nat.pow_lt_pow_right (by decide) (by decide)
  omega
theorem lg_ch {n k : Nat} (h : n <= 64) : lg (ch n k) <= 3 := lg_le.2 (ch_lt64 h)
def PasInv (r : List Nat) (k i j : Nat) : Prop := r.length = k + 1 /\ ∀ p (_ : p < r.length), r[p] = if j < p then ch (i + 1) p else ch i p
theorem PasInv.start (k : Nat) : PasInv ((List.replicate (k + 1) 0).set 0 1) k 0 k := by
  refine ⟨by simp, fun p h => ?_⟩
  simp at h
  rw [if_neg (by omega), List.getElem_set]
  split
  · subst_vars; rw [ch_zero]
  · cases p with
    | zero => omega
    | succ p => simp [ch]
theorem PasInv.step {r : List Nat} {k i j : Nat} (h : PasInv r k i j) (h0 : 0 < j) (hj : j <= k) {x y : Nat} (hx : r[j]'(by rw [h.1]; omega) = x) (hy : r[j - 1]'(by rw [h.1]; omega) = y) : PasInv (r.set j (x + y)) k i (j - 1) := by
  obtain ⟨h1, h2⟩ := h
  refine ⟨by simpa using h1, fun p hp => ?_⟩
  have e1 := h2 j (by omega)
  have e2 := h2 (j - 1) (by omega)
  rw [if_neg (by omega), hx] at e1
  rw [if_neg (by omega), hy] at e2
  rw [List.getElem_set]
  by_cases hjp : j = p
  · subst hjp
    rw [if_pos rfl, if_pos (by omega), e1, e2]
    obtain ⟨q, rfl⟩ : ∃ q, j = q + 1 := ⟨j - 1, by omega⟩
    rw [ch]; simp [Nat.add_comm]
  · rw [if_neg hjp, h2 p (by simpa using hp)]
    by_cases hpj : j < p
    · rw [if_pos hpj, if_pos (by omega)]
    · rw [if_neg hpj, if_neg (by omega)]
theorem PasInv.next {r : List Nat} {k i : Nat} (h : PasInv r k i 0) : PasInv r k (i + 1) k := by
  refine ⟨h.1, fun p hp => ?_⟩
  rw [h.2 p hp, if_neg (by have := h.1; omega : ¬ k < p)]
  split
  · rfl
  · obtain rfl : p = 0 := by omega
    rw [ch_zero, ch_zero]
theorem PasInv.done {r : List Nat} {k i : Nat} (h : PasInv r k i k) (hk : k < r.length) : r[k] = ch i k := by
  rw [h.2 k hk, if_neg (by omega)]
theorem PasInv.le {r : List Nat} {k i j : Nat} (h : PasInv r k i j) (p : Nat) (hp : p < r.length) (hi : i < 64) : lg r[p] <= 3 := by
  rw [h.2 p hp]; split
  · exact lg_ch (by omega)
  · exact lg_ch (by omega)
end Go.Lim
namespace Go.Lim
abbrev Leaf := List Int × List Int
def sumL (n h : Nat) (L : List Leaf) : Nat := (L.map fun x => ch (n - x.1.length - x.2.length) (h - x.1.length)).sum
end Go.Lim
namespace Go.Rep
open Go.RowKit Go.Lim
def LeafR : Mem -> Value -> Leaf -> Prop := fun h u x => ∃ a1 c1 a2 c2, u = .agg #[.slice a1 x.1.length c1, .slice a2 x.2.length c2] /\ x.1.length <= c1 /\ x.2.length <= c2 /\ Sl (IntIn .i64) 1 h a1 x.1 /\ Sl (IntIn .i64) 1 h a2 x.2
theorem LeafR.mono : Mono LeafR := by
  rintro h h' u x hl ⟨a1, c1, a2, c2, rfl, h1, h2, h3, h4⟩
  exact ⟨a1, c1, a2, c2, rfl, h1, h2, h3.mono (IntIn.mono _) hl, h4.mono (IntIn.mono _) hl⟩
theorem LeafR.elem : Elem LeafR 2 := ⟨LeafR.mono, by rintro h u x ⟨a1, c1, a2, c2, rfl, _⟩; rfl, by
  rintro h u x ⟨a1, c1, a2, c2, rfl, _⟩ c hc
  simp [cellsL, Value.cells] at hc
  rcases hc with rfl | rfl <;> rfl, by decide⟩
theorem Sl.leaf {X : Nat -> Bool} {w : World} {ao : Option Addr} {l : List Leaf} (s : Sl LeafR 2 (mk X w) ao l) (i : Nat) (hi : i < l.length) :
    ∃ a1 c1 a2 c2, w.cell? (adr ao (i * 2)) = some (.slice a1 l[i].1.length c1) /\ w.cell? (adr ao (i * 2 + 1)) = some (.slice a2 l[i].2.length c2) /\ l[i].1.length <= c1 /\ l[i].2.length <= c2 /\ Sl (IntIn .i64) 1 (mk X w) a1 l[i].1 /\ Sl (IntIn .i64) 1 (mk X w) a2 l[i].2 := by
  obtain ⟨u, h1, h2, a1, c1, a2, c2, rfl, h3, h4, h5, h6⟩ := s.2 i hi
  exact ⟨a1, c1, a2, c2, mk_cell (h2 0 (by simp [Value.cells])), mk_cell (h2 1 (by simp [Value.cells])), h3, h4, h5, h6⟩
theorem Sl.unstep {α : Type} {R : Mem -> Value -> α -> Prop} (hR : Mono R) {sz : Nat} {X : Nat -> Bool} {w w' : World} {oo oo' ao : Option Addr} {l : List α} (s : Sl R sz (mk (un X oo) w) ao l) (hE : ExtX (ob oo) w w') (ho : oo' = oo \/ ∃ g, oo' = some ⟨g, 0, none⟩ /\ w.heap.size <= g) : Sl R sz (mk (un X oo') w') ao l :=
  s.mono hR (mkun_over hE ho)
theorem Sl.unX {α : Type} {R : Mem -> Value -> α -> Prop} (hR : Mono R) {sz : Nat} {X : Nat -> Bool} {w : World} {oo ao : Option Addr} {l : List α} (s : Sl R sz (mk (un X oo) w) ao l) : Sl R sz (mk X w) ao l :=
  s.mono hR (mk_sub fun _ _ hk => un_left hk)
theorem Sl.old {α : Type} {R : Mem -> Value -> α -> Prop} (hR : Mono R) {sz : Nat} {X : Nat -> Bool} {w w' : World} {oo ao : Option Addr} {l : List α} (s : Sl R sz (mk X w) ao l) (hE : Ext w w') (hb : ∀ j, j < w.heap.size -> ob oo j = false) : Sl R sz (mk (un X oo) w') ao l :=
  s.mono hR (mk_over hE (fun k _ hk => by simp [noY] at hk) fun j hk hz => by simpa [un, hb j hk] using hz)
def StructT (P : Program) (t sz : Nat) : Prop := ∃ fs ti, P.underlying t = some (.struct fs) /\ P.info? t = some ti /\ ti.size = sz
section
variable {P : Program} {ops : Array Oper} {Q : Exit -> Act -> World -> Prop} {rest : List Oper} {a : Act} {w : World}
variable {α : Type} {R : Mem -> Value -> α -> Prop} {sz : Nat} {X : Nat -> Bool} {ao : Option Addr} {l : List α}
variable {d : Option Tmp} {ty : TypeId} {ps : String} {af : Array Edge}
theorem st_loadElem {t : TypeId} {x : Operand} {k : Nat} (hT : StructT P t sz) (i : Nat) (hs : Sl R sz (mk X w) ao l) (hi : i < l.length) (hx : a.eval x = .pointer (some (adr ao k))) (hk : k = i * sz) (hag : ∀ h u y, R h u y -> ∃ cs, u = .agg cs)
    (K : ∀ u, R (mk X w) u l[i] -> wpList P ops Q rest (a.put d u) w) :
    wpList P ops Q (⟨d, .load t x, ty, ps, af, none⟩ :: rest) a w := by
  refine wpList_plain rfl fun K' hK' => ?_
  subst hk
  obtain ⟨fs, ti, h1, h2, h3⟩ := hT
  obtain ⟨u, h4, h5, h6⟩ := hs.2 i hi
  obtain ⟨cs, rfl⟩ := hag _ _ _ h6
  have hl := run_loadCells_list (P := P) w (adr ao (i * sz)) cs.toList (fun j v hj => by
    rw [adr_add]
    obtain ⟨hj1, hj2⟩ := List.getElem?_eq_some_iff.1 hj
    have := mk_cell (h5 j (by simpa [Value.cells] using hj1))
    rw [this]
    simp [Value.cells] at hj2 |-
    exact hj2)
  have hsz : cs.toList.length = sz := by simpa [Value.cells] using h4
  rw [hsz] at hl
  unfold Oper.wp
  simp [execOp, hx, Instr.loadAt, Instr.sureAddr, loadVar, isAgg, run_underlying h1, sizeOf, typeInfo, h2, h3, hl, Result.andThen]
  exact hK' _ _ (K _ h6)
end
theorem LeafR.agg : ∀ h u y, LeafR h u y -> ∃ cs, u = .agg cs := by rintro h u y ⟨a1, c1, a2, c2, rfl, _⟩; exact ⟨_, rfl⟩
theorem OL.ob_ge {α : Type} {R : Mem -> Value -> α -> Prop} {sz : Nat} {X : Nat -> Bool} {base : Nat} {e : TypeId} {w : World} {ao : Option Addr} {cap : Nat} {l : List α} (h : OL R sz X base e w ao cap l) {k : Nat} (hk : w.heap.size <= k) : ob ao k = false := by
  cases hb : ob ao k
  · rfl
  · have := h.block hb; omega
theorem st_append1n {P : Program} {ops : Array Oper} {Q : Exit -> Act -> World -> Prop} {rest : List Oper} {a : Act} {w : World} {α : Type} {R : Mem -> Value -> α -> Prop} {sz : Nat} {X : Nat -> Bool} {base : Nat} {e : TypeId} {ao : Option Addr} {cap : Nat} {l : List α} {d : Option Tmp} {ty : TypeId} {ps : String} {af : Array Edge}
    {t by_ : Nat} {z : Value} {arr : Array Value} {s x : Operand} (T : SliceT P t e sz by_ z) (hzs : z.cells.size = sz) (hR : Elem R sz) (hbase : base <= w.heap.size) (hX : ∀ k, X k = true -> k < w.heap.size) (n : Nat) (hn : l.length = n)
    (hs : a.eval s = .slice ao n cap) (hx : a.eval x = .slice (some ⟨w.heap.size, 0, none⟩) 1 1) (h : OL R sz X base e w ao cap l)
    (u : Value) (y : α) (harr : arr = u.cells) (hu : R (mk (un X ao) w) u y) (hroom : (n + 1) * by_ <= 140737488355328) (hmax : n + 1 <= 9223372036854775807)
    (K : ∀ ao' cap' w', OL R sz X base e w' ao' cap' (l ++ [y]) -> ExtX (ob ao) w w' -> (ao' = ao \/ ∃ g, ao' = some ⟨g, 0, none⟩ /\ w.heap.size <= g) -> wpList P ops Q rest (a.put d (.slice ao' (n + 1) cap')) w') :
    wpList P ops Q (⟨d, .call { callee := .builtin .append, args := #[s, x], argTypes := #[t, t] }, ty, ps, af, none⟩ :: rest) a (w.alloc (.cells arr e)) := by
  subst hn
  exact st_append1 T hzs hR hbase hX hs hx h u y harr hu hroom hmax fun ao' cap' w' h1 h2 h3 => by
    have := K ao' cap' w' h1 h2 h3
    rwa [show l.length + 1 = (l ++ [y]).length from by simp] at this
end Go.Rep
