/- certify.Subsets. Conditions: none. -/
import Derived.Test.YtblifbnbjffgkaaSubs
import Derived.Test.YtblifbnbjffgkaaRSubs
import Derived.Deep.AppendLies
namespace Go.Proofs.Ytblifbnbjffgkaa
open Go.RowKit Go.Rep Go.Lim

/-- What is hidden from the list of leaves. -/
def hX1b (X : Nat → Bool) (bl bn B : Nat) : Nat → Bool := fun k => X k || (k == bl) || (k == bn) || ownB B k
/-- What the callback keeps. -/
def CInv (X : Nat → Bool) (w0 : World) (bl bn B N : Nat) (done : List (List Int)) (W : World) : Prop :=
  W.heap[bn]? = some (.cells #[.int .i64 (N : Int)] 3 (0, 0)) ∧ Ext w0 W ∧ ∃ (oo : Option Addr) (co : Nat), W.heap[bl]? = some (.cells #[.slice oo done.length co] 23 (0, 0)) ∧ done.length ≤ co ∧
    OL LeafR 2 (hX1b X bl bn B) w0.heap.size 26 W oo co (done.map fun s => (s, othersL s N))

theorem CInv.own {X : Nat → Bool} {w0 W W' : World} {bl bn B N : Nat} {done : List (List Int)} (h : CInv X w0 bl bn B N done W) (hE : ExtX (ownB B) W W') (h1 : bl < B) (h2 : bn < B) (h0 : w0.heap.size ≤ B) : CInv X w0 bl bn B N done W' := by
  obtain ⟨q1, q2, oo, co, q3, q4, q5⟩ := h
  have hlt : ∀ {j : Nat} {v : Obj}, W.heap[j]? = some v → j < W.heap.size := fun h => (Array.getElem?_eq_some_iff.1 h).1
  have hno : ∀ j, j < B → ownB B j = false := fun j hj => by simp [ownB]; omega
  refine ⟨by rw [hE.block bn (hlt q1) (hno bn h2)]; exact q1, q2.then_ hE (fun i hi _ => hno i (by omega)), oo, co, by rw [hE.block bl (hlt q3) (hno bl h1)]; exact q3, q4, q5.ext LeafR.elem hE (fun k _ hk => by simp [hX1b, hk]) (fun _ _ h => h)⟩

theorem cellA {w : World} {a : Addr} {u : Value} (h : w.cell? a = some u) : ∀ o, (w.alloc o).cell? a = some u := fun o => ((ExtX.refl (Y := noY) w).alloc o).cell h
theorem cb_ext {W w2 w3 : World} (hE2 : Ext W.drew w2) (hE3 : Ext w2 w3) : Ext W w3 := ((ExtX.refl W).drew).trans (hE2.trans hE3)
theorem cb_base {w0 W w2 w3 : World} (h : Ext w0 W) (hE2 : Ext W.drew w2) (hE3 : Ext w2 w3) : w0.heap.size ≤ w3.heap.size := Nat.le_trans h.size (cb_ext hE2 hE3).size
theorem cb_hX {Y : Nat → Bool} {W w2 w3 : World} (h : ∀ j, Y j = true → j < W.heap.size) (hE2 : Ext W.drew w2) (hE3 : Ext w2 w3) : ∀ j, Y j = true → j < w3.heap.size := fun j hj => Nat.lt_of_lt_of_le (h j hj) (cb_ext hE2 hE3).size
theorem cb_ol {Y : Nat → Bool} {b c : Nat} {e : TypeId} {o : Option Addr} {L : List Leaf} {W w2 w3 : World} (h : OL LeafR 2 Y b e W o c L) (hE2 : Ext W.drew w2) (hE3 : Ext w2 w3) : OL LeafR 2 Y b e w3 o c L := h.ext0 LeafR.elem (cb_ext hE2 hE3)
theorem cb_leaf {Y : Nat → Bool} {b c : Nat} {e : TypeId} {o : Option Addr} {L : List Leaf} {W w2 w3 : World} {a3 a4 : Option Addr} {c3 c4 : Nat} {s r : List Int} {t1 t2 : TypeId} (hY : ∀ j, Y j = true → j < W.heap.size) (hE2 : Ext W.drew w2) (hE3 : Ext w2 w3) (h : OL LeafR 2 Y b e W o c L) (hc3 : s.length ≤ c3) (hc4 : r.length ≤ c4)
    (hC : OL (IntIn .i64) 1 noY W.drew.heap.size t1 w2 a3 c3 s) (hD : OL (IntIn .i64) 1 noY w2.heap.size t2 w3 a4 c4 r) : LeafR (mk (un Y o) w3) (.agg #[.slice a3 s.length c3, .slice a4 r.length c4]) (s, r) := by
  have hlt : ∀ k, un Y o k = true → k < W.heap.size := fun k hk => by
    by_cases hy : Y k = true
    · exact hY k hy
    · exact (h.block (by simpa [un, hy] using hk)).2
  have hno : ∀ k, W.heap.size ≤ k → un Y o k = false := fun k hk => by
    cases hh : un Y o k
    · rfl
    · have := hlt k hh; omega
  have h3 := (hC.ext0 (IntIn.elem _) hE3).rehide (IntIn.elem _) intR0 (Z := un Y o) (fun k hk => hno k (hC.block hk).1)
  have h4 := hD.rehide (IntIn.elem _) intR0 (Z := un Y o) (fun k hk => hno k (Nat.le_trans hE2.size (hD.block hk).1))
  exact ⟨a3, c3, a4, c4, rfl, hc3, hc4, h3, h4⟩

theorem cb_blk {W w2 w3 w5 : World} {o : Option Addr} {b : Nat} {v : Obj} (hE2 : Ext W.drew w2) (hE3 : Ext w2 w3) (hE5 : ExtX (ob o) w3 w5) (h : W.heap[b]? = some v) (hb : ob o b = false) : w5.heap[b]? = some v := by
  have hlt : b < W.heap.size := (Array.getElem?_eq_some_iff.1 h).1
  have hE := cb_ext hE2 hE3
  rw [hE5.block b (Nat.lt_of_lt_of_le hlt hE.size) hb, hE.block b hlt rfl]; exact h

theorem cb_end {X : Nat → Bool} {w0 W w2 w3 w5 : World} {bl bn B N co co5 : Nat} {oo oo5 : Option Addr} {done : List (List Int)} {s : List Int}
    (q1 : W.heap[bn]? = some (.cells #[.int .i64 (N : Int)] 3 (0, 0))) (q2 : Ext w0 W) (q3 : W.heap[bl]? = some (.cells #[.slice oo done.length co] 23 (0, 0)))
    (q5 : OL LeafR 2 (hX1b X bl bn B) w0.heap.size 26 W oo co (done.map fun s => (s, othersL s N))) (hE2 : Ext W.drew w2) (hE3 : Ext w2 w3) (hE5 : ExtX (ob oo) w3 w5)
    (hO5 : OL LeafR 2 (hX1b X bl bn B) w0.heap.size 26 w5 oo5 co5 ((done.map fun s => (s, othersL s N)) ++ [(s, othersL s N)])) (hbb : bl < B) (hbn : bn < B) (hne : bl ≠ bn) (hw0 : w0.heap.size ≤ bl) (hB : B + 6 ≤ W.heap.size) :
    CInv X w0 bl bn B N (done ++ [s]) (w5.setCell ⟨bl, 0, none⟩ (.slice oo5 (done.length + 1) co5)) ∧ Keep B W (w5.setCell ⟨bl, 0, none⟩ (.slice oo5 (done.length + 1) co5)) := by
  have hE := cb_ext hE2 hE3
  have hE6 : ExtX (fun j => j == bl) w5 (w5.setCell ⟨bl, 0, none⟩ (.slice oo5 (done.length + 1) co5)) :=
    ⟨rfl, rfl, rfl, by simp [World.setCell], fun j hj hy => Below.heap_setCell _ _ _ _ (fun e => by subst e; simp at hy)⟩
  have b5 : ∀ j v, hX1b X bl bn B j = true → W.heap[j]? = some v → w5.heap[j]? = some v := fun j v hj hv => cb_blk hE2 hE3 hE5 hv (q5.not_ob hj)
  have hbl5 := b5 bl _ (by simp [hX1b]) q3
  have hbn5 := b5 bn _ (by simp [hX1b]) q1
  have hbnl : bn < w5.heap.size := (Array.getElem?_eq_some_iff.1 hbn5).1
  have hnew : (w5.setCell ⟨bl, 0, none⟩ (.slice oo5 (done.length + 1) co5)).heap[bl]? = some (.cells #[.slice oo5 (done.length + 1) co5] 23 (0, 0)) := by
    simp only [World.setCell, Array.getElem?_modify, hbl5]
    simp
  have hlc := hO5.lenCap
  refine ⟨⟨by rw [hE6.block bn hbnl (by simpa using Ne.symm hne)]; exact hbn5, ?_, oo5, co5, by rw [hnew]; simp, by simpa using hlc, ?_⟩, Nat.le_trans hE.size (Nat.le_trans hE5.size hE6.size), fun j hj => ?_⟩
  · have h1 := (q2.trans hE).then_ hE5 (fun i hi _ => by
      cases hh : ob oo i
      · rfl
      · have := (q5.block hh).1; omega)
    exact h1.then_ hE6 (fun i hi _ => by simp; omega)
  · have h1 := hO5.ext LeafR.elem hE6 (fun j _ hj => by have : j = bl := by simpa using hj
                                                        subst this; simp [hX1b]) (fun _ _ h => h)
    simpa using h1
  · have hjb : ¬ j = bl := by
      intro e; subst e; simp [ownB] at hj; omega
    by_cases hjw : j < W.heap.size
    · have hj5 := b5 j W.heap[j] (by simp [hX1b, hj]) (Array.getElem?_eq_getElem hjw)
      rw [hE6.block j (Array.getElem?_eq_some_iff.1 hj5).1 (by simpa using hjb), hj5, Array.getElem?_eq_getElem hjw]
    · simp [ownB] at hj; omega

set_option maxHeartbeats 1600000 in
theorem cback_any (X : Nat → Bool) (w0 : World) (bl bn B N k : Nat) (done : List (List Int)) (s : List Int) (W : World) (hN : N ≤ 64) (hk : k ≤ 64) (hbb : bl < B) (hbn : bn < B) (hne : bl ≠ bn) (hw0 : w0.heap.size ≤ bl) (hX : ∀ k, X k = true → k < w0.heap.size) (hd : done.length ≤ 4096)
    (hi : CInv X w0 bl bn B N done W) (hs : s ∈ combs N k 0) (hsl : Sl (IntIn .i64) 1 W.cell? (some ⟨B + 3, 0, none⟩) s) (hB : B + 6 ≤ W.heap.size) :
    Calls Try.prog 31 #[.slice (some ⟨B + 3, 0, none⟩) s.length k, .pointer (some ⟨bl, 0, none⟩), .pointer (some ⟨bn, 0, none⟩)] W (fun e W' => e = .returned (.tuple #[]) ∧ CInv X w0 bl bn B N (done ++ [s]) W' ∧ Keep B W W') := by
  obtain ⟨q1, q2, oo, co, q3, q4, q5⟩ := hi
  have cl := cell_of_one q3
  have fl := free_of_one q3
  have cn := cell_of_one q1
  obtain ⟨m1, m2, m3⟩ := combs_mem N k 0 s hs
  have hsl64 : s.length ≤ 64 := by omega
  have hm' := hid (⟨m3, fun x hx => (m2 x hx).1⟩ : s.Pairwise (· < ·) ∧ ∀ x ∈ s, 0 ≤ x)
  clear m2 m3
  subst m1
  rw [← mk_noY] at hsl
  have hX1 : ∀ j, hX1b X bl bn B j = true → j < W.heap.size := fun j hj => by
    simp only [hX1b, Bool.or_eq_true, beq_iff_eq, ownB, Bool.and_eq_true, decide_eq_true_eq] at hj
    have := q2.size
    rcases hj with ((hj | hj) | hj) | hj
    · have := hX j hj; omega
    · omega
    · omega
    · omega
  go_enter Try.func31, Try.ntmps31
  have hbl : bl < W.heap.size := by omega
  have hbn' : bn < W.heap.size := by omega
  have hxl : hX1b X bl bn B bl = true := by simp [hX1b]
  have hlen : (done.map fun s => (s, othersL s N)).length = done.length := by simp
  have hlen' := hid hlen
  clear hlen
  go_wp2_with fail
  go_region_law (first
    | (go_simp; go_at_call 32; refine (copyInt_any noY (some ⟨B + 3, 0, none⟩) s s.length W.drew hsl (by omega) (hnoX _)).mono ?_; rintro e w2 ⟨hE2, a3, c3, rfl, hc3, hC⟩; have k1 := hE2.cell (show W.drew.cell? _ = _ from cl); have k2 := hE2.cell (show W.drew.cell? _ = _ from cn))
    | (go_simp; go_at_call 33; refine (others_any noY (some ⟨B + 3, 0, none⟩) s s.length N w2 (hsl.mono (IntIn.mono _) (mk_ext (((ExtX.refl W).drew).trans hE2))) (by omega) (by omega) hm'.out.1 hm'.out.2 (hnoX _)).mono ?_; rintro e w3 ⟨hE3, a4, c4, rfl, hc4, hD⟩; have k3 := hE3.cell k1; have k4 := hE3.cell k2; have k8 := cellA k3)
    | (refine step_append1 rfl _ _ rfl slLeaf rfl LeafR.elem (cb_base q2 hE2 hE3) (cb_hX hX1 hE2 hE3) rfl hlen'.out rfl (cb_ol q5 hE2 hE3) (.agg #[.slice a3 s.length c3, .slice a4 (othersL s N).length c4]) (s, othersL s N) rfl (cb_leaf hX1 hE2 hE3 q5 hc3 hc4 hC hD) (by omega) (by omega) ?_; intro oo5 co5 w5 hO5 hE5 hor; have k7 := cb_blk hE2 hE3 hE5 q3 (q5.not_ob hxl); have k5 := cell_of_one k7; have k6 := free_of_one k7))
  all_goals
    have hend := cb_end q1 q2 q3 q5 hE2 hE3 hE5 hO5 hbb hbn hne hw0 hB
    clear k1 k2 k3 k4 k8 k5 k6
    go_wp2_with fail
    go_end0
    exact ⟨rfl, hend⟩
end Go.Proofs.Ytblifbnbjffgkaa
