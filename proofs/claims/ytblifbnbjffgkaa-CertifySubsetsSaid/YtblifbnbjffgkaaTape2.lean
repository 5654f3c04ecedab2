/- The tape of choices: New, Bool, Pick, Count, Subset, OddSubset. What is drawn is something in the range. Conditions: none beyond small ranges. -/
import Derived.Test.YtblifbnbjffgkaaTape
import Derived.BigRegion
namespace Go.Proofs.Ytblifbnbjffgkaa
open Go.RowKit Go.Rep Go.Lim

/-- A bool is drawn. -/
def TBoolOut (X : Nat → Bool) (tb : Nat) (w : World) (e : Ending) (w' : World) : Prop := ExtX (tbm tb) w w' ∧ TapeR X tb w' ∧ ∃ b : Bool, e = .returned (.bool b)
/-- An int from lo to hi is drawn. -/
def TIntOut (X : Nat → Bool) (tb : Nat) (w : World) (lo hi : Int) (e : Ending) (w' : World) : Prop := ExtX (tbm tb) w w' ∧ TapeR X tb w' ∧ ∃ m : Int, e = .returned (.int .i64 m) ∧ lo ≤ m ∧ m ≤ hi

theorem tbool_any (X : Nat → Bool) (tb : Nat) (n : Int) (w : World) (ht : TapeR X tb w) (h1 : -1000 ≤ n) (hn : n ≤ 1099511627776) :
    Calls Try.prog 37 #[.pointer (some ⟨tb, 0, none⟩), .int .i64 n] w (TBoolOut X tb w) := by
  go_enter Try.func37, Try.ntmps37
  go_wp2_with fail
  refine (next_any X tb n _ ht hn).mono ?_
  rintro e w1 ⟨hE, ht1, m, rfl, hm⟩
  go_wp2_with fail
  go_ret
  exact ⟨hE, ht1, _, rfl⟩

theorem pick_any (X : Nat → Bool) (tb : Nat) (lo : Option Addr) (l : List Int) (cap : Nat) (w : World) (a b : Int) (ht : TapeR X tb w) (hs : Sl (IntIn .i64) 1 (mk X w) lo l) (h0 : 0 < l.length) (hl : l.length ≤ 1000) (hab : Hid (∀ x ∈ l, a ≤ x ∧ x ≤ b)) :
    Calls Try.prog 16 #[.pointer (some ⟨tb, 0, none⟩), .slice lo l.length cap] w (TIntOut X tb w a b) := by
  have hh := hs.hd
  go_enter Try.func16, Try.ntmps16
  go_wp2_with fail
  refine (next_any X tb _ _ ht (by omega)).mono ?_
  rintro e w1 ⟨hE, ht1, m, rfl, hm⟩
  have hml : m < l.length := by omega
  have hc := (hs.mono (IntIn.mono _) (mk_mono hE (tbm_sub ht.1))).int m hml
  have hr := hab.out l[m] (List.getElem_mem hml)
  obtain ⟨x, hx⟩ : ∃ x, l[m] = x := ⟨_, rfl⟩
  rw [hx] at hc hr
  clear hx
  go_wp2_with (with_reducible refine up_ix1 slInt (by omega) (by assumption) ?_)
  go_ret
  exact ⟨hE, ht1, x, rfl, hr.1, hr.2⟩

theorem tnew_any (lo : Option Addr) (l : List Int) (cap : Nat) (w : World) (hs : Sl (IntIn .i64) 1 w.cell? lo l) (hl : l.length ≤ cap) (hb : l.length ≤ 9223372036854775807) :
    Calls Try.prog 7 #[.slice lo l.length cap] w (fun e w' => e = .returned (.pointer (some ⟨w.heap.size, 0, none⟩)) ∧ Ext w w' ∧ TapeR (tbm w.heap.size) w.heap.size w' ∧ w'.heap.size = w.heap.size + 1) := by
  have key : ∀ (l : List Int), l.length ≤ 400 → Sl (IntIn .i64) 1 w.cell? lo l → TapeR (tbm w.heap.size) w.heap.size (w.alloc (.cells #[.slice lo l.length cap, .int .i64 0] 46)) := by
    intro l hl hs
    refine ⟨tbm_self _, lo, l, cap, 0, heap_alloc_new w _, hl, Nat.zero_le _, ?_⟩
    rw [← mk_noY] at hs
    refine hs.mono (IntIn.mono _) (mk_over ((ExtX.refl (Y := noY) w).alloc _) (fun k _ hk => by simp [noY] at hk) fun k hk hz => ?_)
    have : k = w.heap.size := by simpa [tbm] using hz
    omega
  have hE : ∀ u v, Ext w (w.alloc (.cells #[u, v] 46)) := fun u v => (ExtX.refl w).alloc _
  by_cases h4 : 400 < l.length
  · have ht := hid (key (l.take 400) (by simp; omega) (hs.take 400))
    have hlen : (l.take 400).length = 400 := by simp; omega
    rw [hlen] at ht
    clear key hlen
    go_enter Try.func7, Try.ntmps7
    go_wp2_with fail
    go_ret
    exact ⟨rfl, hE _ _, ht.out, by simp⟩
  · have ht := hid (key l (by omega) hs)
    clear key
    go_enter Try.func7, Try.ntmps7
    go_wp2_with fail
    go_ret
    exact ⟨rfl, hE _ _, ht.out, by simp⟩

theorem lit_cells (l : List Int) : (l.map (Value.int .i64)).flatMap cellsL = l.map (Value.int .i64) := by
  induction l with
  | nil => rfl
  | cons x l ih => simp only [List.map_cons, List.flatMap_cons, ih]; rfl

theorem lit_sl (X : Nat → Bool) (w : World) (l : List Int) (e : TypeId) (arr : Array Value) (harr : arr = (l.map (Value.int .i64)).toArray) (hX : ∀ k, X k = true → k < w.heap.size) (hl : l.length ≤ 1000) :
    OL (IntIn .i64) 1 X w.heap.size e (w.alloc (.cells arr e)) (some ⟨w.heap.size, 0, none⟩) l.length l := by
  refine OL.lit (IntIn.elem .i64) hX (Nat.le_refl _) (l.map (Value.int .i64)) l arr ?_ (by simp) (fun i hi hi' => by simp [IntIn]) (by omega)
  rw [harr, lit_cells]

theorem lit_pick (X : Nat → Bool) (tb : Nat) (l : List Int) (arr : Array Value) (e : TypeId) (len : Nat) (w : World) (a b : Int) (ht : TapeR X tb w) (hX : ∀ k, X k = true → k < w.heap.size) (harr : arr = (l.map (Value.int .i64)).toArray) (hlen : len = l.length) (h0 : 0 < l.length) (hl : l.length ≤ 1000) (hab : Hid (∀ x ∈ l, a ≤ x ∧ x ≤ b)) :
    Calls Try.prog 16 #[.pointer (some ⟨tb, 0, none⟩), .slice (some ⟨w.heap.size, 0, none⟩) len len] (w.alloc (.cells arr e)) (TIntOut X tb w a b) := by
  subst hlen
  have hE : Ext w (w.alloc (.cells arr e)) := (ExtX.refl w).alloc _
  refine (pick_any X tb _ l _ _ a b (ht.ext hE) (OL.sl (IntIn.elem .i64) (lit_sl X w l e arr harr hX hl)) h0 hl hab).mono ?_
  rintro e' w' ⟨hE', ht', r⟩
  exact ⟨(ExtX.of hE).trans hE', ht', r⟩

theorem count_any (X : Nat → Bool) (tb : Nat) (n : Int) (w : World) (ht : TapeR X tb w) (hX : ∀ k, X k = true → k < w.heap.size) (h1 : -1000 ≤ n) (hn : n ≤ 1099511627776) :
    Calls Try.prog 8 #[.pointer (some ⟨tb, 0, none⟩), .int .i64 n] w (TIntOut X tb w (min (-1) n) (max 1 (n + 1))) := by
  go_enter Try.func8, Try.ntmps8
  go_wp2_with fail
  refine (next_any X tb 4 _ ht (by omega)).mono ?_
  rintro e w1 ⟨hE, ht1, m, rfl, hm⟩
  have hX1 : ∀ k, X k = true → k < w1.heap.size := fun k hk => Nat.lt_of_lt_of_le (hX k hk) hE.size
  by_cases h2 : m < 3
  · by_cases h3 : 0 < n
    · go_wp2_with fail
      refine (next_any X tb n _ ht1 hn).mono ?_
      rintro e w2 ⟨hE2, ht2, m2, rfl, hm2⟩
      go_wp2_with fail
      go_ret
      exact ⟨hE.trans hE2, ht2, _, rfl, by omega, by omega⟩
    · go_wp2_with fail
      refine (lit_pick X tb [0, n, n + 1, -1, 1] _ _ _ w1 (min (-1) n) (max 1 (n + 1)) ht1 hX1 rfl rfl (by simp) (by simp) (hid (by simp; omega))).mono ?_
      rintro e w2 ⟨hE2, ht2, m2, rfl, hm2, hm3⟩
      go_wp2_with fail
      go_ret
      exact ⟨hE.trans hE2, ht2, _, rfl, hm2, hm3⟩
  · go_wp2_with fail
    refine (lit_pick X tb [0, n, n + 1, -1, 1] _ _ _ w1 (min (-1) n) (max 1 (n + 1)) ht1 hX1 rfl rfl (by simp) (by simp) (hid (by simp; omega))).mono ?_
    rintro e w2 ⟨hE2, ht2, m2, rfl, hm2, hm3⟩
    go_wp2_with fail
    go_ret
    exact ⟨hE.trans hE2, ht2, _, rfl, hm2, hm3⟩
end Go.Proofs.Ytblifbnbjffgkaa
