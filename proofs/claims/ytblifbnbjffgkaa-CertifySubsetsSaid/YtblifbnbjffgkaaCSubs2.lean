/- certify.Subsets. Conditions: none. -/
import Derived.Test.YtblifbnbjffgkaaCSubs
namespace Go.Proofs.Ytblifbnbjffgkaa
open Go.RowKit Go.Rep Go.Lim

theorem csubs_any (X : Nat → Bool) (n h : Int) (w : World) (hX : ∀ k, X k = true → k < w.heap.size) :
    Calls Try.prog 17 #[.int .i64 n, .int .i64 h] w (SubsOut X w n h) := by
  have hmf : ∀ (fn : Fn) (first cap : Array Value) (w : World), (Instr.makeFunc fn first cap).run Try.prog w = .ok (.func fn first cap) w := fun _ _ _ _ => rfl
  have hE0 : Ext w (w.alloc (.cells #[.int .i64 n] 3)) := (ExtX.refl w).alloc _
  have b0 : (w.alloc (.cells #[.int .i64 n] 3)).heap[w.heap.size]? = some (.cells #[.int .i64 n] 3 (0, 0)) := heap_alloc_new w _
  have hz0 : (w.alloc (.cells #[.int .i64 n] 3)).heap.size = w.heap.size + 1 := by simp
  by_cases hb : n < 1 ∨ 64 < n ∨ h < 0 ∨ n < h
  · have hs := subsE_range hb
    have hs' := hid hs
    clear hs
    rcases (by omega : n < 1 ∨ (1 ≤ n ∧ 64 < n) ∨ (1 ≤ n ∧ n ≤ 64 ∧ h < 0) ∨ (1 ≤ n ∧ n ≤ 64 ∧ 0 ≤ h ∧ n < h)) with hc | hc | hc | hc
    all_goals
      clear hb
      go_enter Try.func17, Try.ntmps17
      go_wp2_with fail
      go_ret2
      exact SubsOut.nil hE0 hs'.out rfl
  obtain ⟨N, rfl⟩ := Int.eq_ofNat_of_zero_le (show 0 ≤ n by omega)
  obtain ⟨H, rfl⟩ := Int.eq_ofNat_of_zero_le (show 0 ≤ h by omega)
  have h1 : 1 ≤ N := by omega
  have h2 : N ≤ 64 := by omega
  have h3 : H ≤ N := by omega
  clear hb
  obtain ⟨wa, hwa⟩ : ∃ wa, w.alloc (.cells #[.int .i64 (N : Int)] 3) = wa := ⟨_, rfl⟩
  rw [hwa] at hE0 b0 hz0
  have ca := cell_of_one b0
  go_enter Try.func17, Try.ntmps17
  go_wp2_with fail
  refine (echoose_any N H 4097 _ h3 h2 (by omega) (by omega)).mono ?_
  rintro e w1 ⟨rfl, rfl⟩
  by_cases h4 : 4096 < ch N H
  · have hs := hid (subsE_limit h1 h2 h3 h4)
    have hm : min (ch N H) 4097 = 4097 := by omega
    rw [hm]
    clear hm
    go_wp2_with fail
    go_ret2
    exact SubsOut.nil hE0 hs.out rfl
  · have hs := hid (subsE_ok h1 h2 h3 (by omega))
    have hm : min (ch N H) 4097 = ch N H := by omega
    rw [hm]
    clear hm
    go_wp2_with fail
    have hz1 : (w1.alloc (.cells #[.slice none 0 0] 23)).heap.size = w.heap.size + 2 := by simp; omega
    have hE2 : Ext w (w1.alloc (.cells #[.slice none 0 0] 23)) := hE0.alloc _
    have bl : (w1.alloc (.cells #[.slice none 0 0] 23)).heap[w.heap.size + 1]? = some (.cells #[.slice none 0 0] 23 (0, 0)) := by
      rw [← hz0]; exact heap_alloc_new w1 _
    have bn : (w1.alloc (.cells #[.slice none 0 0] 23)).heap[w.heap.size]? = some (.cells #[.int .i64 (N : Int)] 3 (0, 0)) := by
      rw [Below.heap_alloc _ _ _ (by omega)]; exact b0
    generalize w1.alloc (.cells #[.slice none 0 0] 23) = w2 at hz1 hE2 bl bn ⊢
    have hclen : (combs N H 0).length ≤ 4096 := by rw [combs_length]; omega
    refine (subsets_any N H #[.pointer (some ⟨w.heap.size + 1, 0, none⟩), .pointer (some ⟨w.heap.size, 0, none⟩)] (CInv X w (w.heap.size + 1) w.heap.size w2.heap.size N) w2 h2 (by omega)
      (fun done W W' hi hE => hi.own hE (by omega) (by omega) (by omega))
      (fun done s W hi hs hsl hB => by
        obtain ⟨rest, hr⟩ := hs
        have hmem : s ∈ combs N H 0 := by rw [← hr]; simp
        have hdl : done.length ≤ 4096 := by
          have : (done ++ [s] ++ rest).length ≤ 4096 := by rw [hr]; exact hclen
          simp at this; omega
        exact cback_any X w (w.heap.size + 1) w.heap.size w2.heap.size N H done s W h2 (by omega) (by omega) (by omega) (by omega) (by omega) hX hdl hi hmem hsl hB)
      ⟨bn, hE2, none, 0, bl, Nat.le_refl _, OL.nil _ _ _ _ _ _⟩).mono ?_
    rintro e w9 ⟨rfl, q1, q2, oo, co, q3, q4, q5⟩
    have cl := cell_of_one q3
    have hsl := q5.sl LeafR.elem
    have hsl2 := hsl.mono LeafR.mono (mk_sub (X := X) fun k _ hk => by simp [hX1b, hk])
    have hlv : Hid (leavesL N H = (combs N H 0).map fun s => (s, othersL s N)) := hid rfl
    rw [← hlv.out] at hsl2
    have hll : Hid ((leavesL N H).length = (combs N H 0).length) := hid (by rw [hlv.out]; simp)
    clear hsl q5 hz1 hE2 bl bn hclen ca b0 hwa
    go_wp2_with fail
    go_ret2
    refine ⟨q2, oo, co, ?_, ?_, ?_⟩
    · rw [hs.out.1, hs.out.2, hll.out]; rfl
    · rw [hs.out.2, hll.out]; exact q4
    · rw [hs.out.2]; exact hsl2
end Go.Proofs.Ytblifbnbjffgkaa
