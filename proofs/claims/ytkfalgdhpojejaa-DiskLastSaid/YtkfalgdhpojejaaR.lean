import Derived.Test.YtkfalgdhpojejaaQ
namespace Go.Proofs.Ytkfalgdhpojejaa
open Go.RowKit

set_option maxHeartbeats 2000000 in
theorem rnew_any (n : Int) (w : World) (hn : -9223372036854775808 ≤ n) (hn' : n ≤ 9223372036854775807) :
    Calls Try.prog 13 #[.int .i64 n] w fun e w' => (∃ v, e = .returned (.tuple #[v, .int .i64 (newE n)]) ∧ VD (w.heap.size ≤ ·) w' v (newB n) [] (newF n)) ∧ Below w.heap.size w w' := by
  by_cases h : 1 ≤ n ∧ n ≤ 4096
  · rw [show newE n = 0 from if_pos h, show newB n = List.replicate n.toNat zero64 from if_pos h, show newF n = -1 from if_pos h]
    obtain ⟨h1, h2⟩ := h
    obtain ⟨N, rfl⟩ := Int.eq_ofNat_of_zero_le (by omega : 0 ≤ n)
    obtain ⟨i0, hi, hz0, hz1, hz2⟩ := info_parts info37
    have hmk := run_make64
    go_enter Try.func13, Try.ntmps13
    go_wp2_with fail
    go_loopw [5] (fun i wr => ∃ k : Nat, k ≤ N ∧ i = .int .i64 k ∧ ∃ v cs, Hid (wr.heap[w.heap.size]? = some (.cells #[.slice none 0 0, .slice none 0 0, .int .i64 0] 25 (0, 0))) ∧ Hid (wr.heap[w.heap.size + 1]? = some (.cells #[v, .slice none 0 0, .int .i64 (-1)] 25 (0, 0))) ∧ Hid (wr.ownsRow (w.heap.size + 2) 37 1 v k cs) ∧ ZCells wr (w.heap.size + 2) cs ∧ Hid (Below w.heap.size w wr)) (fun i _ => N - (intOf i).toNat)
    case atStart =>
      have hb := bl_alloc (bl_alloc (Below.refl w.heap.size w) (.cells #[.slice none 0 0, .slice none 0 0, .int .i64 0] 25)) (.cells #[.slice none 0 0, .slice none 0 0, .int .i64 (-1)] 25)
      refine ⟨0, Nat.zero_le _, rfl, .slice none 0 0, [], ?_, ?_, World.ownsRow_nil _ _ _ _, (fun u hu => by cases hu), hb⟩
      · show _ = _
        rw [Below.heap_alloc _ _ _ (by simp), heap_alloc_new]
      · have := heap_alloc_new (w.alloc (.cells #[.slice none 0 0, .slice none 0 0, .int .i64 0] 25)) (.cells #[.slice none 0 0, .slice none 0 0, .int .i64 (-1)] 25)
        rw [World.size_alloc] at this
        exact this
    case round =>
      obtain ⟨k, hk, rfl, v, cs, HR, HD, Ho, HZ, Hb⟩ := hrel
      obtain ⟨hd, hg, hdl⟩ := rowfacts HD
      by_cases hlt : k < N
      · have hdl0 : w.heap.size < wr.heap.size := by omega
        go_wp2_with fail
        go_region_law (first | (refine step_append_lies _ rfl (.tmp 20) (.tmp 22) 22 rfl (w.heap.size + 2) 37 i0 (.slice none 0 0) 1 24 Try.underlying22 hi hz0 hz1 hz2 rfl (by decide) v k cs rfl (((Ho.alloc _).alloc _).drew) ⟨wr.heap.size + 1, 0, none⟩ 1 1 [.slice (some ⟨wr.heap.size, 0, none⟩) 64 64] rfl rfl (one_drew _ _ (by simp) _ _) (by simp [Value.oneCell']) (by omega) (by simp only [maxLen]; omega) (by omega) (by simp; omega) _ rfl ?_; intro g cap w1 hown1 hgrow1 hg1 hg2; have hD1 := (hgrow1.block (w.heap.size + 1) (by simp; omega) (fun e => by have := own_base Ho (Nat.le_refl _) _ e.symm; omega)).trans ((Below.heap_alloc _ _ _ (by simp; omega)).trans ((Below.heap_alloc _ _ _ hdl).trans HD)); obtain ⟨hd1, hg1, hdl1⟩ := rowfacts hD1))
        all_goals
          go_wp2_with fail
          go_roundw
          case rel =>
            have e1 := (hgrow1.block w.heap.size (by simp; omega) (fun e => by have := own_base Ho (Nat.le_refl _) _ e.symm; omega)).trans ((Below.heap_alloc _ _ _ (by simp; omega)).trans ((Below.heap_alloc _ _ _ hdl0).trans HR))
            have e2 := (hgrow1.block wr.heap.size (by simp; omega) (fun e => by have := (Ho.lt _ e.symm).2; omega)).trans ((Below.heap_alloc _ _ _ (by simp)).trans (heap_alloc_new _ _))
            exact ⟨k + 1, by omega, by go_num, _, _, (Below.heap_setCell _ _ _ _ (by simp)).trans e1, heap_setCell_same _ _ _ _ _ _ hD1, ownsRow_setCell_below hown1 (by simp) _, ((ZCells.grown (w := ((wr.alloc (.cells zcells 5)).alloc (.cells #[.slice (some ⟨wr.heap.size, 0, none⟩) 64 64] 37)).drew) ((HZ.alloc _).alloc _) (((Ho.alloc _).alloc _).drew) hgrow1).snoc (by omega) e2).set (by simp) _, bl_set (bl_grown (bl_drew (bl_alloc (bl_alloc Hb _) _)) hgrow1 (fun j hj => by have := own_base Ho (Nat.le_refl _) _ hj; omega)) (by simp) _⟩
          case measure => simp [intOf]; omega
      · have hk' : k = N := by omega
        have HE := Lib.hid hk'
        clear hk'
        obtain ⟨hr, hrf, hrl⟩ := rowfacts HR
        have hfrm : Hid (∃ g cap, v = .slice (some ⟨g, 0, none⟩) k cap ∧ w.heap.size + 2 ≤ g ∧ g < wr.heap.size) := Ho.form (by omega)
        obtain ⟨g, cap, rfl, hg1, hg2⟩ := hfrm
        go_wp2_with fail
        have hb := bl_set (bl_set (bl_set Hb (p := ⟨w.heap.size, 0, none⟩) (Nat.le_refl _) (.slice (some ⟨g, 0, none⟩) k cap)) (p := ⟨w.heap.size, 1, none⟩) (Nat.le_refl _) (.slice none 0 0)) (p := ⟨w.heap.size, 2, none⟩) (Nat.le_refl _) (.int .i64 (-1))
        have ho := ownsRow_setCell_below (ownsRow_setCell_below (ownsRow_setCell_below Ho (a := ⟨w.heap.size, 0, none⟩) (by simp) (.slice (some ⟨g, 0, none⟩) k cap)) (a := ⟨w.heap.size, 1, none⟩) (by simp) (.slice none 0 0)) (a := ⟨w.heap.size, 2, none⟩) (by simp) (.int .i64 (-1))
        have hz := ((HZ.set (p := ⟨w.heap.size, 0, none⟩) (by simp) (.slice (some ⟨g, 0, none⟩) k cap)).set (p := ⟨w.heap.size, 1, none⟩) (by simp) (.slice none 0 0)).set (p := ⟨w.heap.size, 2, none⟩) (by simp) (.int .i64 (-1))
        have hl : cs.length = k := by have h := ho.1; rw [Nat.mul_one] at h; exact h
        refine bodyPost_ret (v := .tuple #[.agg #[.slice (some ⟨g, 0, none⟩) k cap, .slice none 0 0, .int .i64 (-1)], .int .i64 0]) (by simp [results, Try.results13, go_sem, hr]) rfl ⟨⟨_, rfl, some ⟨g, 0, none⟩, cap, none, 0, ?_, Nat.le_refl _, fun _ => rfl, ?_, .inl rfl⟩, hb⟩
        · rw [Int.toNat_natCast, List.length_replicate, ← HE.out]; rfl
        · rw [Int.toNat_natCast, ← HE.out]
          exact rbbf_own ho (hz.blk hl (fun b hb => by omega)) (by omega)
  · rw [show newE n = 1 from if_neg h, show newB n = [] from if_neg h, show newF n = 0 from if_neg h]
    have hd : n < 1 ∨ (1 ≤ n ∧ 4096 < n) := by omega
    clear h
    rcases hd with hd | ⟨hd, hd'⟩
    all_goals
      go_enter Try.func13, Try.ntmps13
      go_wp2_with fail
      exact bodyPost_ret (v := .tuple #[.agg #[.slice none 0 0, .slice none 0 0, .int .i64 0], .int .i64 1]) (by simp [results, Try.results13, go_sem]) rfl ⟨⟨_, rfl, none, 0, none, 0, rfl, Nat.le_refl _, fun _ => rfl, .inl rfl, .inl rfl⟩, bl_alloc (Below.refl _ _) _⟩
end Go.Proofs.Ytkfalgdhpojejaa
