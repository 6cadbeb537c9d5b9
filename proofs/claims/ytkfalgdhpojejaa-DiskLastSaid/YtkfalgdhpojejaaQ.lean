import Derived.Test.YtkfalgdhpojejaaP
namespace Go.Proofs.Ytkfalgdhpojejaa
open Go.RowKit

def zero64 : List UInt8 := List.replicate 64 0
def newE (n : Int) : Int := if 1 ≤ n ∧ n ≤ 4096 then 0 else 1
def newB (n : Int) : List (List UInt8) := if 1 ≤ n ∧ n ≤ 4096 then List.replicate n.toNat zero64 else []
def newF (n : Int) : Int := if 1 ≤ n ∧ n ≤ 4096 then -1 else 0

/-- The cells of 64 bytes 0, behind a name. -/
def zcells : Array Value := ((List.replicate 64 (0 : UInt8)).map encB).toArray
theorem run_make64 (w : World) : (Instr.makeSlice 37 (.int .i64 64) (.int .i64 64)).run Try.prog w = .ok (.slice (some ⟨w.heap.size, 0, none⟩) 64 64) (w.alloc (.cells zcells 5)) := by
  kernel_rfl
theorem one_drew (W : World) (n : Nat) (hn : n = W.heap.size) (x : Value) (t : TypeId) : ∀ j u, [x][j]? = some u → (W.alloc (.cells #[x] t)).drew.cell? ((⟨n, 0, none⟩ : Addr).add j) = some u := by
  subst hn
  exact cell_one_new W x t

/-- Slices over new rows of 64 bytes 0. -/
def ZCells (w : World) (base : Nat) (cs : List Value) : Prop := ∀ u ∈ cs, ∃ b, base ≤ b ∧ u = .slice (some ⟨b, 0, none⟩) 64 64 ∧ w.heap[b]? = some (.cells zcells 5 (0, 0))
theorem blk_size {w : World} {b : Nat} {o : Obj} (h : w.heap[b]? = some o) : b < w.heap.size := (Array.getElem?_eq_some_iff.1 h).1
theorem ZCells.step {w w' : World} {base : Nat} {cs : List Value} (h : ZCells w base cs) (hk : ∀ b, base ≤ b → w.heap[b]? = some (.cells zcells 5 (0, 0)) → w'.heap[b]? = some (.cells zcells 5 (0, 0))) : ZCells w' base cs := by
  intro u hu
  obtain ⟨b, h1, h2, h3⟩ := h u hu
  exact ⟨b, h1, h2, hk b h1 h3⟩
theorem ZCells.grown {w w' : World} {base n : Nat} {cs xs : List Value} {v : Value} (h : ZCells w base cs) (ho : w.ownsRow base 37 1 v n xs) (hg : w.grownBy w' v.ownBlock) : ZCells w' base cs := by
  refine h.step fun b _ hb => ?_
  rw [hg.block b (blk_size hb) ?_]
  · exact hb
  · intro e
    rcases ho.2 with ⟨rfl, _⟩ | ⟨g, cap, cur, rfl, _, hh, _⟩
    · simp [Value.ownBlock] at e
    · simp [Value.ownBlock] at e
      subst e
      rw [hb] at hh
      simp at hh
theorem ZCells.alloc {w : World} {base : Nat} {cs : List Value} (h : ZCells w base cs) (o : Obj) : ZCells (w.alloc o) base cs :=
  h.step fun b _ hb => by rw [Below.heap_alloc w o b (blk_size hb)]; exact hb
theorem ZCells.set {w : World} {base : Nat} {cs : List Value} (h : ZCells w base cs) {p : Addr} (hp : p.block < base) (v : Value) : ZCells (w.setCell p v) base cs :=
  h.step fun b hb hh => by rw [Below.heap_setCell _ _ _ _ (by omega)]; exact hh
theorem ZCells.snoc {w : World} {base b : Nat} {cs : List Value} (h : ZCells w base cs) (hb : base ≤ b) (hh : w.heap[b]? = some (.cells zcells 5 (0, 0))) : ZCells w base (cs ++ [.slice (some ⟨b, 0, none⟩) 64 64]) := by
  intro u hu
  rcases List.mem_append.1 hu with hu | hu
  · exact h u hu
  · simp at hu
    exact ⟨b, hb, hu, hh⟩
theorem ZCells.blk {φ : Nat → Prop} {w : World} {base k : Nat} {cs : List Value} (h : ZCells w base cs) (hl : cs.length = k) (hφ : ∀ b, base ≤ b → φ b) : BlkCells φ w cs (List.replicate k zero64) := by
  refine ⟨by simp [hl], fun i hi => ?_⟩
  simp at hi
  have hi' : i < cs.length := by omega
  obtain ⟨b, h1, h2, h3⟩ := h cs[i] (List.getElem_mem hi')
  refine ⟨cs[i], List.getElem?_eq_getElem hi', ?_⟩
  rw [h2]
  refine ⟨some ⟨b, 0, none⟩, 64, by simp [zero64], by simp [zero64], by simp [zero64], .inr ⟨b, 0, hφ b h1, rfl, fun j hj => ?_⟩⟩
  have hj : j < 64 := by simpa [zero64] using hj
  simp only [List.getElem_replicate, zero64]
  rw [Nat.zero_add, cell_of_row w b j zcells 5 (0, 0) h3]
  have e : zcells[j]? = some (encB 0) := by unfold zcells; rw [List.getElem?_toArray, List.getElem?_map, List.getElem?_replicate_of_lt hj]; rfl
  rw [e]; rfl
theorem rowfacts {w : World} {g : Nat} {cur : Array Value} {e : TypeId} (h : w.heap[g]? = some (.cells cur e (0, 0))) : (∀ o, w.cell? ⟨g, o, none⟩ = cur[o]?) ∧ (∀ o, w.frozen? ⟨g, o, none⟩ = false) ∧ g < w.heap.size :=
  ⟨fun o => cell_of_row w g o cur e (0, 0) h, fun o => frozen_of_row w g o cur e h, blk_size h⟩

set_option maxHeartbeats 2000000 in
theorem new_any (n : Int) (w : World) (hn : -9223372036854775808 ≤ n) (hn' : n ≤ 9223372036854775807) :
    Calls Try.prog 12 #[.int .i64 n] w fun e w' => (∃ v, e = .returned (.tuple #[v, .int .i64 (newE n)]) ∧ VD (w.heap.size ≤ ·) w' v (newB n) [] (newF n)) ∧ Below w.heap.size w w' := by
  by_cases h : 1 ≤ n ∧ n ≤ 4096
  · rw [show newE n = 0 from if_pos h, show newB n = List.replicate n.toNat zero64 from if_pos h, show newF n = -1 from if_pos h]
    obtain ⟨h1, h2⟩ := h
    obtain ⟨N, rfl⟩ := Int.eq_ofNat_of_zero_le (by omega : 0 ≤ n)
    obtain ⟨i0, hi, hz0, hz1, hz2⟩ := info_parts info37
    have hmk := run_make64
    go_enter Try.func12, Try.ntmps12
    go_wp2_with fail
    go_loopw [14] (fun i wr => ∃ k : Nat, k ≤ N ∧ i = .int .i64 k ∧ ∃ v cs, Hid (wr.heap[w.heap.size]? = some (.cells #[.slice none 0 0, .slice none 0 0, .int .i64 0] 25 (0, 0))) ∧ Hid (wr.heap[w.heap.size + 1]? = some (.cells #[v, .slice none 0 0, .int .i64 (-1)] 25 (0, 0))) ∧ Hid (wr.ownsRow (w.heap.size + 2) 37 1 v k cs) ∧ ZCells wr (w.heap.size + 2) cs ∧ Hid (Below w.heap.size w wr)) (fun i _ => N - (intOf i).toNat)
    case atStart =>
      have hb := bl_alloc (bl_alloc (Below.refl w.heap.size w) (.cells #[.slice none 0 0, .slice none 0 0, .int .i64 0] 25)) (.cells #[.slice none 0 0, .slice none 0 0, .int .i64 (-1)] 25)
      refine ⟨0, Nat.zero_le _, rfl, .slice none 0 0, [], ?_, ?_, World.ownsRow_nil _ _ _ _, (fun u hu => by cases hu), hb⟩
      · show _ = _
        rw [Below.heap_alloc _ _ _ (by simp), heap_alloc_new]
      · have := heap_alloc_new (w.alloc (.cells #[.slice none 0 0, .slice none 0 0, .int .i64 0] 25)) (.cells #[.slice none 0 0, .slice none 0 0, .int .i64 (-1)] 25)
        rw [World.size_alloc] at this
        exact this
    case round =>
      obtain ⟨k, hk, rfl, v, cs, HR, HD, Ho, HZ, Hb⟩ := hrel
      obtain ⟨hd, hg, hdl⟩ := rowfacts HD
      by_cases hlt : k < N
      · have hdl0 : w.heap.size < wr.heap.size := by omega
        go_wp2_with fail
        go_region_law (first | (refine step_append_lies _ rfl (.tmp 17) (.tmp 19) 22 rfl (w.heap.size + 2) 37 i0 (.slice none 0 0) 1 24 Try.underlying22 hi hz0 hz1 hz2 rfl (by decide) v k cs rfl (((Ho.alloc _).alloc _).drew) ⟨wr.heap.size + 1, 0, none⟩ 1 1 [.slice (some ⟨wr.heap.size, 0, none⟩) 64 64] rfl rfl (one_drew _ _ (by simp) _ _) (by simp [Value.oneCell']) (by omega) (by simp only [maxLen]; omega) (by omega) (by simp; omega) _ rfl ?_; intro g cap w1 hown1 hgrow1 hg1 hg2; have hD1 := (hgrow1.block (w.heap.size + 1) (by simp; omega) (fun e => by have := own_base Ho (Nat.le_refl _) _ e.symm; omega)).trans ((Below.heap_alloc _ _ _ (by simp; omega)).trans ((Below.heap_alloc _ _ _ hdl).trans HD)); obtain ⟨hd1, hg1, hdl1⟩ := rowfacts hD1))
        all_goals
          go_wp2_with fail
          go_roundw
          case rel =>
            have e1 := (hgrow1.block w.heap.size (by simp; omega) (fun e => by have := own_base Ho (Nat.le_refl _) _ e.symm; omega)).trans ((Below.heap_alloc _ _ _ (by simp; omega)).trans ((Below.heap_alloc _ _ _ hdl0).trans HR))
            have e2 := (hgrow1.block wr.heap.size (by simp; omega) (fun e => by have := (Ho.lt _ e.symm).2; omega)).trans ((Below.heap_alloc _ _ _ (by simp)).trans (heap_alloc_new _ _))
            exact ⟨k + 1, by omega, by go_num, _, _, (Below.heap_setCell _ _ _ _ (by simp)).trans e1, heap_setCell_same _ _ _ _ _ _ hD1, ownsRow_setCell_below hown1 (by simp) _, ((ZCells.grown (w := ((wr.alloc (.cells zcells 5)).alloc (.cells #[.slice (some ⟨wr.heap.size, 0, none⟩) 64 64] 37)).drew) ((HZ.alloc _).alloc _) (((Ho.alloc _).alloc _).drew) hgrow1).snoc (by omega) e2).set (by simp) _, bl_set (bl_grown (bl_drew (bl_alloc (bl_alloc Hb _) _)) hgrow1 (fun j hj => by have := own_base Ho (Nat.le_refl _) _ hj; omega)) (by simp) _⟩
          case measure => simp [intOf]; omega
      · have hk' : k = N := by omega
        have HE := Lib.hid hk'
        clear hk'
        obtain ⟨hr, hrf, hrl⟩ := rowfacts HR
        have hfrm : Hid (∃ g cap, v = .slice (some ⟨g, 0, none⟩) k cap ∧ w.heap.size + 2 ≤ g ∧ g < wr.heap.size) := Ho.form (by omega)
        obtain ⟨g, cap, rfl, hg1, hg2⟩ := hfrm
        go_wp2_with fail
        have hb := bl_set (bl_set (bl_set Hb (p := ⟨w.heap.size, 0, none⟩) (Nat.le_refl _) (.slice (some ⟨g, 0, none⟩) k cap)) (p := ⟨w.heap.size, 1, none⟩) (Nat.le_refl _) (.slice none 0 0)) (p := ⟨w.heap.size, 2, none⟩) (Nat.le_refl _) (.int .i64 (-1))
        have ho := ownsRow_setCell_below (ownsRow_setCell_below (ownsRow_setCell_below Ho (a := ⟨w.heap.size, 0, none⟩) (by simp) (.slice (some ⟨g, 0, none⟩) k cap)) (a := ⟨w.heap.size, 1, none⟩) (by simp) (.slice none 0 0)) (a := ⟨w.heap.size, 2, none⟩) (by simp) (.int .i64 (-1))
        have hz := ((HZ.set (p := ⟨w.heap.size, 0, none⟩) (by simp) (.slice (some ⟨g, 0, none⟩) k cap)).set (p := ⟨w.heap.size, 1, none⟩) (by simp) (.slice none 0 0)).set (p := ⟨w.heap.size, 2, none⟩) (by simp) (.int .i64 (-1))
        have hl : cs.length = k := by have h := ho.1; rw [Nat.mul_one] at h; exact h
        refine bodyPost_ret (v := .tuple #[.agg #[.slice (some ⟨g, 0, none⟩) k cap, .slice none 0 0, .int .i64 (-1)], .int .i64 0]) (by simp [results, Try.results12, go_sem, hr]) rfl ⟨⟨_, rfl, some ⟨g, 0, none⟩, cap, none, 0, ?_, Nat.le_refl _, fun _ => rfl, ?_, .inl rfl⟩, hb⟩
        · rw [Int.toNat_natCast, List.length_replicate, ← HE.out]; rfl
        · rw [Int.toNat_natCast, ← HE.out]
          exact rbbf_own ho (hz.blk hl (fun b hb => by omega)) (by omega)
  · rw [show newE n = 1 from if_neg h, show newB n = [] from if_neg h, show newF n = 0 from if_neg h]
    have hd : n < 1 ∨ (1 ≤ n ∧ 4096 < n) := by omega
    clear h
    rcases hd with hd | ⟨hd, hd'⟩
    all_goals
      go_enter Try.func12, Try.ntmps12
      go_wp2_with fail
      exact bodyPost_ret (v := .tuple #[.agg #[.slice none 0 0, .slice none 0 0, .int .i64 0], .int .i64 1]) (by simp [results, Try.results12, go_sem]) rfl ⟨⟨_, rfl, none, 0, none, 0, rfl, Nat.le_refl _, fun _ => rfl, .inl rfl, .inl rfl⟩, bl_alloc (Below.refl _ _) _⟩
end Go.Proofs.Ytkfalgdhpojejaa
