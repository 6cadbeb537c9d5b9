import Derived.Test.YtlcclaicodghcaaCq
namespace Go.Proofs.Ytlcclaicodghcaa
open Go.RowKit

/-! Pieces, walked one by one. -/
theorem pieces_pre (T : List SectD) (a : Nat) (s : Nat) : ∀ m, s ≤ m → ∃ r, piecesP T a m = piecesP T a s ++ r
  | 0, h => by obtain rfl : s = 0 := by omega
               exact ⟨[], by simp⟩
  | m + 1, h => by
    by_cases e : s = m + 1
    · subst e; exact ⟨[], by simp⟩
    · obtain ⟨r, hr⟩ := pieces_pre T a s m (by omega)
      exact ⟨r ++ chunksP m (lenS T m) (startP T a m) (nC (lenS T m)), by rw [piecesP, hr, List.append_assoc]⟩
theorem piece_at {T : List SectD} {a s m p : Nat} (hs : s < m) (hp : p < nC (lenS T s)) : (piecesP T a m)[(piecesP T a s).length + p]? = some (chunkP s (lenS T s) (startP T a s) p) := by
  obtain ⟨r, hr⟩ := pieces_pre T a (s + 1) m hs
  rw [hr, piecesP, List.append_assoc, List.getElem?_append_right (by omega), Nat.add_sub_cancel_left, List.getElem?_append_left (by rw [chunksP_len]; exact hp)]
  unfold chunksP
  rw [List.getElem?_map, List.getElem?_range hp]; rfl
/-- Where a walk over pieces stands. -/
def CovAt (T : List SectD) (n0 i s p a lf : Nat) : Prop :=
  s ≤ T.length ∧ i = (piecesP T n0 s).length + p ∧ a = atP (lenS T s) (startP T n0 s) p ∧ (s < T.length → p < nC (lenS T s) ∧ lf + 256 * p = lenS T s) ∧ (s = T.length → p = 0)
theorem cov_start {T : List SectD} {n0 : Nat} (h1 : ∀ s, s < T.length → 1 ≤ lenS T s) : CovAt T n0 0 0 0 n0 (lenS T 0) :=
  ⟨Nat.zero_le _, rfl, (atP_zero _ _).symm, fun h => ⟨nC_lt.2 (by have := h1 0 h; omega), by omega⟩, fun _ => rfl⟩
theorem cov_lt {T : List SectD} {n0 i s p a lf : Nat} (h : CovAt T n0 i s p a lf) (hi : i < (piecesP T n0 T.length).length) : s < T.length := by
  obtain ⟨h1, h2, h3, h4, h5⟩ := h
  by_cases e : s = T.length
  · have := h5 e; subst e; omega
  · omega
theorem cov_piece {T : List SectD} {n0 i s p a lf : Nat} (h : CovAt T n0 i s p a lf) (hi : i < (piecesP T n0 T.length).length) :
    1 ≤ lf ∧ a = startP T n0 s + p * 288 ∧ (piecesP T n0 T.length)[i] = (s, p, decide (lf ≤ 256), a, min lf 256 + 32) := by
  have hs := cov_lt h hi
  obtain ⟨h1, h2, h3, h4, h5⟩ := h
  obtain ⟨h6, h7⟩ := h4 hs
  have h8 := nC_lt.1 h6
  have ha := atP_from (a := startP T n0 s) h8
  refine ⟨by omega, by omega, ?_⟩
  have hg := piece_at (a := n0) hs h6
  rw [← h2, List.getElem?_eq_getElem hi] at hg
  injection hg with hg
  rw [hg]
  unfold chunkP
  rw [show lenS T s - p * 256 = lf by omega, ← ha, ← h3]
theorem cov_full {T : List SectD} {n0 i s p a lf : Nat} (h : CovAt T n0 i s p a lf) (hi : i < (piecesP T n0 T.length).length) (hl : 256 < lf) : CovAt T n0 (i + 1) s (p + 1) (a + 288) (lf - 256) := by
  have hs := cov_lt h hi
  obtain ⟨h1, h2, h3, h4, h5⟩ := h
  obtain ⟨h6, h7⟩ := h4 hs
  have h8 := nC_lt.1 h6
  have ha := atP_succ (a := startP T n0 s) h8
  have hn : p + 1 < nC (lenS T s) := by unfold nC; omega
  exact ⟨h1, by omega, by omega, fun _ => ⟨hn, by omega⟩, fun e => by omega⟩
theorem cov_last {T : List SectD} {n0 i s p a lf : Nat} (h1' : ∀ s, s < T.length → 1 ≤ lenS T s) (h : CovAt T n0 i s p a lf) (hi : i < (piecesP T n0 T.length).length) (hl : lf ≤ 256) (lf' : Nat) (hlf : s + 1 < T.length → lf' = lenS T (s + 1)) :
    CovAt T n0 (i + 1) (s + 1) 0 (a + (lf + 32)) lf' := by
  have hs := cov_lt h hi
  have hp := (cov_piece h hi).1
  obtain ⟨h1, h2, h3, h4, h5⟩ := h
  obtain ⟨h6, h7⟩ := h4 hs
  have h8 := nC_lt.1 h6
  have ha := atP_succ (a := startP T n0 s) h8
  have hn : p + 1 = nC (lenS T s) := by unfold nC; omega
  have he := atP_end (lenS T s) (startP T n0 s)
  have hz : s + 1 < T.length → 0 < nC (lenS T (s + 1)) := fun k => by have := h1' _ k; unfold nC; omega
  refine ⟨by omega, ?_, ?_, fun k => ⟨hz k, by have := hlf k; omega⟩, fun _ => rfl⟩
  · rw [piecesP, List.length_append, chunksP_len]; omega
  · rw [atP_zero, startP]; rw [← hn] at he; omega
theorem cov_end {T : List SectD} {n0 i s p a lf : Nat} (h : CovAt T n0 i s p a lf) (hi : i = (piecesP T n0 T.length).length) : s = T.length ∧ a = startP T n0 T.length := by
  obtain ⟨h1, h2, h3, h4, h5⟩ := h
  by_cases hs : s < T.length
  · have hg := piece_at (a := n0) hs (h4 hs).1
    rw [← h2, hi, List.getElem?_eq_none (Nat.le_refl _)] at hg; cases hg
  · have e : s = T.length := by omega
    have := h5 e
    subst this
    rw [atP_zero] at h3
    subst e
    exact ⟨rfl, h3⟩
end Go.Proofs.Ytlcclaicodghcaa
