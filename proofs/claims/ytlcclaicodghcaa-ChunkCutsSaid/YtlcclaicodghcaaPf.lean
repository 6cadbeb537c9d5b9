import Derived.Test.YtlcclaicodghcaaPe
namespace Go.Proofs.Ytlcclaicodghcaa

/-! ### Where all chunks stand (no program here) -/
/-- A piece: its section, its place in it, the last one?, where it begins, how many bytes. -/
abbrev PieceD := Nat × Nat × Bool × Nat × Nat
/-- How many chunks so many bytes have. -/
def nC (s : Nat) : Nat := (s + 255) / 256
def chunkP (i s a j : Nat) : PieceD := (i, j, decide (s - j * 256 ≤ 256), a + j * 288, min (s - j * 256) 256 + 32)
def chunksP (i s a k : Nat) : List PieceD := (List.range k).map (chunkP i s a)
def lenS (T : List SectD) (i : Nat) : Nat := (T.getD i noS).2.2.toNat
/-- Where a section's chunks begin. -/
def startP (T : List SectD) (a : Nat) : Nat → Nat
  | 0 => a
  | i + 1 => startP T a i + lenS T i + 32 * nC (lenS T i)
/-- The pieces of the first sections. -/
def piecesP (T : List SectD) (a : Nat) : Nat → List PieceD
  | 0 => []
  | i + 1 => piecesP T a i ++ chunksP i (lenS T i) (startP T a i) (nC (lenS T i))
theorem chunksP_succ (i s a k : Nat) : chunksP i s a (k + 1) = chunksP i s a k ++ [chunkP i s a k] := by
  unfold chunksP; rw [List.range_succ, List.map_append]; rfl
theorem chunksP_len (i s a k : Nat) : (chunksP i s a k).length = k := by simp [chunksP]
theorem nC_lt {s k : Nat} : k < nC s ↔ k * 256 < s := by unfold nC; omega
theorem nC_le {s : Nat} (h : s ≤ 1048576) : nC s ≤ 4096 := by unfold nC; omega
theorem piecesP_len (T : List SectD) (a : Nat) (h : ∀ i, lenS T i ≤ 1048576) : ∀ i, (piecesP T a i).length ≤ 4096 * i
  | 0 => by simp [piecesP]
  | i + 1 => by
    have h1 := piecesP_len T a h i
    have h2 := nC_le (h i)
    rw [piecesP, List.length_append, chunksP_len]; omega
theorem startP_le (T : List SectD) (a : Nat) (h : ∀ i, lenS T i ≤ 1048576) : ∀ i, startP T a i ≤ a + 1179648 * i
  | 0 => by simp [startP]
  | i + 1 => by
    have h1 := startP_le T a h i
    have h2 := nC_le (h i)
    have h3 := h i
    rw [startP]; omega
/-- Where the next chunk begins. -/
def atP (s a k : Nat) : Nat := a + min (256 * k) s + 32 * k
theorem atP_zero (s a : Nat) : atP s a 0 = a := by unfold atP; simp
theorem atP_from {s a k : Nat} (h : k * 256 < s) : atP s a k = a + k * 288 := by unfold atP; omega
theorem atP_succ {s a k : Nat} (h : k * 256 < s) : atP s a (k + 1) = atP s a k + (min (s - k * 256) 256 + 32) := by unfold atP; omega
theorem atP_end (s a : Nat) : atP s a (nC s) = a + s + 32 * nC s := by unfold atP nC; omega
end Go.Proofs.Ytlcclaicodghcaa
