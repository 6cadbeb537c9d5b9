import Derived.Test.YtlcclaicodghcaaPa
namespace Go.Proofs.Ytlcclaicodghcaa

/-! ### Bytes in rows of 256 (no program here) -/
def pieceB (b : List UInt8) (i : Nat) : List UInt8 := (b.drop (256 * i)).take 256
def splitN (b : List UInt8) : Nat := (b.length + 255) / 256
def splitB (b : List UInt8) : List (List UInt8) := (List.range (splitN b)).map (pieceB b)
theorem splitB_len (b : List UInt8) : (splitB b).length = splitN b := by simp [splitB]
theorem splitB_get (b : List UInt8) {i : Nat} (h : i < (splitB b).length) : (splitB b)[i] = pieceB b i := by simp [splitB]
theorem pieceB_len (b : List UInt8) (i : Nat) : (pieceB b i).length = min 256 (b.length - 256 * i) := by simp [pieceB]
theorem split_flat (b : List UInt8) : ∀ k, ((List.range k).map (pieceB b)).flatten = b.take (256 * k)
  | 0 => by simp
  | k + 1 => by
    rw [List.range_succ, List.map_append, List.flatten_append, split_flat b k]
    simp only [List.map_cons, List.map_nil, List.flatten_cons, List.flatten_nil, List.append_nil, pieceB]
    rw [show 256 * (k + 1) = 256 * k + 256 by omega, List.take_add]
theorem splitB_flat (b : List UInt8) : (splitB b).flatten = b := by
  unfold splitB splitN; rw [split_flat, List.take_of_length_le (by omega)]
end Go.Proofs.Ytlcclaicodghcaa
