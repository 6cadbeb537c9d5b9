import Derived.Test.YtlcclaicodghcaaPd
namespace Go.Proofs.Ytlcclaicodghcaa

/-! ### A head's bytes (no program here) -/
def sectB (s : SectD) : List UInt8 := rowL s.1 ++ numL s.2.1 6 ++ numL s.2.2 4
def foreB (v : Int) (S : List UInt8) (r : Int) (N : List UInt8) (n : Nat) : List UInt8 := [80, 89, 88] ++ numL v 1 ++ S ++ numL r 4 ++ N ++ numL n 2
def headB (v : Int) (S : List UInt8) (r : Int) (N : List UInt8) (T : List SectD) : List UInt8 := foreB v S r N T.length ++ T.flatMap sectB
def writeE (v : Int) (S : List UInt8) (r : Int) (N : List UInt8) (T : List SectD) : Int := if rightH v S r N T = true then 0 else 1
def writeL (v : Int) (S : List UInt8) (r : Int) (N : List UInt8) (T : List SectD) : List UInt8 := if rightH v S r N T = true then headB v S r N T else []
theorem sects_succ {T : List SectD} {k : Nat} (h : k < T.length) : (T.take (k + 1)).flatMap sectB = (T.take k).flatMap sectB ++ sectB T[k] := by
  rw [List.take_succ_eq_append_getElem h, List.flatMap_append]; simp
theorem numL_le7 (n m : Int) : (numL n m).length ≤ 7 := by
  unfold numL; split
  · rename_i h; unfold okN at h; rw [numB_len]; omega
  · simp
theorem sectB_le {s : SectD} (h : s.1.length ≤ 255) : (sectB s).length ≤ 300 := by
  unfold sectB
  have h1 : (numL s.2.1 6).length ≤ 7 := by unfold numL; split <;> simp [numB_len] <;> (rename_i k; unfold okN at k; omega)
  have h2 : (numL s.2.2 4).length ≤ 7 := by unfold numL; split <;> simp [numB_len] <;> (rename_i k; unfold okN at k; omega)
  have h3 : (rowL s.1).length ≤ s.1.length + 7 := by
    unfold rowL; split
    · rw [List.length_append]
      have : (lenL s.1.length).length ≤ 7 := by
        unfold lenL; split
        · rw [numB_len]; unfold lenW; split <;> (try split) <;> omega
        · simp
      omega
    · simp
  simp only [List.length_append]; omega
theorem sects_le {T : List SectD} : (∀ s ∈ T, s.1.length ≤ 255) → (T.flatMap sectB).length ≤ 300 * T.length := by
  induction T with
  | nil => intro _; simp
  | cons s T ih =>
    intro h
    rw [List.flatMap_cons, List.length_append, List.length_cons]
    have h1 := sectB_le (h s (by simp))
    have h2 := ih fun x hx => h x (List.mem_cons_of_mem _ hx)
    omega
end Go.Proofs.Ytlcclaicodghcaa
