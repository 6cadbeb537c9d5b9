import Derived.Test.YtlcclaicodghcaaPc
namespace Go.Proofs.Ytlcclaicodghcaa

/-- Has a section few bytes, in few? -/
def fewS (most : Int) (s : SectD) : Bool := decide (s.1.length ≤ 300) && !(decide (most < s.2.2) && decide (s.2.2 ≤ 1048576))
def fewTo (most : Int) (T : List SectD) : Nat → Bool
  | 0 => true
  | k + 1 => fewTo most T k && fewS most (T.getD k noS)
def fewH (S N : List UInt8) (T : List SectD) (most : Int) : Bool := decide (S.length ≤ 40) && decide (N.length ≤ 40) && decide (T.length ≤ 70) && fewTo most T T.length
theorem fewTo_bad {most : Int} {T : List SectD} {k : Nat} (h : fewS most (T.getD k noS) = false) : ∀ m, k < m → fewTo most T m = false
  | 0, h' => absurd h' (Nat.not_lt_zero _)
  | m + 1, h' => by
    rw [fewTo]
    by_cases e : k = m
    · subst e; rw [h, Bool.and_false]
    · rw [fewTo_bad h m (by omega)]; rfl
theorem fewTo_step {most : Int} {T : List SectD} {m : Nat} (h : fewTo most T m = true) {k : Nat} (hk : k < m) : fewS most (T.getD k noS) = true := by
  cases e : fewS most (T.getD k noS)
  · rw [fewTo_bad e m hk] at h; cases h
  · rfl
theorem fewH_iff {S N : List UInt8} {T : List SectD} {most : Int} : fewH S N T most = true ↔ S.length ≤ 40 ∧ N.length ≤ 40 ∧ T.length ≤ 70 ∧ fewTo most T T.length = true := by
  unfold fewH; simp only [Bool.and_eq_true, decide_eq_true_eq]
  exact ⟨fun ⟨⟨⟨a, b⟩, c⟩, d⟩ => ⟨a, b, c, d⟩, fun ⟨a, b, c, d⟩ => ⟨⟨⟨a, b⟩, c⟩, d⟩⟩
theorem fewH_out {S N : List UInt8} {T : List SectD} {most : Int} (h : ¬ (S.length ≤ 40 ∧ N.length ≤ 40 ∧ T.length ≤ 70)) : fewH S N T most = false := by
  cases e : fewH S N T most
  · rfl
  · obtain ⟨a, b, c, _⟩ := fewH_iff.1 e; exact absurd ⟨a, b, c⟩ h
theorem fewH_bad {S N : List UInt8} {T : List SectD} {most : Int} {k : Nat} (hk : k < T.length) (h : fewS most (T.getD k noS) = false) : fewH S N T most = false := by
  unfold fewH; rw [fewTo_bad h _ hk, Bool.and_false]

/-- Are two heads the same? -/
def sameH (v : Int) (S : List UInt8) (r : Int) (N : List UInt8) (T : List SectD) (v' : Int) (S' : List UInt8) (r' : Int) (N' : List UInt8) (T' : List SectD) : Bool :=
  decide (v = v') && (S == S') && decide (r = r') && (N == N') && decide (T = T')
theorem sect_eq (a : List UInt8) (b c : Int) (a' : List UInt8) (b' c' : Int) : decide (((a, b, c) : SectD) = (a', b', c')) = ((a == a') && decide (b = b') && decide (c = c')) := by
  rw [Bool.eq_iff_iff]; simp [and_assoc]
end Go.Proofs.Ytlcclaicodghcaa
