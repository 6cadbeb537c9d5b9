import Derived.Test.YtlcclaicodghcaaPb
namespace Go.Proofs.Ytlcclaicodghcaa

/-! ### Heads (no program here) -/
/-- A section: its name, its epoch, how many bytes. -/
abbrev SectD := List UInt8 × Int × Int
def noS : SectD := ([], 0, 0)
def okS (s : SectD) : Bool := decide (s.1.length ≤ 255) && decide (0 ≤ s.2.1) && decide (s.2.1 < 281474976710656) && decide (1 ≤ s.2.2) && decide (s.2.2 ≤ 1048576)
/-- Is the section at a place right? -/
def stepS (T : List SectD) (k : Nat) : Bool := okS (T.getD k noS) && (decide (k = 0) || belowB (T.getD (k - 1) noS).1 (T.getD k noS).1)
def rightTo (T : List SectD) : Nat → Bool
  | 0 => true
  | k + 1 => rightTo T k && stepS T k
theorem rightTo_bad {T : List SectD} {k : Nat} (h : stepS T k = false) : ∀ m, k < m → rightTo T m = false
  | 0, h' => absurd h' (Nat.not_lt_zero _)
  | m + 1, h' => by
    rw [rightTo]
    by_cases e : k = m
    · subst e; rw [h, Bool.and_false]
    · rw [rightTo_bad h m (by omega)]; rfl
theorem rightTo_step {T : List SectD} {m : Nat} (h : rightTo T m = true) {k : Nat} (hk : k < m) : stepS T k = true := by
  cases e : stepS T k
  · rw [rightTo_bad e m hk] at h; cases h
  · rfl
def rightH (v : Int) (S : List UInt8) (r : Int) (N : List UInt8) (T : List SectD) : Bool :=
  decide (1 ≤ v) && decide (v ≤ 4) && decide (S.length = 16) && decide (N.length = 12) && decide (1 ≤ r) && decide (r ≤ 1048576) && decide (T.length ≤ 64) && rightTo T T.length
theorem rightH_bad {v : Int} {S : List UInt8} {r : Int} {N : List UInt8} {T : List SectD} (h : rightTo T T.length = false) : rightH v S r N T = false := by
  unfold rightH; rw [h, Bool.and_false]
theorem okS_iff {s : SectD} : okS s = true ↔ s.1.length ≤ 255 ∧ 0 ≤ s.2.1 ∧ s.2.1 < 281474976710656 ∧ 1 ≤ s.2.2 ∧ s.2.2 ≤ 1048576 := by
  unfold okS; simp only [Bool.and_eq_true, decide_eq_true_eq]; omega
theorem okS_false {s : SectD} (h : ¬ (s.1.length ≤ 255 ∧ 0 ≤ s.2.1 ∧ s.2.1 < 281474976710656 ∧ 1 ≤ s.2.2 ∧ s.2.2 ≤ 1048576)) : okS s = false := by
  cases e : okS s
  · rfl
  · exact absurd (okS_iff.1 e) h
theorem stepS_bad {T : List SectD} {k : Nat} (h : okS (T.getD k noS) = false) : stepS T k = false := by unfold stepS; rw [h]; rfl
theorem rightH_iff {v : Int} {S : List UInt8} {r : Int} {N : List UInt8} {T : List SectD} :
    rightH v S r N T = true ↔ 1 ≤ v ∧ v ≤ 4 ∧ S.length = 16 ∧ N.length = 12 ∧ 1 ≤ r ∧ r ≤ 1048576 ∧ T.length ≤ 64 ∧ rightTo T T.length = true := by
  unfold rightH; simp only [Bool.and_eq_true, decide_eq_true_eq]
  constructor
  · rintro ⟨⟨⟨⟨⟨⟨⟨a, b⟩, c⟩, d⟩, e⟩, f⟩, g⟩, h⟩; exact ⟨a, b, c, d, e, f, g, h⟩
  · rintro ⟨a, b, c, d, e, f, g, h⟩; exact ⟨⟨⟨⟨⟨⟨⟨a, b⟩, c⟩, d⟩, e⟩, f⟩, g⟩, h⟩
/-- Any section of a right head is right. -/
theorem right_ok {T : List SectD} (h : rightTo T T.length = true) {k : Nat} (hk : k < T.length) : okS T[k] = true := by
  have := rightTo_step h hk
  unfold stepS at this
  rw [Bool.and_eq_true] at this
  have h1 := this.1
  rwa [show T.getD k noS = T[k] by simp [List.getD, hk]] at h1
end Go.Proofs.Ytlcclaicodghcaa
