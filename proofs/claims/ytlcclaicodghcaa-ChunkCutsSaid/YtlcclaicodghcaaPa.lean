import Derived.Test.YtlcclaicodghcaaNc
import Derived.Lib.Bytealg
namespace Go.Proofs.Ytlcclaicodghcaa

/-! ### The order of rows (no program here) -/
/-- Is a row below another one? -/
def belowB (x y : List UInt8) : Bool := decide (Lib.compareBytes x y < 0)
theorem cmp_drop : ∀ (k : Nat) (x y : List UInt8), k ≤ x.length → k ≤ y.length → (∀ i (h : i < x.length) (h' : i < y.length), i < k → x[i] = y[i]) → Lib.compareBytes x y = Lib.compareBytes (x.drop k) (y.drop k)
  | 0, _, _, _, _, _ => rfl
  | k + 1, [], _, h, _, _ => by simp at h
  | k + 1, _ :: _, [], _, h, _ => by simp at h
  | k + 1, a :: x, b :: y, h, h', hi => by
    have e : a = b := hi 0 (by simp) (by simp) (by omega)
    subst e
    have ih := cmp_drop k x y (by simpa using h) (by simpa using h') fun i hx hy hk => hi (i + 1) (by simpa using hx) (by simpa using hy) (by omega)
    rw [List.drop_succ_cons, List.drop_succ_cons, ← ih, Lib.compareBytes]
    simp [UInt8.lt_irrefl]
theorem cmp_nil (x : List UInt8) : Lib.compareBytes x [] = if x.length = 0 then 0 else 1 := by
  cases x <;> simp [Lib.compareBytes]
theorem cmp_nil' (y : List UInt8) : Lib.compareBytes [] y = if y.length = 0 then 0 else -1 := by
  cases y <;> simp [Lib.compareBytes]
/-- The rows are alike up to a place, and there they part. -/
theorem below_at {x y : List UInt8} {k : Nat} (hx : k < x.length) (hy : k < y.length) (hi : ∀ i (h : i < x.length) (h' : i < y.length), i < k → x[i] = y[i]) (hne : ¬ x[k] = y[k]) : belowB x y = decide (x[k].toNat < y[k].toNat) := by
  unfold belowB
  rw [cmp_drop k x y (by omega) (by omega) hi, List.drop_eq_getElem_cons hx, List.drop_eq_getElem_cons hy, Lib.compareBytes]
  have h1 : (x[k] < y[k]) ↔ x[k].toNat < y[k].toNat := UInt8.lt_iff_toNat_lt
  have h2 : (y[k] < x[k]) ↔ y[k].toNat < x[k].toNat := UInt8.lt_iff_toNat_lt
  have h3 : ¬ x[k].toNat = y[k].toNat := fun e => hne (UInt8.toNat_inj.1 e)
  by_cases h : x[k].toNat < y[k].toNat
  · rw [if_pos (h1.2 h), decide_eq_true h]; rfl
  · rw [if_neg (fun e => h (h1.1 e)), if_pos (h2.2 (by omega)), decide_eq_false h]; rfl
/-- One of them is the other's beginning. -/
theorem below_end {x y : List UInt8} {k : Nat} (hx : k ≤ x.length) (hy : k ≤ y.length) (hk : k = x.length ∨ k = y.length) (hi : ∀ i (h : i < x.length) (h' : i < y.length), i < k → x[i] = y[i]) : belowB x y = decide (x.length < y.length) := by
  unfold belowB
  rw [cmp_drop k x y hx hy hi]
  rcases hk with hk | hk
  · rw [List.drop_of_length_le (by omega), cmp_nil', List.length_drop]
    by_cases h : y.length - k = 0
    · rw [if_pos h, decide_eq_false (by omega : ¬ x.length < y.length)]; rfl
    · rw [if_neg h, decide_eq_true (by omega : x.length < y.length)]; rfl
  · rw [List.drop_of_length_le (by omega : y.length ≤ k), cmp_nil, List.length_drop, decide_eq_false (by omega : ¬ x.length < y.length)]
    split <;> rfl
end Go.Proofs.Ytlcclaicodghcaa
