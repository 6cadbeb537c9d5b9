import Derived.Test.YtkfalgdhpojejaaW
namespace Go.Proofs.Ytkfalgdhpojejaa
open Go.RowKit

theorem right_facts {B : List (List UInt8)} {P : List PutD} (h : rightD B P = true) : 1 ≤ B.length ∧ (∀ b ∈ B, b.length = 64) ∧ (∀ p ∈ P, (0 ≤ p.1 ∧ p.1 < B.length) ∧ p.2.length = 64) := by
  unfold rightD at h
  simp only [Bool.and_eq_true, decide_eq_true_eq, Bool.not_eq_true', List.any_eq_false, bne_iff_ne, ne_eq, Decidable.not_not] at h
  obtain ⟨h1, h2, h3⟩ := h
  refine ⟨h1.1, h2, fun p hp => ?_⟩
  have := h3 p hp
  simp only [oddP, Bool.or_eq_true, Bool.not_eq_true', decide_eq_false_iff_not, bne_iff_ne, ne_eq, not_or, Decidable.not_not] at this
  exact this
theorem right_okP {B : List (List UInt8)} {P : List PutD} (h : rightD B P = true) : okP B.length P := fun _ hk => ((right_facts h).2.2 _ (List.getElem_mem hk)).1
theorem may_facts {B : List (List UInt8)} {P : List PutD} (h : (smallD B P 40 && rightD B P) = true) : (B.length ≤ 40 ∧ P.length ≤ 40) ∧ rightD B P = true := by
  rw [Bool.and_eq_true] at h
  exact ⟨small_le h.1, h.2⟩
theorem c_may (AB : Option Addr) (cb : Nat) (AP : Option Addr) (cp : Nat) (f m : Int) (w : World) (B : List (List UInt8)) (P : List PutD) (hD : OkD w AB AP cp B P) (hlB : B.length ≤ 140737488351232) (hlP : P.length ≤ 140737488351232) (b : Bool) (hb : (smallD B P m && rightD B P) = b) :
    Calls Try.prog 22 #[.agg #[.slice AB B.length cb, .slice AP P.length cp, .int .i64 f], .int .i64 m] w fun e w' => e = .returned (.bool b) ∧ Below w.heap.size w w' := by
  subst hb; exact may_any AB cb AP cp f m w B P hD.1.plain hD.2.1.plain hlB hlP
theorem writeP_len {P : List PutD} {E at_ : Int} {bs : List UInt8} : (writeP P E at_ bs).length ≤ P.length + 1 := by unfold writeP; split <;> simp
theorem flushP_len {P : List PutD} {f : Int} : (flushP P f).length ≤ P.length := by unfold flushP; split <;> simp
theorem flushB_len {B : List (List UInt8)} {P : List PutD} {f : Int} : (flushB B P f).length = B.length := by unfold flushB; split; rfl; exact layTo_length ..
end Go.Proofs.Ytkfalgdhpojejaa
