import Derived.Test.YtkfalgdhpojejaaA
namespace Go.Proofs.Ytkfalgdhpojejaa
open Go.RowKit

def rightD (B : List (List UInt8)) (P : List PutD) : Bool := decide (1 ≤ B.length ∧ B.length ≤ 4096) && (!(B.any fun b => b.length != 64) && !(P.any (oddP B.length)))

set_option maxHeartbeats 400000 in
theorem right_any (AB : Option Addr) (cb : Nat) (AP : Option Addr) (cp : Nat) (f : Int) (w : World) (B : List (List UInt8)) (P : List PutD) (hB : RBB w AB B) (hP : RP w AP P) (hlB : B.length ≤ 140737488351232) (hlP : P.length ≤ 140737488351232) :
    Calls Try.prog 16 #[.agg #[.slice AB B.length cb, .slice AP P.length cp, .int .i64 f]] w fun e w' => e = .returned (.bool (rightD B P)) ∧ Below w.heap.size w w' := by
  by_cases h1 : 1 ≤ B.length ∧ B.length ≤ 4096
  · have h1' := h1
    obtain ⟨h2, h3⟩ := h1'
    have e0 : rightD B P = (!(B.any fun b => b.length != 64) && !(P.any (oddP B.length))) := by simp only [rightD, decide_eq_true h1, Bool.true_and]
    rw [e0]
    clear h1 e0
    have hb0 := bl_alloc (bl_alloc (Below.refl w.heap.size w) (.cells #[.slice AB B.length cb, .slice AP P.length cp, .int .i64 f] 25)) (.cells #[.func (.func 32) #[] #[]] 68)
    have HC := Lib.hid (contains35_any AB cb B _ hlB (hB.ext hb0))
    have HC' := Lib.hid (contains36_any AP cp P _ hlP (hP.ext hb0) AB B.length cb AP P.length cp f w.heap.size (by simp) (by simp) (by simp) (by simp))
    have Hb0 := Lib.hid hb0
    clear hb0 hB hP
    cases hx : B.any fun b => b.length != 64
    · rw [hx] at HC
      have Hx := Lib.hid hx
      clear hx
      go_enter Try.func16, Try.ntmps16
      go_wp2_with (first | (go_at_call 35; refine HC.out.mono ?_; rintro e w' ⟨rfl, rfl⟩) | (go_at_call 36; refine HC'.out.mono ?_; rintro e w' ⟨rfl, hb⟩; have Hb := Lib.hid hb; clear hb))
      go_ret
      exact ⟨ret_bool (by simp), bl_then Hb0.out Hb.out⟩
    · rw [hx] at HC
      have Hx := Lib.hid hx
      clear hx
      go_enter Try.func16, Try.ntmps16
      go_wp2_with (first | (go_at_call 35; refine HC.out.mono ?_; rintro e w' ⟨rfl, rfl⟩))
      go_ret
      exact ⟨ret_bool (by simp), Hb0.out⟩
  · have e0 : rightD B P = false := by simp only [rightD, decide_eq_false h1, Bool.false_and]
    rw [e0]
    clear e0
    by_cases h2 : 1 ≤ B.length
    · have h3 : 4096 < B.length := by omega
      clear h1 hB hP
      go_enter Try.func16, Try.ntmps16
      go_wp2_with fail
      go_ret
      exact ⟨rfl, bl_alloc (bl_alloc (Below.refl _ _) _) _⟩
    · have h3 : B.length = 0 := by omega
      clear h1 h2 hB hP
      go_enter Try.func16, Try.ntmps16
      go_wp2_with fail
      go_ret
      exact ⟨rfl, bl_alloc (bl_alloc (Below.refl _ _) _) _⟩
end Go.Proofs.Ytkfalgdhpojejaa
