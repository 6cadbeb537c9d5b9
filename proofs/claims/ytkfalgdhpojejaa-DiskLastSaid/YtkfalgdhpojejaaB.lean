import Derived.Test.YtkfalgdhpojejaaBase
namespace Go.Proofs.Ytkfalgdhpojejaa
open Go.RowKit

def smallD (B : List (List UInt8)) (P : List PutD) (m : Int) : Bool :=
  decide ((B.length : Int) ≤ m) && (decide ((P.length : Int) ≤ m) && (!(B.any fun b => decide (100 < b.length)) && !(P.any fun p => decide (100 < p.2.length))))

theorem ret_bool' {a b : Bool} (h : a = b) : Ending.returned (.bool a) = .returned (.bool b) := by rw [h]
set_option maxHeartbeats 800000 in
theorem small_any (AB : Option Addr) (cb : Nat) (AP : Option Addr) (cp : Nat) (f m : Int) (w : World) (B : List (List UInt8)) (P : List PutD) (hB : RBB w AB B) (hP : RP w AP P) (hlB : B.length ≤ 140737488351232) (hlP : P.length ≤ 140737488351232) :
    Calls Try.prog 11 #[.agg #[.slice AB B.length cb, .slice AP P.length cp, .int .i64 f], .int .i64 m] w fun e w' => e = .returned (.bool (smallD B P m)) ∧ Below w.heap.size w w' := by
  have HB := Lib.hid hB
  have HP := Lib.hid hP
  clear hB hP
  by_cases h1 : m < B.length
  · have hs : smallD B P m = false := by simp [smallD]; omega
    rw [hs]
    clear hs
    go_enter Try.func11, Try.ntmps11
    go_wp2_with fail
    go_ret
    exact ⟨rfl, (Below.refl _ _).alloc (Nat.le_refl _) _⟩
  by_cases h2 : m < P.length
  · have hs : smallD B P m = false := by simp [smallD]; omega
    rw [hs]
    clear hs
    go_enter Try.func11, Try.ntmps11
    go_wp2_with fail
    go_ret
    exact ⟨rfl, (Below.refl _ _).alloc (Nat.le_refl _) _⟩
  have e0 : smallD B P m = (!(B.any fun b => decide (100 < b.length)) && !(P.any fun p => decide (100 < p.2.length))) := by
    simp only [smallD, decide_eq_true (Int.not_lt.1 h1), decide_eq_true (Int.not_lt.1 h2), Bool.true_and]
  rw [e0]
  clear e0
  have Hbl := Lib.hid (bl_alloc (Below.refl w.heap.size w) (.cells #[.slice AB B.length cb, .slice AP P.length cp, .int .i64 f] 25))
  go_enter Try.func11, Try.ntmps11
  go_wp2_with fail
  go_loop [5] (fun i => ∃ k : Nat, k ≤ B.length ∧ i = .int .i64 k ∧ Upto (fun b => decide (100 < b.length)) B k) (fun i => B.length - (intOf i).toNat)
  case atStart => exact ⟨0, Nat.zero_le _, rfl, Upto.zero _ _⟩
  case round =>
    obtain ⟨k, hk, rfl, Hr⟩ := hrel
    by_cases hlt : k < B.length
    · obtain ⟨b, off, rfl, A', c', hv1, hl1, hl2, hR⟩ := HB.out.some_ hlt
      replace hv1 := cell_ext Hbl.out hv1
      clear hR
      cases he : decide (100 < B[k].length)
      · have he' := of_decide_eq_false he
        have He := Lib.hid he
        clear he
        go_wp2_with fail
        go_round
        case rel => exact ⟨k + 1, by omega, by go_num, Hr.succ hlt He.out⟩
        case measure => simp [intOf]; omega
      · have he' := of_decide_eq_true he
        have Hs := Lib.hid (any_at (p := fun b => decide (100 < b.length)) hlt he)
        clear he
        go_wp2_with fail
        go_ret
        exact ⟨ret_bool' (by rw [Hs.out]; rfl), Hbl.out⟩
    · have Hs := Lib.hid (Hr.any (Nat.le_of_not_lt hlt))
      go_wp2_with fail
      go_loop [6] (fun i => ∃ k : Nat, k ≤ P.length ∧ i = .int .i64 k ∧ Upto (fun p => decide (100 < p.2.length)) P k) (fun i => P.length - (intOf i).toNat)
      case atStart => exact ⟨0, Nat.zero_le _, rfl, Upto.zero _ _⟩
      case round =>
        obtain ⟨k, hk, rfl, Hr⟩ := hrel
        by_cases hlt : k < P.length
        · obtain ⟨b, off, rfl, hv0, A', c', hv1, hl1, hl2, hR⟩ := HP.out.some_ hlt
          replace hv1 := cell_ext Hbl.out hv1
          clear hR hv0
          cases he : decide (100 < P[k].2.length)
          · have he' := of_decide_eq_false he
            have He := Lib.hid he
            clear he
            go_wp2_with fail
            go_round
            case rel => exact ⟨k + 1, by omega, by go_num, Hr.succ hlt He.out⟩
            case measure => simp [intOf]; omega
          · have he' := of_decide_eq_true he
            have Hs := Lib.hid (any_at (p := fun p => decide (100 < p.2.length)) hlt he)
            clear he
            go_wp2_with fail
            go_ret
            exact ⟨ret_bool' (by rw [Hs.out]; simp), Hbl.out⟩
        · have Hs' := Lib.hid (Hr.any (Nat.le_of_not_lt hlt))
          go_wp2_with fail
          go_ret
          exact ⟨ret_bool' (by rw [Hs.out, Hs'.out]; rfl), Hbl.out⟩
end Go.Proofs.Ytkfalgdhpojejaa
