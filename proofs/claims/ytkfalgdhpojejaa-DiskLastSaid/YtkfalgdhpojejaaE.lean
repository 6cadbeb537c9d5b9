import Derived.Test.YtkfalgdhpojejaaD
import Derived.Test.YtkfalgdhpojejaaB
namespace Go.Proofs.Ytkfalgdhpojejaa
open Go.RowKit

set_option maxHeartbeats 1000000 in
theorem rright_any (AB : Option Addr) (cb : Nat) (AP : Option Addr) (cp : Nat) (f : Int) (w : World) (B : List (List UInt8)) (P : List PutD) (hB : RBB w AB B) (hP : RP w AP P) (hlB : B.length ≤ 140737488351232) (hlP : P.length ≤ 140737488351232) :
    Calls Try.prog 14 #[.agg #[.slice AB B.length cb, .slice AP P.length cp, .int .i64 f]] w fun e w' => e = .returned (.bool (rightD B P)) ∧ Below w.heap.size w w' := by
  have HB := Lib.hid hB
  have HP := Lib.hid hP
  clear hB hP
  by_cases h1 : 1 ≤ B.length ∧ B.length ≤ 4096
  · have h1' := h1
    obtain ⟨h2, h3⟩ := h1'
    have e0 : rightD B P = (!(B.any fun b => b.length != 64) && !(P.any (oddP B.length))) := by simp only [rightD, decide_eq_true h1, Bool.true_and]
    rw [e0]
    clear h1 e0
    have Hb0 := Lib.hid (bl_alloc (Below.refl w.heap.size w) (.cells #[.slice AB B.length cb, .slice AP P.length cp, .int .i64 f] 25))
    go_enter Try.func14, Try.ntmps14
    go_wp2_with fail
    go_loop [3] (fun i => ∃ k : Nat, k ≤ B.length ∧ i = .int .i64 k ∧ Upto (fun b => b.length != 64) B k) (fun i => B.length - (intOf i).toNat)
    case atStart => exact ⟨0, Nat.zero_le _, rfl, Upto.zero _ _⟩
    case round =>
      obtain ⟨k, hk, rfl, Hr⟩ := hrel
      by_cases hlt : k < B.length
      · obtain ⟨b, off, rfl, A', c', hv1, hl1, hl2, hR⟩ := HB.out.some_ hlt
        replace hv1 := cell_ext Hb0.out hv1
        clear hR
        cases he : B[k].length != 64
        · have He := Lib.hid he
          have he' : ((B[k].length : Int) != 64) = false := by rw [← he]; exact ne_cast _ 64
          clear he
          go_wp2_with fail
          go_round
          case rel => exact ⟨k + 1, by omega, by go_num, Hr.succ hlt He.out⟩
          case measure => simp [intOf]; omega
        · have Hs := Lib.hid (any_at (p := fun b => b.length != 64) hlt he)
          have he' : ((B[k].length : Int) != 64) = true := by rw [← he]; exact ne_cast _ 64
          clear he
          go_wp2_with fail
          go_ret
          exact ⟨ret_bool (by rw [Hs.out]; rfl), Hb0.out⟩
      · have Hs := Lib.hid (Hr.any (Nat.le_of_not_lt hlt))
        go_wp2_with fail
        go_loopw [4] (fun i wr => ∃ k : Nat, k ≤ P.length ∧ i = .int .i64 k ∧ Upto (oddP B.length) P k ∧ ∃ n, wr = (w.alloc (.cells #[.slice AB B.length cb, .slice AP P.length cp, .int .i64 f] 25)).drewN n) (fun i _ => P.length - (intOf i).toNat)
        case atStart => exact ⟨0, Nat.zero_le _, rfl, Upto.zero _ _, 0, rfl⟩
        case round =>
          obtain ⟨k, hk, rfl, Hr, n, rfl⟩ := hrel
          by_cases hlt : k < P.length
          · obtain ⟨b, off, rfl, hv0, A', c', hv1, hl1, hl2, hR⟩ := HP.out.some_ hlt
            replace hv0 := cell_ext Hb0.out hv0
            replace hv1 := cell_ext Hb0.out hv1
            clear hR
            have hodd : oddP B.length P[k] = (decide (P[k].1 < 0) || (decide ((B.length : Int) ≤ P[k].1) || P[k].2.length != 64)) := by
              unfold oddP; rw [Bool.eq_iff_iff]; simp; omega
            have Hodd := Lib.hid hodd
            clear hodd
            cases h4 : decide (P[k].1 < 0)
            · cases h5 : decide ((B.length : Int) ≤ P[k].1)
              · cases h6 : P[k].2.length != 64
                · have H7 : Hid (oddP B.length P[k] = false) := by show _ = _; rw [Hodd.out, h4, h5, h6]; rfl
                  have h6' : ((P[k].2.length : Int) != 64) = false := by rw [← h6]; exact ne_cast _ 64
                  clear h6
                  go_wp2_with fail
                  go_quiet (fail)
                  go_wp2_with fail
                  go_roundw
                  case rel => exact ⟨k + 1, by omega, by go_num, Hr.succ hlt H7, _, rfl⟩
                  case measure => simp [intOf]; omega
                · have H7 := Lib.hid (any_at (p := oddP B.length) hlt (by rw [Hodd.out, h4, h5, h6]; rfl))
                  have h6' : ((P[k].2.length : Int) != 64) = true := by rw [← h6]; exact ne_cast _ 64
                  clear h6
                  go_wp2_with fail
                  go_quiet (fail)
                  go_wp2_with fail
                  go_ret
                  exact ⟨ret_bool (by rw [Hs.out, H7.out]; rfl), bl_drewN (bl_drewN Hb0.out _) _⟩
              · have H7 := Lib.hid (any_at (p := oddP B.length) hlt (by rw [Hodd.out, h4, h5]; rfl))
                go_wp2_with fail
                go_quiet (fail)
                go_wp2_with fail
                go_ret
                exact ⟨ret_bool (by rw [Hs.out, H7.out]; rfl), bl_drewN (bl_drewN Hb0.out _) _⟩
            · have H7 := Lib.hid (any_at (p := oddP B.length) hlt (by rw [Hodd.out, h4]; rfl))
              go_wp2_with fail
              go_quiet (fail)
              go_wp2_with fail
              go_ret
              exact ⟨ret_bool (by rw [Hs.out, H7.out]; rfl), bl_drewN (bl_drewN Hb0.out _) _⟩
          · have Hs' := Lib.hid (Hr.any (Nat.le_of_not_lt hlt))
            go_wp2_with fail
            go_ret
            exact ⟨ret_bool (by rw [Hs.out, Hs'.out]; rfl), bl_drewN Hb0.out _⟩
  · have e0 : rightD B P = false := by simp only [rightD, decide_eq_false h1, Bool.false_and]
    rw [e0]
    clear e0
    by_cases h2 : 1 ≤ B.length
    · have h3 : 4096 < B.length := by omega
      clear h1
      go_enter Try.func14, Try.ntmps14
      go_wp2_with fail
      go_ret
      exact ⟨rfl, bl_alloc (Below.refl _ _) _⟩
    · have h3 : B.length < 1 := by omega
      clear h1 h2
      go_enter Try.func14, Try.ntmps14
      go_wp2_with fail
      go_ret
      exact ⟨rfl, bl_alloc (Below.refl _ _) _⟩
end Go.Proofs.Ytkfalgdhpojejaa
