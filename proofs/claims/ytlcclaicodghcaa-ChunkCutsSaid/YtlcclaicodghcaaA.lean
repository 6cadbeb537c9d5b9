import Derived.Test.YtlcclaicodghcaaBase
namespace Go.Proofs.Ytlcclaicodghcaa
open Go.RowKit

set_option maxHeartbeats 400000 in
theorem power_any (n : Int) (w : World) (h0 : 0 ≤ n) (h1 : n ≤ 7) : Calls Try.prog 62 #[.int .i64 n] w fun e w' => e = .returned (.int .i64 ((256 ^ n.toNat : Nat) : Int)) ∧ w = w' := by
  obtain ⟨N, rfl⟩ := Int.eq_ofNat_of_zero_le h0
  rw [Int.toNat_natCast]
  go_enter Try.func62, Try.ntmps62
  go_wp2_with fail
  go_loop [3, 4] (fun v i => ∃ k p : Nat, k ≤ N ∧ i = .int .i64 k ∧ v = .int .i64 p ∧ Hid (p = 256 ^ k)) (fun _ i => N - (intOf i).toNat)
  case atStart => exact ⟨0, 1, Nat.zero_le _, rfl, rfl, rfl⟩
  case round =>
    obtain ⟨k, p, hk, rfl, rfl, hp⟩ := hrel
    by_cases hlt : k < N
    · have hb : p ≤ 281474976710656 := by
        rw [hp.out]
        calc 256 ^ k ≤ 256 ^ 6 := Nat.pow_le_pow_right (by omega) (by omega)
          _ = 281474976710656 := rfl
      go_wp2_with fail
      go_round
      case rel => exact ⟨k + 1, 256 * p, by omega, by go_num, by go_num, by show _ = _; rw [hp.out, Nat.pow_succ, Nat.mul_comm]⟩
      case measure => simp [intOf]; omega
    · have hk' : Hid (k = N) := by show _ = _; omega
      go_wp2_with fail
      go_ret
      exact ⟨ret_int (by rw [hp.out, hk'.out]; simp), rfl⟩

set_option maxHeartbeats 400000 in
theorem within_any (A : Option Addr) (n c : Nat) (at_ : Int) (w : World) : Calls Try.prog 63 #[.slice A n c, .int .i64 at_] w fun e w' => e = .returned (.bool (decide (0 ≤ at_ ∧ at_ ≤ n))) ∧ w = w' := by
  by_cases h0 : 0 ≤ at_
  · go_enter Try.func63, Try.ntmps63
    go_wp2
    go_ret
    exact ⟨ret_bool (by simp [h0]), rfl⟩
  · go_enter Try.func63, Try.ntmps63
    go_wp2
    go_ret
    exact ⟨ret_bool (by rw [decide_eq_false (Int.not_le.2 h0)]; rfl), rfl⟩

/-- The two highest bits that tell how many bytes a length takes. -/
def lenT (n : Int) : Int := if n < 64 then 0 else if n < 16384 then 1 else 2
set_option maxHeartbeats 400000 in
theorem wide_any (n : Int) (w : World) : Calls Try.prog 64 #[.int .i64 n] w fun e w' => e = .returned (.tuple #[.int .i64 (lenW n : Int), .int .i64 (lenT n)]) ∧ w = w' := by
  by_cases h1 : n < 64
  · rw [show lenW n = 1 from if_pos h1, show lenT n = 0 from if_pos h1]
    go_enter Try.func64, Try.ntmps64
    go_wp2
    go_ret2
    exact ⟨rfl, rfl⟩
  · by_cases h2 : n < 16384
    · rw [show lenW n = 2 by unfold lenW; rw [if_neg h1, if_pos h2], show lenT n = 1 by unfold lenT; rw [if_neg h1, if_pos h2]]
      go_enter Try.func64, Try.ntmps64
      go_wp2
      go_ret2
      exact ⟨rfl, rfl⟩
    · rw [show lenW n = 4 by unfold lenW; rw [if_neg h1, if_neg h2], show lenT n = 2 by unfold lenT; rw [if_neg h1, if_neg h2]]
      go_enter Try.func64, Try.ntmps64
      go_wp2
      go_ret2
      exact ⟨rfl, rfl⟩
theorem c_wide (n : Int) (w : World) (N T : Int) (hN : (lenW n : Int) = N) (hT : lenT n = T) : Calls Try.prog 64 #[.int .i64 n] w fun e w' => e = .returned (.tuple #[.int .i64 N, .int .i64 T]) ∧ w = w' := by
  subst hN hT; exact wide_any n w

def worthI (r : Int) : Int := if 48 ≤ r ∧ r ≤ 57 then r - 48 else if 97 ≤ r ∧ r ≤ 102 then r - 87 else -1
set_option maxHeartbeats 400000 in
theorem worth_any (r : Int) (w : World) : Calls Try.prog 67 #[.int .i32 r] w fun e w' => e = .returned (.int .i64 (worthI r)) ∧ w = w' := by
  by_cases h1 : 48 ≤ r
  · by_cases h2 : r ≤ 57
    · rw [show worthI r = r - 48 from if_pos ⟨h1, h2⟩]
      go_enter Try.func67, Try.ntmps67
      go_wp2
      go_ret
      exact ⟨rfl, rfl⟩
    · by_cases h3 : 97 ≤ r
      · by_cases h4 : r ≤ 102
        · rw [show worthI r = r - 87 by unfold worthI; rw [if_neg (fun h => h2 h.2), if_pos ⟨h3, h4⟩]]
          go_enter Try.func67, Try.ntmps67
          go_wp2
          go_ret
          exact ⟨ret_int (by omega), rfl⟩
        · rw [show worthI r = -1 by unfold worthI; rw [if_neg (fun h => h2 h.2), if_neg (fun h => h4 h.2)]]
          go_enter Try.func67, Try.ntmps67
          go_wp2
          go_ret
          exact ⟨rfl, rfl⟩
      · rw [show worthI r = -1 by unfold worthI; rw [if_neg (fun h => h2 h.2), if_neg (fun h => h3 h.1)]]
        go_enter Try.func67, Try.ntmps67
        go_wp2
        go_ret
        exact ⟨rfl, rfl⟩
  · rw [show worthI r = -1 by unfold worthI; rw [if_neg (fun h => h1 h.1), if_neg (by omega)]]
    go_enter Try.func67, Try.ntmps67
    go_wp2
    go_ret
    exact ⟨rfl, rfl⟩
/-- The string of bytes. -/
def strOf (bs : List UInt8) : ByteArray := ⟨bs.toArray⟩
theorem figs : ∀ k, k < 16 → (⟨#[48, 49, 50, 51, 52, 53, 54, 55, 56, 57, 97, 98, 99, 100, 101, 102]⟩ : ByteArray).extract k (k + 1) = strOf [fig k] := by decide
set_option maxHeartbeats 400000 in
theorem figure_any (n : Int) (w : World) (h0 : 0 ≤ n) (h1 : n < 16) : Calls Try.prog 69 #[.int .i64 n] w fun e w' => e = .returned (.string (strOf [fig n.toNat])) ∧ w = w' := by
  obtain ⟨N, rfl⟩ := Int.eq_ofNat_of_zero_le h0
  rw [Int.toNat_natCast]
  have hf := figs N (by omega)
  have Hf := Lib.hid hf
  clear hf
  go_enter Try.func69, Try.ntmps69
  go_wp2
  go_ret
  exact ⟨ret_str Hf.out, rfl⟩
end Go.Proofs.Ytlcclaicodghcaa
