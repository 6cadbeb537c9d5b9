import Derived.Test.YtlcclaicodghcaaC
import Derived.Test.YtlcclaicodghcaaNb
namespace Go.Proofs.Ytlcclaicodghcaa
open Go.RowKit

theorem c_num (n m E : Int) (L : List UInt8) (w : World) (hn : -9223372036854775808 ≤ n) (hn' : n ≤ 9223372036854775807) (hE : numE n m = E) (hL : numL n m = L) :
    Calls Try.prog 20 #[.int .i64 n, .int .i64 m] w fun e w' => (∃ A c, e = .returned (.tuple #[.slice A L.length c, .int .i64 E]) ∧ OwnB w' w.heap.size A c L) ∧ Below w.heap.size w w' := by
  subst hE hL; exact num_any n m w hn hn'
theorem c_rnum (n m E : Int) (L : List UInt8) (w : World) (hn : -9223372036854775808 ≤ n) (hn' : n ≤ 9223372036854775807) (hE : numE n m = E) (hL : numL n m = L) :
    Calls Try.prog 21 #[.int .i64 n, .int .i64 m] w fun e w' => (∃ A c, e = .returned (.tuple #[.slice A L.length c, .int .i64 E]) ∧ OwnB w' w.heap.size A c L) ∧ Below w.heap.size w w' := by
  subst hE hL; exact rnum_any n m w hn hn'
theorem c_takeNum (A : Option Addr) (c : Nat) (b : List UInt8) (at_ m N X E : Int) (w : World) (hok : OkB w A c b) (hN : tnN b at_ m = N) (hX : tnX b at_ m = X) (hE : tnE b at_ m = E) :
    Calls Try.prog 22 #[.slice A b.length c, .int .i64 at_, .int .i64 m] w fun e w' => e = .returned (.tuple #[.int .i64 N, .int .i64 X, .int .i64 E]) ∧ w = w' := by
  subst hE hN hX; exact takeNum_any A c b at_ m w hok
theorem c_rtakeNum (A : Option Addr) (c : Nat) (b : List UInt8) (at_ m N X E : Int) (w : World) (hok : OkB w A c b) (hN : tnN b at_ m = N) (hX : tnX b at_ m = X) (hE : tnE b at_ m = E) :
    Calls Try.prog 23 #[.slice A b.length c, .int .i64 at_, .int .i64 m] w fun e w' => e = .returned (.tuple #[.int .i64 N, .int .i64 X, .int .i64 E]) ∧ w = w' := by
  subst hE hN hX; exact rtakeNum_any A c b at_ m w hok

/-! ### Lengths -/
theorem or_top (b a i : Nat) (hb : b < 2 ^ i) (ha : a * 2 ^ i < 9223372036854775808) (hb' : b < 9223372036854775808) : bits .or .i64 (b : Int) ((a * 2 ^ i : Nat) : Int) = ((a * 2 ^ i + b : Nat) : Int) := by
  rw [i64_or_nat _ _ hb' ha, Nat.or_comm, ← Nat.shiftLeft_eq, ← Nat.shiftLeft_add_eq_or_of_lt hb]
theorem or_z (n : Int) (h0 : 0 ≤ n) (h1 : n < 64) : bits .or .i64 n 0 = n := by
  obtain ⟨N, rfl⟩ := Int.eq_ofNat_of_zero_le h0
  have := or_top N 0 6 (by omega) (by omega) (by omega)
  simpa using this
theorem or_2 (n : Int) (h0 : 0 ≤ n) (h1 : n < 16384) : bits .or .i64 n 16384 = 16384 + n := by
  obtain ⟨N, rfl⟩ := Int.eq_ofNat_of_zero_le h0
  have := or_top N 1 14 (by omega) (by omega) (by omega)
  simpa using this
theorem or_4 (n : Int) (h0 : 0 ≤ n) (h1 : n < 1073741824) : bits .or .i64 n 2147483648 = 2147483648 + n := by
  obtain ⟨N, rfl⟩ := Int.eq_ofNat_of_zero_le h0
  have := or_top N 2 30 (by omega) (by omega) (by omega)
  simpa using this
theorem numE_in {n : Int} {w : Nat} (h1 : 1 ≤ w) (h2 : w ≤ 7) (h3 : 0 ≤ n) (h4 : n < ((256 ^ w : Nat) : Int)) : numE n w = 0 ∧ numL n w = numB n.toNat w := by
  have : okN n w := ⟨by omega, h3, by rw [Int.toNat_natCast]; exact h4⟩
  exact ⟨if_pos this, by unfold numL; rw [if_pos this, Int.toNat_natCast]⟩

set_option maxRecDepth 20000 in
set_option maxHeartbeats 1000000 in
theorem len_any (n : Int) (w : World) : Calls Try.prog 25 #[.int .i64 n] w fun e w' => (∃ A c, e = .returned (.tuple #[.slice A (lenL n).length c, .int .i64 (lenE n)]) ∧ OwnB w' w.heap.size A c (lenL n)) ∧ Below w.heap.size w w' := by
  by_cases h : 0 ≤ n ∧ n ≤ 1073741823
  · have hE : lenE n = 0 := if_pos h
    obtain ⟨h0, h1⟩ := h
    have hL : lenL n = numB (lenV n).toNat (lenW n) := by unfold lenL; rw [if_pos hE]
    rw [hE]
    clear hE
    have hd : n < 64 ∨ (64 ≤ n ∧ n < 16384) ∨ (16384 ≤ n) := by omega
    rcases hd with hd | ⟨hd, hd'⟩ | hd
    · have hW := Lib.hid (show (lenW n : Int) = 1 by unfold lenW; rw [if_pos hd]; rfl)
      have hT := Lib.hid (show lenT n = 0 from if_pos hd)
      have hL' : lenL n = numB n.toNat 1 := by rw [hL]; unfold lenV lenW; rw [if_pos hd, if_pos hd]
      obtain ⟨h5, h6⟩ := numE_in (n := n) (w := 1) (by omega) (by omega) h0 (by omega)
      obtain ⟨L, hl⟩ : ∃ L, numB n.toNat 1 = L := ⟨_, rfl⟩
      rw [hl] at h6 hL'
      rw [hL']
      have H5 := Lib.hid h5
      have H6 := Lib.hid h6
      have ho := or_z n h0 hd
      clear hL hL' h5 h6 hl
      go_enter Try.func25, Try.ntmps25
      go_wp2_with (first | (go_at_call 64; refine (c_wide n _ 1 0 hW.out hT.out).mono ?_; rintro e w1 ⟨rfl, rfl⟩) | (go_at_call 20; refine (c_num n 1 0 L _ (by omega) (by omega) H5.out H6.out).mono ?_; rintro e w2 ⟨⟨A, c, rfl, hO⟩, hb⟩))
      go_ret2
      exact ⟨⟨A, c, rfl, hO⟩, hb⟩
    · have hW := Lib.hid (show (lenW n : Int) = 2 by unfold lenW; rw [if_neg (by omega), if_pos hd']; rfl)
      have hT := Lib.hid (show lenT n = 1 by unfold lenT; rw [if_neg (by omega), if_pos hd'])
      have hL' : lenL n = numB (16384 + n).toNat 2 := by rw [hL]; unfold lenV lenW; rw [if_neg (by omega), if_pos hd', if_neg (by omega), if_pos hd']
      obtain ⟨h5, h6⟩ := numE_in (n := 16384 + n) (w := 2) (by omega) (by omega) (by omega) (by omega)
      obtain ⟨L, hl⟩ : ∃ L, numB (16384 + n).toNat 2 = L := ⟨_, rfl⟩
      rw [hl] at h6 hL'
      rw [hL']
      have H5 := Lib.hid h5
      have H6 := Lib.hid h6
      have ho := or_2 n h0 hd'
      clear hL hL' h5 h6 hl
      go_enter Try.func25, Try.ntmps25
      go_wp2_with (first | (go_at_call 64; refine (c_wide n _ 2 1 hW.out hT.out).mono ?_; rintro e w1 ⟨rfl, rfl⟩) | (go_at_call 20; refine (c_num (16384 + n) 2 0 L _ (by omega) (by omega) H5.out H6.out).mono ?_; rintro e w2 ⟨⟨A, c, rfl, hO⟩, hb⟩))
      go_ret2
      exact ⟨⟨A, c, rfl, hO⟩, hb⟩
    · have hW := Lib.hid (show (lenW n : Int) = 4 by unfold lenW; rw [if_neg (by omega), if_neg (by omega)]; rfl)
      have hT := Lib.hid (show lenT n = 2 by unfold lenT; rw [if_neg (by omega), if_neg (by omega)])
      have hL' : lenL n = numB (2147483648 + n).toNat 4 := by rw [hL]; unfold lenV lenW; rw [if_neg (by omega), if_neg (by omega), if_neg (by omega), if_neg (by omega)]
      obtain ⟨h5, h6⟩ := numE_in (n := 2147483648 + n) (w := 4) (by omega) (by omega) (by omega) (by omega)
      obtain ⟨L, hl⟩ : ∃ L, numB (2147483648 + n).toNat 4 = L := ⟨_, rfl⟩
      rw [hl] at h6 hL'
      rw [hL']
      have H5 := Lib.hid h5
      have H6 := Lib.hid h6
      have ho := or_4 n h0 (by omega)
      clear hL hL' h5 h6 hl
      go_enter Try.func25, Try.ntmps25
      go_wp2_with (first | (go_at_call 64; refine (c_wide n _ 4 2 hW.out hT.out).mono ?_; rintro e w1 ⟨rfl, rfl⟩) | (go_at_call 20; refine (c_num (2147483648 + n) 4 0 L _ (by omega) (by omega) H5.out H6.out).mono ?_; rintro e w2 ⟨⟨A, c, rfl, hO⟩, hb⟩))
      go_ret2
      exact ⟨⟨A, c, rfl, hO⟩, hb⟩
  · have hE : lenE n = 1 := if_neg h
    have hL : lenL n = [] := by unfold lenL; rw [if_neg (by rw [hE]; decide)]
    rw [hE, hL]
    have hd : n < 0 ∨ (0 ≤ n ∧ 1073741823 < n) := by omega
    clear h hE hL
    rcases hd with hd | ⟨hd, hd'⟩
    all_goals
      go_enter Try.func25, Try.ntmps25
      go_wp2_with fail
      go_ret2
      exact ⟨⟨none, 0, rfl, own_nil _ _⟩, Below.refl _ _⟩
end Go.Proofs.Ytlcclaicodghcaa
