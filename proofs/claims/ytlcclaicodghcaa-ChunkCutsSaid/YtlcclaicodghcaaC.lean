import Derived.Test.YtlcclaicodghcaaB
import Derived.Laws.BitsAllLaws
import Derived.Laws.BitsLemmas
namespace Go.Proofs.Ytlcclaicodghcaa
open Go.RowKit

theorem c_within (A : Option Addr) (n c : Nat) (at_ : Int) (w : World) (b : Bool) (h : decide (0 ≤ at_ ∧ at_ ≤ n) = b) : Calls Try.prog 63 #[.slice A n c, .int .i64 at_] w fun e w' => e = .returned (.bool b) ∧ w = w' := by
  subst h; exact within_any A n c at_ w

theorem ret_i3 {k k' k'' : IntKind} {a a' b b' c c' : Int} (h1 : a = a') (h2 : b = b') (h3 : c = c') : Ending.returned (.tuple #[.int k a, .int k' b, .int k'' c]) = .returned (.tuple #[.int k a', .int k' b', .int k'' c']) := by rw [h1, h2, h3]
theorem ofInt_i64 (a : Nat) (ha : a < 9223372036854775808) : (BitVec.ofInt 64 (a : Int)).toNat = a := by
  rw [BitVec.ofInt_natCast, BitVec.toNat_ofNat]; exact Nat.mod_eq_of_lt (by omega)
theorem i64_and_nat (a b : Nat) (ha : a < 9223372036854775808) (hb : b < 9223372036854775808) : bits .and .i64 (a : Int) (b : Int) = ((a &&& b : Nat) : Int) := by
  have hx : a &&& b < 2 ^ 63 := Nat.and_lt_two_pow _ (by omega)
  show IntKind.i64.wrap ((BitVec.ofInt 64 (a : Int) &&& BitVec.ofInt 64 (b : Int)).toNat : Int) = _
  rw [BitVec.toNat_and, ofInt_i64 a ha, ofInt_i64 b hb, IntKind.wrap_i64]
  omega
theorem i64_or_nat (a b : Nat) (ha : a < 9223372036854775808) (hb : b < 9223372036854775808) : bits .or .i64 (a : Int) (b : Int) = ((a ||| b : Nat) : Int) := by
  have hx : a ||| b < 2 ^ 63 := Nat.or_lt_two_pow (by omega) (by omega)
  show IntKind.i64.wrap ((BitVec.ofInt 64 (a : Int) ||| BitVec.ofInt 64 (b : Int)).toNat : Int) = _
  rw [BitVec.toNat_or, ofInt_i64 a ha, ofInt_i64 b hb, IntKind.wrap_i64]
  omega
/-- A number's highest bits beside its lowest. -/
theorem or_add (a b i : Nat) (hb : b < 2 ^ i) (ha : a * 2 ^ i < 9223372036854775808) (hb' : b < 9223372036854775808) : bits .or .i64 ((a * 2 ^ i : Nat) : Int) (b : Int) = ((a * 2 ^ i + b : Nat) : Int) := by
  rw [i64_or_nat _ _ ha hb', ← Nat.shiftLeft_eq, ← Nat.shiftLeft_add_eq_or_of_lt hb]
theorem or_byte (x y : Nat) (hx : x ≤ 281474976710656) (hy : y ≤ 255) : bits .or .i64 ((x : Int) * 256) (y : Int) = (x : Int) * 256 + y := by
  have := or_add x y 8 (by omega) (by omega) (by omega)
  simpa using this

set_option maxRecDepth 20000 in
set_option maxHeartbeats 1000000 in
theorem takeNum_any (A : Option Addr) (c : Nat) (b : List UInt8) (at_ m : Int) (w : World) (hok : OkB w A c b) :
    Calls Try.prog 22 #[.slice A b.length c, .int .i64 at_, .int .i64 m] w fun e w' => e = .returned (.tuple #[.int .i64 (tnN b at_ m), .int .i64 (tnX b at_ m), .int .i64 (tnE b at_ m)]) ∧ w = w' := by
  have hlc := hok.2.1
  have hl := hok.2.2.1
  by_cases h : (1 ≤ m ∧ m ≤ 7) ∧ 0 ≤ at_ ∧ at_ ≤ b.length
  · obtain ⟨⟨h1, h2⟩, h3, h4⟩ := h
    obtain ⟨T, rfl⟩ := Int.eq_ofNat_of_zero_le h3
    obtain ⟨M, rfl⟩ := Int.eq_ofNat_of_zero_le (by omega : 0 ≤ m)
    have hw := Lib.hid (show decide ((0 : Int) ≤ T ∧ (T : Int) ≤ b.length) = true from decide_eq_true ⟨h3, h4⟩)
    by_cases h5 : (b.length : Int) - T < M
    · have hE : tnE b T M = 3 := by unfold tnE; rw [if_pos ⟨⟨h1, h2⟩, h3, h4⟩, if_pos h5]
      rw [show tnN b T M = 0 by unfold tnN; rw [hE]; rfl, show tnX b T M = 0 by unfold tnX; rw [hE]; rfl, hE]
      clear hE hok
      go_enter Try.func22, Try.ntmps22
      go_wp2_with (go_at_call 63; refine (c_within A b.length c T _ true hw.out).mono ?_; rintro e w1 ⟨rfl, rfl⟩)
      go_ret3
      exact ⟨rfl, rfl⟩
    · have hE : tnE b T M = 0 := by unfold tnE; rw [if_pos ⟨⟨h1, h2⟩, h3, h4⟩, if_neg h5]
      rw [show tnN b T M = (valB ((b.drop T).take M) : Int) by unfold tnN; rw [hE]; simp, show tnX b T M = (T : Int) + M by unfold tnX; rw [hE]; rfl, hE]
      obtain ⟨bk, off, rfl, hcell⟩ := hok.some_ (k := T) (by omega)
      have HC := Lib.hid hcell
      clear hE hok hcell
      go_enter Try.func22, Try.ntmps22
      go_wp2_with (go_at_call 63; refine (c_within _ b.length c T _ true hw.out).mono ?_; rintro e w1 ⟨rfl, rfl⟩)
      go_loop [9, 39] (fun v i => ∃ k x : Nat, k ≤ M ∧ i = .int .i64 k ∧ v = .int .i64 x ∧ Hid (x = valB ((b.drop T).take k))) (fun _ i => M - (intOf i).toNat)
      case atStart => exact ⟨0, 0, Nat.zero_le _, rfl, rfl, rfl⟩
      case round =>
        obtain ⟨k, x, hk, rfl, rfl, hx⟩ := hrel
        by_cases hlt : k < M
        · have hkb : T + k < b.length := by omega
          obtain ⟨y, hy⟩ : ∃ y, b[T + k] = y := ⟨_, rfl⟩
          have hc := HC.out (T + k) hkb
          rw [hy, ← Nat.add_assoc] at hc
          have hs : (b.drop T).take (k + 1) = (b.drop T).take k ++ [y] := by
            rw [List.take_succ_eq_append_getElem (by simp; omega)]; simp [hy]
          have hv := Lib.hid (show valB ((b.drop T).take (k + 1)) = x * 256 + y.toNat by rw [hs, valB_snoc, hx.out])
          have hx1 : x ≤ 281474976710656 := by
            have := valB_lt ((b.drop T).take k)
            have h7 : ((b.drop T).take k).length ≤ 6 := by simp; omega
            have h8 : 256 ^ ((b.drop T).take k).length ≤ 256 ^ 6 := Nat.pow_le_pow_right (by omega) h7
            rw [hx.out]
            exact Nat.le_trans (Nat.le_of_lt this) h8
          have hy1 : y.toNat ≤ 255 := by have := y.toNat_lt; omega
          have ho := or_byte x y.toNat hx1 hy1
          clear hs hy
          go_wp2_with fail
          go_round
          case rel => exact ⟨k + 1, x * 256 + y.toNat, by omega, by go_num, by go_num, hv.out.symm⟩
          case measure => simp [intOf]; omega
        · have HE : Hid (k = M) := by show _ = _; omega
          go_wp2_with fail
          go_ret3
          exact ⟨ret_i3 (by rw [hx.out, HE.out]) rfl rfl, rfl⟩
  · have hE : tnE b at_ m = 1 := by unfold tnE; rw [if_neg h]
    rw [show tnN b at_ m = 0 by unfold tnN; rw [hE]; rfl, show tnX b at_ m = 0 by unfold tnX; rw [hE]; rfl, hE]
    have hd : m < 1 ∨ (1 ≤ m ∧ 7 < m) ∨ (1 ≤ m ∧ m ≤ 7 ∧ ¬ (0 ≤ at_ ∧ at_ ≤ b.length)) := by omega
    clear hE hok h
    rcases hd with hd | ⟨hd, hd'⟩ | ⟨hd, hd', hd2⟩
    · go_enter Try.func22, Try.ntmps22
      go_wp2_with fail
      go_ret3
      exact ⟨rfl, rfl⟩
    · go_enter Try.func22, Try.ntmps22
      go_wp2_with fail
      go_ret3
      exact ⟨rfl, rfl⟩
    · have hw := Lib.hid (decide_eq_false hd2)
      clear hd2
      go_enter Try.func22, Try.ntmps22
      go_wp2_with (go_at_call 63; refine (c_within A b.length c at_ _ false hw.out).mono ?_; rintro e w1 ⟨rfl, rfl⟩)
      go_ret3
      exact ⟨rfl, rfl⟩

set_option maxRecDepth 20000 in
set_option maxHeartbeats 1000000 in
theorem rtakeNum_any (A : Option Addr) (c : Nat) (b : List UInt8) (at_ m : Int) (w : World) (hok : OkB w A c b) :
    Calls Try.prog 23 #[.slice A b.length c, .int .i64 at_, .int .i64 m] w fun e w' => e = .returned (.tuple #[.int .i64 (tnN b at_ m), .int .i64 (tnX b at_ m), .int .i64 (tnE b at_ m)]) ∧ w = w' := by
  have hlc := hok.2.1
  have hl := hok.2.2.1
  by_cases h : (1 ≤ m ∧ m ≤ 7) ∧ 0 ≤ at_ ∧ at_ ≤ b.length
  · obtain ⟨⟨h1, h2⟩, h3, h4⟩ := h
    obtain ⟨T, rfl⟩ := Int.eq_ofNat_of_zero_le h3
    obtain ⟨M, rfl⟩ := Int.eq_ofNat_of_zero_le (by omega : 0 ≤ m)
    have h4' : decide (b.length < T) = false := decide_eq_false (by omega)
    by_cases h5 : (b.length : Int) - T < M
    · have hE : tnE b T M = 3 := by unfold tnE; rw [if_pos ⟨⟨h1, h2⟩, h3, h4⟩, if_pos h5]
      rw [show tnN b T M = 0 by unfold tnN; rw [hE]; rfl, show tnX b T M = 0 by unfold tnX; rw [hE]; rfl, hE]
      clear hE hok
      go_enter Try.func23, Try.ntmps23
      go_wp2_with fail
      go_ret3
      exact ⟨rfl, rfl⟩
    · have hE : tnE b T M = 0 := by unfold tnE; rw [if_pos ⟨⟨h1, h2⟩, h3, h4⟩, if_neg h5]
      rw [show tnN b T M = (valB ((b.drop T).take M) : Int) by unfold tnN; rw [hE]; simp, show tnX b T M = (T : Int) + M by unfold tnX; rw [hE]; rfl, hE]
      obtain ⟨bk, off, rfl, hcell⟩ := hok.some_ (k := T) (by omega)
      have HC := Lib.hid hcell
      clear hE hok hcell
      go_enter Try.func23, Try.ntmps23
      go_wp2_with fail
      go_loop [9, 10] (fun v i => ∃ k x : Nat, k ≤ M ∧ i = .int .i64 k ∧ v = .int .i64 x ∧ Hid (x = valB ((b.drop T).take k))) (fun _ i => M - (intOf i).toNat)
      case atStart => exact ⟨0, 0, Nat.zero_le _, rfl, rfl, rfl⟩
      case round =>
        obtain ⟨k, x, hk, rfl, rfl, hx⟩ := hrel
        by_cases hlt : k < M
        · have hkb : T + k < b.length := by omega
          obtain ⟨y, hy⟩ : ∃ y, b[T + k] = y := ⟨_, rfl⟩
          have hc := HC.out (T + k) hkb
          rw [hy] at hc
          have hs : (b.drop T).take (k + 1) = (b.drop T).take k ++ [y] := by
            rw [List.take_succ_eq_append_getElem (by simp; omega)]; simp [hy]
          have hv := Lib.hid (show valB ((b.drop T).take (k + 1)) = x * 256 + y.toNat by rw [hs, valB_snoc, hx.out])
          have hx1 : x ≤ 281474976710656 := by
            have := valB_lt ((b.drop T).take k)
            have h7 : ((b.drop T).take k).length ≤ 6 := by simp; omega
            have h8 : 256 ^ ((b.drop T).take k).length ≤ 256 ^ 6 := Nat.pow_le_pow_right (by omega) h7
            rw [hx.out]
            exact Nat.le_trans (Nat.le_of_lt this) h8
          have hy1 : y.toNat ≤ 255 := by have := y.toNat_lt; omega
          clear hs hy
          go_wp2_with fail
          go_round
          case rel => exact ⟨k + 1, x * 256 + y.toNat, by omega, by go_num, by go_num, hv.out.symm⟩
          case measure => simp [intOf]; omega
        · have HE : Hid (k = M) := by show _ = _; omega
          go_wp2_with fail
          go_ret3
          exact ⟨ret_i3 (by rw [hx.out, HE.out]) rfl rfl, rfl⟩
  · have hE : tnE b at_ m = 1 := by unfold tnE; rw [if_neg h]
    rw [show tnN b at_ m = 0 by unfold tnN; rw [hE]; rfl, show tnX b at_ m = 0 by unfold tnX; rw [hE]; rfl, hE]
    have hd : m < 1 ∨ (1 ≤ m ∧ 7 < m) ∨ (1 ≤ m ∧ m ≤ 7 ∧ at_ < 0) ∨ (1 ≤ m ∧ m ≤ 7 ∧ 0 ≤ at_ ∧ (b.length : Int) < at_) := by omega
    clear hE hok h
    rcases hd with hd | ⟨hd, hd'⟩ | ⟨hd, hd', hd2⟩ | ⟨hd, hd', hd2, hd3⟩
    all_goals
      go_enter Try.func23, Try.ntmps23
      go_wp2_with fail
      go_ret3
      exact ⟨rfl, rfl⟩
end Go.Proofs.Ytlcclaicodghcaa
