import Derived.Test.YtlcclaicodghcaaD
namespace Go.Proofs.Ytlcclaicodghcaa
open Go.RowKit

theorem own_two (W : World) (n : Nat) (hn : n = W.heap.size) (x y : UInt8) : OwnB (W.alloc (.cells #[.int .u8 (x.toNat : Int), .int .u8 (y.toNat : Int)] 5)) n (some ⟨n, 0, none⟩) 2 [x, y] := by
  subst hn
  exact ⟨World.ownsRow_lit (base := W.heap.size) W #[.int .u8 (x.toNat : Int), .int .u8 (y.toNat : Int)] 2 (Nat.le_refl _) (by simp [maxLen]) (by simp), by simp⟩

set_option maxRecDepth 20000 in
set_option maxHeartbeats 1000000 in
theorem rlen_any (n : Int) (w : World) : Calls Try.prog 26 #[.int .i64 n] w fun e w' => (∃ A c, e = .returned (.tuple #[.slice A (lenL n).length c, .int .i64 (lenE n)]) ∧ OwnB w' w.heap.size A c (lenL n)) ∧ Below w.heap.size w w' := by
  by_cases h : 0 ≤ n ∧ n ≤ 1073741823
  · have hE : lenE n = 0 := if_pos h
    obtain ⟨h0, h1⟩ := h
    have hL : lenL n = numB (lenV n).toNat (lenW n) := by unfold lenL; rw [if_pos hE]
    rw [hE]
    clear hE
    have hd : n < 64 ∨ (64 ≤ n ∧ n < 16384) ∨ (16384 ≤ n) := by omega
    rcases hd with hd | ⟨hd, hd'⟩ | hd
    · obtain ⟨x, rfl⟩ : ∃ x : UInt8, n = (x.toNat : Int) := ⟨UInt8.ofNat n.toNat, by rw [UInt8.toNat_ofNat']; omega⟩
      have hL' : lenL (x.toNat : Int) = [x] := by
        rw [hL]; unfold lenV lenW; rw [if_pos hd, if_pos hd]; simp [numB]
      rw [hL']
      clear hL hL'
      go_enter Try.func26, Try.ntmps26
      go_wp2_with fail
      go_ret2
      exact ⟨⟨some ⟨w.heap.size, 0, none⟩, 1, rfl, own_one _ _ rfl x⟩, bl_alloc (Below.refl _ _) _⟩
    · obtain ⟨x, hx⟩ : ∃ x : UInt8, 64 + n / 256 = (x.toNat : Int) := ⟨UInt8.ofNat (64 + n / 256).toNat, by rw [UInt8.toNat_ofNat']; omega⟩
      obtain ⟨y, hy⟩ : ∃ y : UInt8, n % 256 = (y.toNat : Int) := ⟨UInt8.ofNat (n % 256).toNat, by rw [UInt8.toNat_ofNat']; omega⟩
      have hL' : lenL n = [x, y] := by
        rw [hL]; unfold lenV lenW; rw [if_neg (by omega), if_pos hd', if_neg (by omega), if_pos hd']
        simp only [numB, List.cons.injEq, and_true]
        refine ⟨UInt8.toNat_inj.1 ?_, UInt8.toNat_inj.1 ?_⟩ <;> rw [UInt8.toNat_ofNat'] <;> simp <;> omega
      rw [hL']
      clear hL hL'
      go_enter Try.func26, Try.ntmps26
      go_wp2_with fail
      go_ret2
      exact ⟨⟨some ⟨w.heap.size, 0, none⟩, 2, rfl, own_two _ _ rfl x y⟩, bl_alloc (Below.refl _ _) _⟩
    · have hL' : lenL n = numB (2147483648 + n).toNat 4 := by rw [hL]; unfold lenV lenW; rw [if_neg (by omega), if_neg (by omega), if_neg (by omega), if_neg (by omega)]
      obtain ⟨h5, h6⟩ := numE_in (n := 2147483648 + n) (w := 4) (by omega) (by omega) (by omega) (by omega)
      obtain ⟨L, hl⟩ : ∃ L, numB (2147483648 + n).toNat 4 = L := ⟨_, rfl⟩
      rw [hl] at h6 hL'
      rw [hL']
      have H5 := Lib.hid h5
      have H6 := Lib.hid h6
      clear hL hL' h5 h6 hl
      go_enter Try.func26, Try.ntmps26
      go_wp2_with (go_at_call 21; refine (c_rnum (2147483648 + n) 4 0 L _ (by omega) (by omega) H5.out H6.out).mono ?_; rintro e w2 ⟨⟨A, c, rfl, hO⟩, hb⟩)
      go_ret2
      exact ⟨⟨A, c, rfl, hO⟩, hb⟩
  · have hE : lenE n = 1 := if_neg h
    have hL : lenL n = [] := by unfold lenL; rw [if_neg (by rw [hE]; decide)]
    rw [hE, hL]
    have hd : n < 0 ∨ (0 ≤ n ∧ 1073741823 < n) := by omega
    clear h hE hL
    rcases hd with hd | ⟨hd, hd'⟩
    all_goals
      go_enter Try.func26, Try.ntmps26
      go_wp2_with fail
      go_ret2
      exact ⟨⟨none, 0, rfl, own_nil _ _⟩, Below.refl _ _⟩

/-! ### A length in bytes -/
theorem and_mask (v m i : Nat) (hm : m + 1 = 2 ^ i) (hv : v < 9223372036854775808) (hm' : m < 9223372036854775808) : bits .and .i64 (v : Int) (m : Int) = ((v % (m + 1) : Nat) : Int) := by
  rw [i64_and_nat v m hv hm', show m = 2 ^ i - 1 by omega, Nat.and_two_pow_sub_one_eq_mod]
  congr 2; omega
theorem and_1 {v : Nat} (h : v < 64) : bits .and .i64 (v : Int) 63 = (v : Int) := by
  have := and_mask v 63 6 (by omega) (by omega) (by omega)
  rw [show ((63 : Nat) : Int) = 63 from rfl] at this
  rw [this]; omega
theorem and_2 {v : Nat} (h : 16384 ≤ v) (h' : v < 32768) : bits .and .i64 (v : Int) 16383 = (v : Int) - 16384 := by
  have := and_mask v 16383 14 (by omega) (by omega) (by omega)
  rw [show ((16383 : Nat) : Int) = 16383 from rfl] at this
  rw [this]; omega
theorem and_4 {v : Nat} (h : 2147483648 ≤ v) (h' : v < 3221225472) : bits .and .i64 (v : Int) 1073741823 = (v : Int) - 2147483648 := by
  have := and_mask v 1073741823 30 (by omega) (by omega) (by omega)
  rw [show ((1073741823 : Nat) : Int) = 1073741823 from rfl] at this
  rw [this]; omega

set_option maxRecDepth 20000 in
set_option maxHeartbeats 1000000 in
theorem takeLen_192 (A : Option Addr) (c : Nat) (b : List UInt8) (T : Nat) (w : World) (hok : OkB w A c b) (h3 : T < b.length) (hh : 192 ≤ b[T].toNat) :
    Calls Try.prog 27 #[.slice A b.length c, .int .i64 (T : Int)] w fun e w' => e = .returned (.tuple #[.int .i64 (tlN b T), .int .i64 (tlX b T), .int .i64 (tlE b T)]) ∧ w = w' := by
  have Hok := Lib.hid hok
  have hl := hok.2.2.1
  clear hok
  have e0 := Lib.hid (tnE_ok (b := b) (T := T) (M := 1) (by omega) (by omega) (by omega))
  have n0 := Lib.hid (tnN_one h3)
  have x0 : Hid (tnX b T 1 = (T : Int) + 1) := by
    show _ = _
    unfold tnX; rw [show (1 : Int) = ((1 : Nat) : Int) from rfl, if_pos e0.out]
  obtain ⟨F, hF⟩ : ∃ F, b[T].toNat = F := ⟨_, rfl⟩
  have hF9 : F ≤ 255 := by have := b[T].toNat_lt; omega
  have hE := tl_three h3 (by omega)
  obtain ⟨hN, hX⟩ := tl_bad (b := b) (at_ := T) (by rw [hE]; decide)
  rw [hN, hX, hE]
  rw [hF] at n0 hh
  clear hE hN hX hF
  have hq : (F : Int) / 64 = 3 := by omega
  go_enter Try.func27, Try.ntmps27
  go_wp2_with (go_at_call 22; refine (c_takeNum A c b T 1 F (T + 1) 0 _ Hok.out n0.out x0.out e0.out).mono ?_; rintro e w1 ⟨rfl, rfl⟩)
  go_ret3
  exact ⟨rfl, rfl⟩
set_option maxRecDepth 20000 in
set_option maxHeartbeats 1000000 in
theorem takeLen_0 (A : Option Addr) (c : Nat) (b : List UInt8) (T : Nat) (w : World) (hok : OkB w A c b) (h3 : T < b.length) (hh : b[T].toNat < 64) :
    Calls Try.prog 27 #[.slice A b.length c, .int .i64 (T : Int)] w fun e w' => e = .returned (.tuple #[.int .i64 (tlN b T), .int .i64 (tlX b T), .int .i64 (tlE b T)]) ∧ w = w' := by
  have Hok := Lib.hid hok
  have hl := hok.2.2.1
  clear hok
  have e0 := Lib.hid (tnE_ok (b := b) (T := T) (M := 1) (by omega) (by omega) (by omega))
  have n0 := Lib.hid (tnN_one h3)
  have x0 : Hid (tnX b T 1 = (T : Int) + 1) := by
    show _ = _
    unfold tnX; rw [show (1 : Int) = ((1 : Nat) : Int) from rfl, if_pos e0.out]
  obtain ⟨F, hF⟩ : ∃ F, b[T].toNat = F := ⟨_, rfl⟩
  have hF9 : F ≤ 255 := by have := b[T].toNat_lt; omega
  obtain ⟨hE, hN, hX⟩ := tl_one h3 (by omega)
  rw [hN, hX, hE]
  rw [hF] at n0 hh ⊢
  clear hE hN hX hF
  have hq : (F : Int) / 64 = 0 := by omega
  have ha := and_1 hh
  have hW := Lib.hid (show (lenW (F : Int) : Int) = 1 by unfold lenW; rw [if_pos (by omega)]; rfl)
  have hT := Lib.hid (show lenT (F : Int) = 0 from if_pos (by omega))
  go_enter Try.func27, Try.ntmps27
  go_wp2_with (first | (go_at_call 22; refine (c_takeNum A c b T 1 F (T + 1) 0 _ Hok.out n0.out x0.out e0.out).mono ?_; rintro e w1 ⟨rfl, rfl⟩) | (go_at_call 64; refine (c_wide F _ 1 0 hW.out hT.out).mono ?_; rintro e w2 ⟨rfl, rfl⟩))
  go_ret3
  exact ⟨rfl, rfl⟩
set_option maxRecDepth 20000 in
set_option maxHeartbeats 1000000 in
theorem takeLen_2s (A : Option Addr) (c : Nat) (b : List UInt8) (T : Nat) (w : World) (hok : OkB w A c b) (h3 : T < b.length) (h1 : 64 ≤ b[T].toNat) (h2 : b[T].toNat < 128) (hs : b.length < T + 2) :
    Calls Try.prog 27 #[.slice A b.length c, .int .i64 (T : Int)] w fun e w' => e = .returned (.tuple #[.int .i64 (tlN b T), .int .i64 (tlX b T), .int .i64 (tlE b T)]) ∧ w = w' := by
  have Hok := Lib.hid hok
  have hl := hok.2.2.1
  clear hok
  have e0 := Lib.hid (tnE_ok (b := b) (T := T) (M := 1) (by omega) (by omega) (by omega))
  have n0 := Lib.hid (tnN_one h3)
  have x0 : Hid (tnX b T 1 = (T : Int) + 1) := by
    show _ = _
    unfold tnX; rw [show (1 : Int) = ((1 : Nat) : Int) from rfl, if_pos e0.out]
  obtain ⟨F, hF⟩ : ∃ F, b[T].toNat = F := ⟨_, rfl⟩
  have hF9 : F ≤ 255 := by have := b[T].toNat_lt; omega
  have hE := tl_short h3 (by omega) (show (b.length : Int) - T < tlW (b[T].toNat : Int) by unfold tlW; rw [if_neg (by omega), if_pos (by omega)]; omega)
  obtain ⟨hN, hX⟩ := tl_bad (b := b) (at_ := T) (by rw [hE]; decide)
  rw [hN, hX, hE]
  rw [hF] at n0 h1 h2
  clear hE hN hX hF
  have hq : (F : Int) / 64 = 1 := by omega
  have e1 := Lib.hid (show tnE b T 2 = 3 by unfold tnE; rw [if_pos (by omega), if_pos (by omega)])
  have n1 := Lib.hid (show tnN b T 2 = 0 by unfold tnN; rw [e1.out]; rfl)
  have x1 := Lib.hid (show tnX b T 2 = 0 by unfold tnX; rw [e1.out]; rfl)
  go_enter Try.func27, Try.ntmps27
  go_wp2_with fail
  refine (c_takeNum A c b T 1 F (T + 1) 0 _ Hok.out n0.out x0.out e0.out).mono ?_; rintro e w1 ⟨rfl, rfl⟩
  go_wp2_with fail
  refine (c_takeNum A c b T 2 0 0 3 _ Hok.out n1.out x1.out e1.out).mono ?_; rintro e w3 ⟨rfl, rfl⟩
  go_wp2_with fail
  go_ret3
  exact ⟨rfl, rfl⟩
set_option maxRecDepth 20000 in
set_option maxHeartbeats 1000000 in
theorem takeLen_2 (A : Option Addr) (c : Nat) (b : List UInt8) (T : Nat) (w : World) (hok : OkB w A c b) (h3 : T < b.length) (h1 : 64 ≤ b[T].toNat) (h2 : b[T].toNat < 128) (hs : T + 2 ≤ b.length) :
    Calls Try.prog 27 #[.slice A b.length c, .int .i64 (T : Int)] w fun e w' => e = .returned (.tuple #[.int .i64 (tlN b T), .int .i64 (tlX b T), .int .i64 (tlE b T)]) ∧ w = w' := by
  have Hok := Lib.hid hok
  have hl := hok.2.2.1
  clear hok
  have e0 := Lib.hid (tnE_ok (b := b) (T := T) (M := 1) (by omega) (by omega) (by omega))
  have n0 := Lib.hid (tnN_one h3)
  have x0 : Hid (tnX b T 1 = (T : Int) + 1) := by
    show _ = _
    unfold tnX; rw [show (1 : Int) = ((1 : Nat) : Int) from rfl, if_pos e0.out]
  obtain ⟨F, hF⟩ : ∃ F, b[T].toNat = F := ⟨_, rfl⟩
  have hF9 : F ≤ 255 := by have := b[T].toNat_lt; omega
  obtain ⟨v, v1, v2, v3, v4⟩ := tl_two hs (by omega) (by omega)
  have e1 := Lib.hid (tnE_ok (b := b) (T := T) (M := 2) (by omega) (by omega) hs)
  have n1 := Lib.hid v1
  have x1 : Hid (tnX b T 2 = (T : Int) + 2) := by
    show _ = _
    unfold tnX; rw [show (2 : Int) = ((2 : Nat) : Int) from rfl, if_pos e1.out]
  have ha := and_2 v2 v3
  have hq : (F : Int) / 64 = 1 := by omega
  rw [hF] at n0
  clear hF v1 h1 h2
  have hd : (v < 16448) ∨ (16448 ≤ v ∧ v < 32768) := by omega
  rcases hd with hd | hd
  · rw [if_pos (by omega)] at v4
    obtain ⟨hN, hX⟩ := tl_bad (b := b) (at_ := T) (by rw [v4]; decide)
    rw [hN, hX, v4]
    clear hN hX v4
    have hW := Lib.hid (show (lenW ((v : Int) - 16384) : Int) = 1 by unfold lenW; rw [if_pos (by omega)]; rfl)
    have hT := Lib.hid (show lenT ((v : Int) - 16384) = 0 by unfold lenT; rw [if_pos (by omega)])
    go_enter Try.func27, Try.ntmps27
    go_wp2_with fail
    refine (c_takeNum A c b T 1 F (T + 1) 0 _ Hok.out n0.out x0.out e0.out).mono ?_; rintro e w1 ⟨rfl, rfl⟩
    go_wp2_with fail
    refine (c_takeNum A c b T 2 v (T + 2) 0 _ Hok.out n1.out x1.out e1.out).mono ?_; rintro e w3 ⟨rfl, rfl⟩
    go_wp2_with (go_at_call 64; refine (c_wide _ _ 1 0 hW.out hT.out).mono ?_; rintro e w2 ⟨rfl, rfl⟩)
    go_ret3
    exact ⟨rfl, rfl⟩
  · rw [if_neg (by omega)] at v4
    obtain ⟨hE, hN, hX⟩ := v4
    rw [hN, hX, hE]
    clear hN hX hE
    have hW := Lib.hid (show (lenW ((v : Int) - 16384) : Int) = 2 by unfold lenW; rw [if_neg (by omega), if_pos (by omega)]; rfl)
    have hT := Lib.hid (show lenT ((v : Int) - 16384) = 1 by unfold lenT; rw [if_neg (by omega), if_pos (by omega)])
    go_enter Try.func27, Try.ntmps27
    go_wp2_with fail
    refine (c_takeNum A c b T 1 F (T + 1) 0 _ Hok.out n0.out x0.out e0.out).mono ?_; rintro e w1 ⟨rfl, rfl⟩
    go_wp2_with fail
    refine (c_takeNum A c b T 2 v (T + 2) 0 _ Hok.out n1.out x1.out e1.out).mono ?_; rintro e w3 ⟨rfl, rfl⟩
    go_wp2_with (go_at_call 64; refine (c_wide _ _ 2 1 hW.out hT.out).mono ?_; rintro e w2 ⟨rfl, rfl⟩)
    go_ret3
    exact ⟨rfl, rfl⟩
set_option maxRecDepth 20000 in
set_option maxHeartbeats 1000000 in
theorem takeLen_4s (A : Option Addr) (c : Nat) (b : List UInt8) (T : Nat) (w : World) (hok : OkB w A c b) (h3 : T < b.length) (h1 : 128 ≤ b[T].toNat) (h2 : b[T].toNat < 192) (hs : b.length < T + 4) :
    Calls Try.prog 27 #[.slice A b.length c, .int .i64 (T : Int)] w fun e w' => e = .returned (.tuple #[.int .i64 (tlN b T), .int .i64 (tlX b T), .int .i64 (tlE b T)]) ∧ w = w' := by
  have Hok := Lib.hid hok
  have hl := hok.2.2.1
  clear hok
  have e0 := Lib.hid (tnE_ok (b := b) (T := T) (M := 1) (by omega) (by omega) (by omega))
  have n0 := Lib.hid (tnN_one h3)
  have x0 : Hid (tnX b T 1 = (T : Int) + 1) := by
    show _ = _
    unfold tnX; rw [show (1 : Int) = ((1 : Nat) : Int) from rfl, if_pos e0.out]
  obtain ⟨F, hF⟩ : ∃ F, b[T].toNat = F := ⟨_, rfl⟩
  have hF9 : F ≤ 255 := by have := b[T].toNat_lt; omega
  have hE := tl_short h3 (by omega) (show (b.length : Int) - T < tlW (b[T].toNat : Int) by unfold tlW; rw [if_neg (by omega), if_neg (by omega)]; omega)
  obtain ⟨hN, hX⟩ := tl_bad (b := b) (at_ := T) (by rw [hE]; decide)
  rw [hN, hX, hE]
  rw [hF] at n0 h1 h2
  clear hE hN hX hF
  have hq : (F : Int) / 64 = 2 := by omega
  have e1 := Lib.hid (show tnE b T 4 = 3 by unfold tnE; rw [if_pos (by omega), if_pos (by omega)])
  have n1 := Lib.hid (show tnN b T 4 = 0 by unfold tnN; rw [e1.out]; rfl)
  have x1 := Lib.hid (show tnX b T 4 = 0 by unfold tnX; rw [e1.out]; rfl)
  go_enter Try.func27, Try.ntmps27
  go_wp2_with fail
  refine (c_takeNum A c b T 1 F (T + 1) 0 _ Hok.out n0.out x0.out e0.out).mono ?_; rintro e w1 ⟨rfl, rfl⟩
  go_wp2_with fail
  refine (c_takeNum A c b T 4 0 0 3 _ Hok.out n1.out x1.out e1.out).mono ?_; rintro e w3 ⟨rfl, rfl⟩
  go_wp2_with fail
  go_ret3
  exact ⟨rfl, rfl⟩
set_option maxRecDepth 20000 in
set_option maxHeartbeats 1000000 in
theorem takeLen_4 (A : Option Addr) (c : Nat) (b : List UInt8) (T : Nat) (w : World) (hok : OkB w A c b) (h3 : T < b.length) (h1 : 128 ≤ b[T].toNat) (h2 : b[T].toNat < 192) (hs : T + 4 ≤ b.length) :
    Calls Try.prog 27 #[.slice A b.length c, .int .i64 (T : Int)] w fun e w' => e = .returned (.tuple #[.int .i64 (tlN b T), .int .i64 (tlX b T), .int .i64 (tlE b T)]) ∧ w = w' := by
  have Hok := Lib.hid hok
  have hl := hok.2.2.1
  clear hok
  have e0 := Lib.hid (tnE_ok (b := b) (T := T) (M := 1) (by omega) (by omega) (by omega))
  have n0 := Lib.hid (tnN_one h3)
  have x0 : Hid (tnX b T 1 = (T : Int) + 1) := by
    show _ = _
    unfold tnX; rw [show (1 : Int) = ((1 : Nat) : Int) from rfl, if_pos e0.out]
  obtain ⟨F, hF⟩ : ∃ F, b[T].toNat = F := ⟨_, rfl⟩
  have hF9 : F ≤ 255 := by have := b[T].toNat_lt; omega
  obtain ⟨v, v1, v2, v3, v4⟩ := tl_four hs (by omega) (by omega)
  have e1 := Lib.hid (tnE_ok (b := b) (T := T) (M := 4) (by omega) (by omega) hs)
  have n1 := Lib.hid v1
  have x1 : Hid (tnX b T 4 = (T : Int) + 4) := by
    show _ = _
    unfold tnX; rw [show (4 : Int) = ((4 : Nat) : Int) from rfl, if_pos e1.out]
  have ha := and_4 v2 v3
  have hq : (F : Int) / 64 = 2 := by omega
  rw [hF] at n0
  clear hF v1 h1 h2
  have hd : (v < 2147483712) ∨ (2147483712 ≤ v ∧ v < 2147500032) ∨ (2147500032 ≤ v) := by omega
  rcases hd with hd | hd | hd
  · rw [if_pos (by omega)] at v4
    obtain ⟨hN, hX⟩ := tl_bad (b := b) (at_ := T) (by rw [v4]; decide)
    rw [hN, hX, v4]
    clear hN hX v4
    have hW := Lib.hid (show (lenW ((v : Int) - 2147483648) : Int) = 1 by unfold lenW; rw [if_pos (by omega)]; rfl)
    have hT := Lib.hid (show lenT ((v : Int) - 2147483648) = 0 by unfold lenT; rw [if_pos (by omega)])
    go_enter Try.func27, Try.ntmps27
    go_wp2_with fail
    refine (c_takeNum A c b T 1 F (T + 1) 0 _ Hok.out n0.out x0.out e0.out).mono ?_; rintro e w1 ⟨rfl, rfl⟩
    go_wp2_with fail
    refine (c_takeNum A c b T 4 v (T + 4) 0 _ Hok.out n1.out x1.out e1.out).mono ?_; rintro e w3 ⟨rfl, rfl⟩
    go_wp2_with (go_at_call 64; refine (c_wide _ _ 1 0 hW.out hT.out).mono ?_; rintro e w2 ⟨rfl, rfl⟩)
    go_ret3
    exact ⟨rfl, rfl⟩
  · rw [if_pos (by omega)] at v4
    obtain ⟨hN, hX⟩ := tl_bad (b := b) (at_ := T) (by rw [v4]; decide)
    rw [hN, hX, v4]
    clear hN hX v4
    have hW := Lib.hid (show (lenW ((v : Int) - 2147483648) : Int) = 2 by unfold lenW; rw [if_neg (by omega), if_pos (by omega)]; rfl)
    have hT := Lib.hid (show lenT ((v : Int) - 2147483648) = 1 by unfold lenT; rw [if_neg (by omega), if_pos (by omega)])
    go_enter Try.func27, Try.ntmps27
    go_wp2_with fail
    refine (c_takeNum A c b T 1 F (T + 1) 0 _ Hok.out n0.out x0.out e0.out).mono ?_; rintro e w1 ⟨rfl, rfl⟩
    go_wp2_with fail
    refine (c_takeNum A c b T 4 v (T + 4) 0 _ Hok.out n1.out x1.out e1.out).mono ?_; rintro e w3 ⟨rfl, rfl⟩
    go_wp2_with (go_at_call 64; refine (c_wide _ _ 2 1 hW.out hT.out).mono ?_; rintro e w2 ⟨rfl, rfl⟩)
    go_ret3
    exact ⟨rfl, rfl⟩
  · rw [if_neg (by omega)] at v4
    obtain ⟨hE, hN, hX⟩ := v4
    rw [hN, hX, hE]
    clear hN hX hE
    have hW := Lib.hid (show (lenW ((v : Int) - 2147483648) : Int) = 4 by unfold lenW; rw [if_neg (by omega), if_neg (by omega)]; rfl)
    have hT := Lib.hid (show lenT ((v : Int) - 2147483648) = 2 by unfold lenT; rw [if_neg (by omega), if_neg (by omega)])
    go_enter Try.func27, Try.ntmps27
    go_wp2_with fail
    refine (c_takeNum A c b T 1 F (T + 1) 0 _ Hok.out n0.out x0.out e0.out).mono ?_; rintro e w1 ⟨rfl, rfl⟩
    go_wp2_with fail
    refine (c_takeNum A c b T 4 v (T + 4) 0 _ Hok.out n1.out x1.out e1.out).mono ?_; rintro e w3 ⟨rfl, rfl⟩
    go_wp2_with (go_at_call 64; refine (c_wide _ _ 4 2 hW.out hT.out).mono ?_; rintro e w2 ⟨rfl, rfl⟩)
    go_ret3
    exact ⟨rfl, rfl⟩
set_option maxRecDepth 20000 in
set_option maxHeartbeats 1000000 in
theorem takeLen_any (A : Option Addr) (c : Nat) (b : List UInt8) (at_ : Int) (w : World) (hok : OkB w A c b) :
    Calls Try.prog 27 #[.slice A b.length c, .int .i64 at_] w fun e w' => e = .returned (.tuple #[.int .i64 (tlN b at_), .int .i64 (tlX b at_), .int .i64 (tlE b at_)]) ∧ w = w' := by
  by_cases h : 0 ≤ at_ ∧ at_ ≤ b.length
  · obtain ⟨h1, h2⟩ := h
    obtain ⟨T, rfl⟩ := Int.eq_ofNat_of_zero_le h1
    by_cases h3 : T < b.length
    · by_cases c3 : 192 ≤ b[T].toNat
      · exact takeLen_192 A c b T w hok h3 c3
      by_cases c0 : b[T].toNat < 64
      · exact takeLen_0 A c b T w hok h3 c0
      by_cases c1 : b[T].toNat < 128
      · by_cases hs : T + 2 ≤ b.length
        · exact takeLen_2 A c b T w hok h3 (by omega) c1 hs
        · exact takeLen_2s A c b T w hok h3 (by omega) c1 (by omega)
      · by_cases hs : T + 4 ≤ b.length
        · exact takeLen_4 A c b T w hok h3 (by omega) (by omega) hs
        · exact takeLen_4s A c b T w hok h3 (by omega) (by omega) (by omega)
    · obtain rfl : T = b.length := by omega
      have hE := tl_end (b := b)
      obtain ⟨hN, hX⟩ := tl_bad (b := b) (at_ := b.length) (by rw [hE]; decide)
      rw [hN, hX, hE]
      clear hE hN hX
      have Hok := Lib.hid hok
      clear hok
      have e1 := Lib.hid (show tnE b b.length 1 = 3 by unfold tnE; rw [if_pos (by omega), if_pos (by omega)])
      have n1 := Lib.hid (show tnN b b.length 1 = 0 by unfold tnN; rw [e1.out]; rfl)
      have x1 := Lib.hid (show tnX b b.length 1 = 0 by unfold tnX; rw [e1.out]; rfl)
      go_enter Try.func27, Try.ntmps27
      go_wp2_with (go_at_call 22; refine (c_takeNum A c b b.length 1 0 0 3 _ Hok.out n1.out x1.out e1.out).mono ?_; rintro e w3 ⟨rfl, rfl⟩)
      go_ret3
      exact ⟨rfl, rfl⟩
  · have hE := tl_out h
    obtain ⟨hN, hX⟩ := tl_bad (b := b) (at_ := at_) (by rw [hE]; decide)
    rw [hN, hX, hE]
    clear hE hN hX
    have Hok := Lib.hid hok
    clear hok
    have e1 := Lib.hid (show tnE b at_ 1 = 1 by unfold tnE; rw [if_neg (fun h' => h h'.2)])
    have n1 := Lib.hid (show tnN b at_ 1 = 0 by unfold tnN; rw [e1.out]; rfl)
    have x1 := Lib.hid (show tnX b at_ 1 = 0 by unfold tnX; rw [e1.out]; rfl)
    clear h
    go_enter Try.func27, Try.ntmps27
    go_wp2_with (go_at_call 22; refine (c_takeNum A c b at_ 1 0 0 1 _ Hok.out n1.out x1.out e1.out).mono ?_; rintro e w3 ⟨rfl, rfl⟩)
    go_ret3
    exact ⟨rfl, rfl⟩
end Go.Proofs.Ytlcclaicodghcaa
