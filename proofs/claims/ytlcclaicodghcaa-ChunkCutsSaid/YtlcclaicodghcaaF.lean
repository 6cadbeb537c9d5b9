import Derived.Test.YtlcclaicodghcaaE
namespace Go.Proofs.Ytlcclaicodghcaa
open Go.RowKit

set_option maxRecDepth 20000 in
set_option maxHeartbeats 1000000 in
theorem rtakeLen_192 (A : Option Addr) (c : Nat) (b : List UInt8) (T : Nat) (w : World) (hok : OkB w A c b) (h3 : T < b.length) (hh : 192 ≤ b[T].toNat) :
    Calls Try.prog 28 #[.slice A b.length c, .int .i64 (T : Int)] w fun e w' => e = .returned (.tuple #[.int .i64 (tlN b T), .int .i64 (tlX b T), .int .i64 (tlE b T)]) ∧ w = w' := by
  have Hok := Lib.hid hok
  have hl := hok.2.2.1
  have hlc := hok.2.1
  obtain ⟨bk, off, rfl, hcell⟩ := hok.some_ h3
  have hc := hcell T h3
  clear hok hcell
  have hne : ((T : Int) == (b.length : Int)) = false := by simp; omega
  have hgt : decide (b.length < T) = false := decide_eq_false (by omega)
  obtain ⟨F, hF⟩ : ∃ F, b[T].toNat = F := ⟨_, rfl⟩
  have hF9 : F ≤ 255 := by have := b[T].toNat_lt; omega
  rw [hF] at hc
  have hE := tl_three h3 (by omega)
  obtain ⟨hN, hX⟩ := tl_bad (b := b) (at_ := T) (by rw [hE]; decide)
  rw [hN, hX, hE]
  rw [hF] at hh
  clear hE hN hX hF
  go_enter Try.func28, Try.ntmps28
  go_wp2_with fail
  go_ret3
  exact ⟨rfl, rfl⟩
set_option maxRecDepth 20000 in
set_option maxHeartbeats 1000000 in
theorem rtakeLen_0 (A : Option Addr) (c : Nat) (b : List UInt8) (T : Nat) (w : World) (hok : OkB w A c b) (h3 : T < b.length) (hh : b[T].toNat < 64) :
    Calls Try.prog 28 #[.slice A b.length c, .int .i64 (T : Int)] w fun e w' => e = .returned (.tuple #[.int .i64 (tlN b T), .int .i64 (tlX b T), .int .i64 (tlE b T)]) ∧ w = w' := by
  have Hok := Lib.hid hok
  have hl := hok.2.2.1
  have hlc := hok.2.1
  obtain ⟨bk, off, rfl, hcell⟩ := hok.some_ h3
  have hc := hcell T h3
  clear hok hcell
  have hne : ((T : Int) == (b.length : Int)) = false := by simp; omega
  have hgt : decide (b.length < T) = false := decide_eq_false (by omega)
  obtain ⟨F, hF⟩ : ∃ F, b[T].toNat = F := ⟨_, rfl⟩
  have hF9 : F ≤ 255 := by have := b[T].toNat_lt; omega
  rw [hF] at hc
  obtain ⟨hE, hN, hX⟩ := tl_one h3 (by omega)
  rw [hN, hX, hE]
  rw [hF] at hh ⊢
  clear hE hN hX hF
  go_enter Try.func28, Try.ntmps28
  go_wp2_with fail
  go_ret3
  exact ⟨rfl, rfl⟩
set_option maxRecDepth 20000 in
set_option maxHeartbeats 1000000 in
theorem rtakeLen_2s (A : Option Addr) (c : Nat) (b : List UInt8) (T : Nat) (w : World) (hok : OkB w A c b) (h3 : T < b.length) (h1 : 64 ≤ b[T].toNat) (h2 : b[T].toNat < 128) (hs : b.length < T + 2) :
    Calls Try.prog 28 #[.slice A b.length c, .int .i64 (T : Int)] w fun e w' => e = .returned (.tuple #[.int .i64 (tlN b T), .int .i64 (tlX b T), .int .i64 (tlE b T)]) ∧ w = w' := by
  have Hok := Lib.hid hok
  have hl := hok.2.2.1
  have hlc := hok.2.1
  obtain ⟨bk, off, rfl, hcell⟩ := hok.some_ h3
  have hc := hcell T h3
  clear hok hcell
  have hne : ((T : Int) == (b.length : Int)) = false := by simp; omega
  have hgt : decide (b.length < T) = false := decide_eq_false (by omega)
  obtain ⟨F, hF⟩ : ∃ F, b[T].toNat = F := ⟨_, rfl⟩
  have hF9 : F ≤ 255 := by have := b[T].toNat_lt; omega
  rw [hF] at hc
  have hE := tl_short h3 (by omega) (show (b.length : Int) - T < tlW (b[T].toNat : Int) by unfold tlW; rw [if_neg (by omega), if_pos (by omega)]; omega)
  obtain ⟨hN, hX⟩ := tl_bad (b := b) (at_ := T) (by rw [hE]; decide)
  rw [hN, hX, hE]
  rw [hF] at h1 h2
  clear hE hN hX hF
  have e1 := Lib.hid (show tnE b T 2 = 3 by unfold tnE; rw [if_pos (by omega), if_pos (by omega)])
  have n1 := Lib.hid (show tnN b T 2 = 0 by unfold tnN; rw [e1.out]; rfl)
  have x1 := Lib.hid (show tnX b T 2 = 0 by unfold tnX; rw [e1.out]; rfl)
  go_enter Try.func28, Try.ntmps28
  go_wp2_with fail
  refine (c_rtakeNum _ c b T 2 0 0 3 _ Hok.out n1.out x1.out e1.out).mono ?_; rintro e w3 ⟨rfl, rfl⟩
  go_wp2_with fail
  go_ret3
  exact ⟨rfl, rfl⟩
set_option maxRecDepth 20000 in
set_option maxHeartbeats 1000000 in
theorem rtakeLen_2 (A : Option Addr) (c : Nat) (b : List UInt8) (T : Nat) (w : World) (hok : OkB w A c b) (h3 : T < b.length) (h1 : 64 ≤ b[T].toNat) (h2 : b[T].toNat < 128) (hs : T + 2 ≤ b.length) :
    Calls Try.prog 28 #[.slice A b.length c, .int .i64 (T : Int)] w fun e w' => e = .returned (.tuple #[.int .i64 (tlN b T), .int .i64 (tlX b T), .int .i64 (tlE b T)]) ∧ w = w' := by
  have Hok := Lib.hid hok
  have hl := hok.2.2.1
  have hlc := hok.2.1
  obtain ⟨bk, off, rfl, hcell⟩ := hok.some_ h3
  have hc := hcell T h3
  clear hok hcell
  have hne : ((T : Int) == (b.length : Int)) = false := by simp; omega
  have hgt : decide (b.length < T) = false := decide_eq_false (by omega)
  obtain ⟨F, hF⟩ : ∃ F, b[T].toNat = F := ⟨_, rfl⟩
  have hF9 : F ≤ 255 := by have := b[T].toNat_lt; omega
  rw [hF] at hc
  obtain ⟨v, v1, v2, v3, v4⟩ := tl_two hs (by omega) (by omega)
  have e1 := Lib.hid (tnE_ok (b := b) (T := T) (M := 2) (by omega) (by omega) hs)
  have n1 := Lib.hid v1
  have x1 : Hid (tnX b T 2 = (T : Int) + 2) := by
    show _ = _
    unfold tnX; rw [show (2 : Int) = ((2 : Nat) : Int) from rfl, if_pos e1.out]
  rw [hF] at h1 h2
  clear hF v1
  have hd : (v < 16448) ∨ (16448 ≤ v ∧ v < 32768) := by omega
  rcases hd with hd | hd
  · rw [if_pos (by omega)] at v4
    obtain ⟨hN, hX⟩ := tl_bad (b := b) (at_ := T) (by rw [v4]; decide)
    rw [hN, hX, v4]
    clear hN hX v4
    go_enter Try.func28, Try.ntmps28
    go_wp2_with fail
    refine (c_rtakeNum _ c b T 2 v (T + 2) 0 _ Hok.out n1.out x1.out e1.out).mono ?_; rintro e w3 ⟨rfl, rfl⟩
    go_wp2_with fail
    go_ret3
    exact ⟨rfl, rfl⟩
  · rw [if_neg (by omega)] at v4
    obtain ⟨hE, hN, hX⟩ := v4
    rw [hN, hX, hE]
    clear hN hX hE
    go_enter Try.func28, Try.ntmps28
    go_wp2_with fail
    refine (c_rtakeNum _ c b T 2 v (T + 2) 0 _ Hok.out n1.out x1.out e1.out).mono ?_; rintro e w3 ⟨rfl, rfl⟩
    go_wp2_with fail
    go_ret3
    exact ⟨rfl, rfl⟩
set_option maxRecDepth 20000 in
set_option maxHeartbeats 1000000 in
theorem rtakeLen_4s (A : Option Addr) (c : Nat) (b : List UInt8) (T : Nat) (w : World) (hok : OkB w A c b) (h3 : T < b.length) (h1 : 128 ≤ b[T].toNat) (h2 : b[T].toNat < 192) (hs : b.length < T + 4) :
    Calls Try.prog 28 #[.slice A b.length c, .int .i64 (T : Int)] w fun e w' => e = .returned (.tuple #[.int .i64 (tlN b T), .int .i64 (tlX b T), .int .i64 (tlE b T)]) ∧ w = w' := by
  have Hok := Lib.hid hok
  have hl := hok.2.2.1
  have hlc := hok.2.1
  obtain ⟨bk, off, rfl, hcell⟩ := hok.some_ h3
  have hc := hcell T h3
  clear hok hcell
  have hne : ((T : Int) == (b.length : Int)) = false := by simp; omega
  have hgt : decide (b.length < T) = false := decide_eq_false (by omega)
  obtain ⟨F, hF⟩ : ∃ F, b[T].toNat = F := ⟨_, rfl⟩
  have hF9 : F ≤ 255 := by have := b[T].toNat_lt; omega
  rw [hF] at hc
  have hE := tl_short h3 (by omega) (show (b.length : Int) - T < tlW (b[T].toNat : Int) by unfold tlW; rw [if_neg (by omega), if_neg (by omega)]; omega)
  obtain ⟨hN, hX⟩ := tl_bad (b := b) (at_ := T) (by rw [hE]; decide)
  rw [hN, hX, hE]
  rw [hF] at h1 h2
  clear hE hN hX hF
  have e1 := Lib.hid (show tnE b T 4 = 3 by unfold tnE; rw [if_pos (by omega), if_pos (by omega)])
  have n1 := Lib.hid (show tnN b T 4 = 0 by unfold tnN; rw [e1.out]; rfl)
  have x1 := Lib.hid (show tnX b T 4 = 0 by unfold tnX; rw [e1.out]; rfl)
  go_enter Try.func28, Try.ntmps28
  go_wp2_with fail
  refine (c_rtakeNum _ c b T 4 0 0 3 _ Hok.out n1.out x1.out e1.out).mono ?_; rintro e w3 ⟨rfl, rfl⟩
  go_wp2_with fail
  go_ret3
  exact ⟨rfl, rfl⟩
set_option maxRecDepth 20000 in
set_option maxHeartbeats 1000000 in
theorem rtakeLen_4 (A : Option Addr) (c : Nat) (b : List UInt8) (T : Nat) (w : World) (hok : OkB w A c b) (h3 : T < b.length) (h1 : 128 ≤ b[T].toNat) (h2 : b[T].toNat < 192) (hs : T + 4 ≤ b.length) :
    Calls Try.prog 28 #[.slice A b.length c, .int .i64 (T : Int)] w fun e w' => e = .returned (.tuple #[.int .i64 (tlN b T), .int .i64 (tlX b T), .int .i64 (tlE b T)]) ∧ w = w' := by
  have Hok := Lib.hid hok
  have hl := hok.2.2.1
  have hlc := hok.2.1
  obtain ⟨bk, off, rfl, hcell⟩ := hok.some_ h3
  have hc := hcell T h3
  clear hok hcell
  have hne : ((T : Int) == (b.length : Int)) = false := by simp; omega
  have hgt : decide (b.length < T) = false := decide_eq_false (by omega)
  obtain ⟨F, hF⟩ : ∃ F, b[T].toNat = F := ⟨_, rfl⟩
  have hF9 : F ≤ 255 := by have := b[T].toNat_lt; omega
  rw [hF] at hc
  obtain ⟨v, v1, v2, v3, v4⟩ := tl_four hs (by omega) (by omega)
  have e1 := Lib.hid (tnE_ok (b := b) (T := T) (M := 4) (by omega) (by omega) hs)
  have n1 := Lib.hid v1
  have x1 : Hid (tnX b T 4 = (T : Int) + 4) := by
    show _ = _
    unfold tnX; rw [show (4 : Int) = ((4 : Nat) : Int) from rfl, if_pos e1.out]
  rw [hF] at h1 h2
  clear hF v1
  have hd : (v < 2147483712) ∨ (2147483712 ≤ v ∧ v < 2147500032) ∨ (2147500032 ≤ v) := by omega
  rcases hd with hd | hd | hd
  · rw [if_pos (by omega)] at v4
    obtain ⟨hN, hX⟩ := tl_bad (b := b) (at_ := T) (by rw [v4]; decide)
    rw [hN, hX, v4]
    clear hN hX v4
    go_enter Try.func28, Try.ntmps28
    go_wp2_with fail
    refine (c_rtakeNum _ c b T 4 v (T + 4) 0 _ Hok.out n1.out x1.out e1.out).mono ?_; rintro e w3 ⟨rfl, rfl⟩
    go_wp2_with fail
    go_ret3
    exact ⟨rfl, rfl⟩
  · rw [if_pos (by omega)] at v4
    obtain ⟨hN, hX⟩ := tl_bad (b := b) (at_ := T) (by rw [v4]; decide)
    rw [hN, hX, v4]
    clear hN hX v4
    go_enter Try.func28, Try.ntmps28
    go_wp2_with fail
    refine (c_rtakeNum _ c b T 4 v (T + 4) 0 _ Hok.out n1.out x1.out e1.out).mono ?_; rintro e w3 ⟨rfl, rfl⟩
    go_wp2_with fail
    go_ret3
    exact ⟨rfl, rfl⟩
  · rw [if_neg (by omega)] at v4
    obtain ⟨hE, hN, hX⟩ := v4
    rw [hN, hX, hE]
    clear hN hX hE
    go_enter Try.func28, Try.ntmps28
    go_wp2_with fail
    refine (c_rtakeNum _ c b T 4 v (T + 4) 0 _ Hok.out n1.out x1.out e1.out).mono ?_; rintro e w3 ⟨rfl, rfl⟩
    go_wp2_with fail
    go_ret3
    exact ⟨rfl, rfl⟩
set_option maxRecDepth 20000 in
set_option maxHeartbeats 1000000 in
theorem rtakeLen_any (A : Option Addr) (c : Nat) (b : List UInt8) (at_ : Int) (w : World) (hok : OkB w A c b) :
    Calls Try.prog 28 #[.slice A b.length c, .int .i64 at_] w fun e w' => e = .returned (.tuple #[.int .i64 (tlN b at_), .int .i64 (tlX b at_), .int .i64 (tlE b at_)]) ∧ w = w' := by
  by_cases h : 0 ≤ at_ ∧ at_ ≤ b.length
  · obtain ⟨h1, h2⟩ := h
    obtain ⟨T, rfl⟩ := Int.eq_ofNat_of_zero_le h1
    by_cases h3 : T < b.length
    · by_cases c3 : 192 ≤ b[T].toNat
      · exact rtakeLen_192 A c b T w hok h3 c3
      by_cases c0 : b[T].toNat < 64
      · exact rtakeLen_0 A c b T w hok h3 c0
      by_cases c1 : b[T].toNat < 128
      · by_cases hs : T + 2 ≤ b.length
        · exact rtakeLen_2 A c b T w hok h3 (by omega) c1 hs
        · exact rtakeLen_2s A c b T w hok h3 (by omega) c1 (by omega)
      · by_cases hs : T + 4 ≤ b.length
        · exact rtakeLen_4 A c b T w hok h3 (by omega) (by omega) hs
        · exact rtakeLen_4s A c b T w hok h3 (by omega) (by omega) (by omega)
    · obtain rfl : T = b.length := by omega
      have hE := tl_end (b := b)
      obtain ⟨hN, hX⟩ := tl_bad (b := b) (at_ := b.length) (by rw [hE]; decide)
      rw [hN, hX, hE]
      clear hE hN hX hok
      have hgt : decide (b.length < b.length) = false := decide_eq_false (by omega)
      go_enter Try.func28, Try.ntmps28
      go_wp2_with fail
      go_ret3
      exact ⟨rfl, rfl⟩
  · have hE := tl_out h
    obtain ⟨hN, hX⟩ := tl_bad (b := b) (at_ := at_) (by rw [hE]; decide)
    rw [hN, hX, hE]
    clear hE hN hX hok
    have hd : at_ < 0 ∨ (0 ≤ at_ ∧ (b.length : Int) < at_) := by omega
    clear h
    rcases hd with hd | ⟨hd, hd'⟩
    all_goals
      go_enter Try.func28, Try.ntmps28
      go_wp2_with fail
      go_ret3
      exact ⟨rfl, rfl⟩

theorem c_takeLen (A : Option Addr) (c : Nat) (b : List UInt8) (at_ N X E : Int) (w : World) (hok : OkB w A c b) (hN : tlN b at_ = N) (hX : tlX b at_ = X) (hE : tlE b at_ = E) :
    Calls Try.prog 27 #[.slice A b.length c, .int .i64 at_] w fun e w' => e = .returned (.tuple #[.int .i64 N, .int .i64 X, .int .i64 E]) ∧ w = w' := by
  subst hE hN hX; exact takeLen_any A c b at_ w hok
theorem c_rtakeLen (A : Option Addr) (c : Nat) (b : List UInt8) (at_ N X E : Int) (w : World) (hok : OkB w A c b) (hN : tlN b at_ = N) (hX : tlX b at_ = X) (hE : tlE b at_ = E) :
    Calls Try.prog 28 #[.slice A b.length c, .int .i64 at_] w fun e w' => e = .returned (.tuple #[.int .i64 N, .int .i64 X, .int .i64 E]) ∧ w = w' := by
  subst hE hN hX; exact rtakeLen_any A c b at_ w hok

/-! ### What may lack -/
theorem to_out {b : List UInt8} {at_ : Int} (h : ¬ (0 ≤ at_ ∧ at_ ≤ b.length)) : toE b at_ = 1 ∧ toV b at_ = false ∧ toX b at_ = 0 := by
  have hE : toE b at_ = 1 := if_neg h
  exact ⟨hE, by unfold toV; rw [hE]; rfl, by unfold toX; rw [hE]; rfl⟩
theorem to_end {b : List UInt8} : toE b b.length = 3 ∧ toV b b.length = false ∧ toX b b.length = 0 := by
  have hE : toE b b.length = 3 := by unfold toE; rw [if_pos (by omega), if_pos rfl]
  exact ⟨hE, by unfold toV; rw [hE]; rfl, by unfold toX; rw [hE]; rfl⟩
theorem to_big {b : List UInt8} {T : Nat} (h : T < b.length) (hF : 1 < (b[T].toNat : Int)) : toE b T = 2 ∧ toV b T = false ∧ toX b T = 0 := by
  have hE : toE b T = 2 := by unfold toE; rw [if_pos (by omega), if_neg (by omega), tlB_at h, if_pos hF]
  exact ⟨hE, by unfold toV; rw [hE]; rfl, by unfold toX; rw [hE]; rfl⟩
theorem to_in {b : List UInt8} {T : Nat} (h : T < b.length) (hF : (b[T].toNat : Int) ≤ 1) : toE b T = 0 ∧ toV b T = decide ((b[T].toNat : Int) = 1) ∧ toX b T = (T : Int) + 1 := by
  have hE : toE b T = 0 := by unfold toE; rw [if_pos (by omega), if_neg (by omega), tlB_at h, if_neg (by omega)]
  exact ⟨hE, by unfold toV; rw [hE, tlB_at h]; simp, by unfold toX; rw [hE]; rfl⟩
theorem ret_bii {a a' : Bool} {k k' : IntKind} {b b' c c' : Int} (h1 : a = a') (h2 : b = b') (h3 : c = c') : Ending.returned (.tuple #[.bool a, .int k b, .int k' c]) = .returned (.tuple #[.bool a', .int k b', .int k' c']) := by rw [h1, h2, h3]

set_option maxRecDepth 20000 in
set_option maxHeartbeats 1000000 in
theorem takeOpt_any (A : Option Addr) (c : Nat) (b : List UInt8) (at_ : Int) (w : World) (hok : OkB w A c b) :
    Calls Try.prog 34 #[.slice A b.length c, .int .i64 at_] w fun e w' => e = .returned (.tuple #[.bool (toV b at_), .int .i64 (toX b at_), .int .i64 (toE b at_)]) ∧ w = w' := by
  have Hok := Lib.hid hok
  have hl := hok.2.2.1
  clear hok
  by_cases h : 0 ≤ at_ ∧ at_ ≤ b.length
  · obtain ⟨h1, h2⟩ := h
    obtain ⟨T, rfl⟩ := Int.eq_ofNat_of_zero_le h1
    by_cases h3 : T < b.length
    · have e0 := Lib.hid (tnE_ok (b := b) (T := T) (M := 1) (by omega) (by omega) (by omega))
      have n0 := Lib.hid (tnN_one h3)
      have x0 : Hid (tnX b T 1 = (T : Int) + 1) := by
        show _ = _
        unfold tnX; rw [show (1 : Int) = ((1 : Nat) : Int) from rfl, if_pos e0.out]
      obtain ⟨F, hF⟩ : ∃ F, b[T].toNat = F := ⟨_, rfl⟩
      have hF9 : F ≤ 255 := by have := b[T].toNat_lt; omega
      by_cases c1 : 1 < F
      · obtain ⟨hE, hN, hX⟩ := to_big h3 (by omega)
        rw [hN, hX, hE]
        rw [hF] at n0
        clear hE hN hX hF
        go_enter Try.func34, Try.ntmps34
        go_wp2_with (go_at_call 22; refine (c_takeNum A c b T 1 F (T + 1) 0 _ Hok.out n0.out x0.out e0.out).mono ?_; rintro e w1 ⟨rfl, rfl⟩)
        go_ret3
        exact ⟨rfl, rfl⟩
      · obtain ⟨hE, hN, hX⟩ := to_in h3 (by omega)
        rw [hN, hX, hE]
        rw [hF] at n0 ⊢
        clear hE hN hX hF
        go_enter Try.func34, Try.ntmps34
        go_wp2_with (go_at_call 22; refine (c_takeNum A c b T 1 F (T + 1) 0 _ Hok.out n0.out x0.out e0.out).mono ?_; rintro e w1 ⟨rfl, rfl⟩)
        go_ret3
        exact ⟨ret_bii (by rw [Bool.eq_iff_iff]; simp) rfl rfl, rfl⟩
    · obtain rfl : T = b.length := by omega
      obtain ⟨hE, hN, hX⟩ := to_end (b := b)
      rw [hN, hX, hE]
      clear hE hN hX
      have e1 := Lib.hid (show tnE b b.length 1 = 3 by unfold tnE; rw [if_pos (by omega), if_pos (by omega)])
      have n1 := Lib.hid (show tnN b b.length 1 = 0 by unfold tnN; rw [e1.out]; rfl)
      have x1 := Lib.hid (show tnX b b.length 1 = 0 by unfold tnX; rw [e1.out]; rfl)
      go_enter Try.func34, Try.ntmps34
      go_wp2_with (go_at_call 22; refine (c_takeNum A c b b.length 1 0 0 3 _ Hok.out n1.out x1.out e1.out).mono ?_; rintro e w3 ⟨rfl, rfl⟩)
      go_ret3
      exact ⟨rfl, rfl⟩
  · obtain ⟨hE, hN, hX⟩ := to_out h
    rw [hN, hX, hE]
    clear hE hN hX
    have e1 := Lib.hid (show tnE b at_ 1 = 1 by unfold tnE; rw [if_neg (fun h' => h h'.2)])
    have n1 := Lib.hid (show tnN b at_ 1 = 0 by unfold tnN; rw [e1.out]; rfl)
    have x1 := Lib.hid (show tnX b at_ 1 = 0 by unfold tnX; rw [e1.out]; rfl)
    clear h
    go_enter Try.func34, Try.ntmps34
    go_wp2_with (go_at_call 22; refine (c_takeNum A c b at_ 1 0 0 1 _ Hok.out n1.out x1.out e1.out).mono ?_; rintro e w3 ⟨rfl, rfl⟩)
    go_ret3
    exact ⟨rfl, rfl⟩

set_option maxRecDepth 20000 in
set_option maxHeartbeats 1000000 in
theorem rtakeOpt_any (A : Option Addr) (c : Nat) (b : List UInt8) (at_ : Int) (w : World) (hok : OkB w A c b) :
    Calls Try.prog 37 #[.slice A b.length c, .int .i64 at_] w fun e w' => e = .returned (.tuple #[.bool (toV b at_), .int .i64 (toX b at_), .int .i64 (toE b at_)]) ∧ w = w' := by
  have hl := hok.2.2.1
  have hlc := hok.2.1
  by_cases h : 0 ≤ at_ ∧ at_ ≤ b.length
  · obtain ⟨h1, h2⟩ := h
    obtain ⟨T, rfl⟩ := Int.eq_ofNat_of_zero_le h1
    by_cases h3 : T < b.length
    · obtain ⟨bk, off, rfl, hcell⟩ := hok.some_ h3
      have hc := hcell T h3
      clear hok hcell
      have hne : ((T : Int) == (b.length : Int)) = false := by simp; omega
      have hgt : decide (b.length < T) = false := decide_eq_false (by omega)
      obtain ⟨F, hF⟩ : ∃ F, b[T].toNat = F := ⟨_, rfl⟩
      have hF9 : F ≤ 255 := by have := b[T].toNat_lt; omega
      rw [hF] at hc
      by_cases c1 : 1 < F
      · obtain ⟨hE, hN, hX⟩ := to_big h3 (by omega)
        rw [hN, hX, hE]
        clear hE hN hX hF
        go_enter Try.func37, Try.ntmps37
        go_wp2_with fail
        go_ret3
        exact ⟨rfl, rfl⟩
      · obtain ⟨hE, hN, hX⟩ := to_in h3 (by omega)
        rw [hN, hX, hE]
        rw [hF]
        clear hE hN hX hF
        go_enter Try.func37, Try.ntmps37
        go_wp2_with fail
        go_ret3
        exact ⟨ret_bii (by rw [Bool.eq_iff_iff]; simp) rfl rfl, rfl⟩
    · obtain rfl : T = b.length := by omega
      obtain ⟨hE, hN, hX⟩ := to_end (b := b)
      rw [hN, hX, hE]
      clear hE hN hX hok
      have hgt : decide (b.length < b.length) = false := decide_eq_false (by omega)
      go_enter Try.func37, Try.ntmps37
      go_wp2_with fail
      go_ret3
      exact ⟨rfl, rfl⟩
  · obtain ⟨hE, hN, hX⟩ := to_out h
    rw [hN, hX, hE]
    clear hE hN hX hok
    have hd : at_ < 0 ∨ (0 ≤ at_ ∧ (b.length : Int) < at_) := by omega
    clear h
    rcases hd with hd | ⟨hd, hd'⟩
    all_goals
      go_enter Try.func37, Try.ntmps37
      go_wp2_with fail
      go_ret3
      exact ⟨rfl, rfl⟩
end Go.Proofs.Ytlcclaicodghcaa
