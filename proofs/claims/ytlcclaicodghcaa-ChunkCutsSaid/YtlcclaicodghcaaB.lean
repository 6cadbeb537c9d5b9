import Derived.Test.YtlcclaicodghcaaA
namespace Go.Proofs.Ytlcclaicodghcaa
open Go.RowKit

theorem ret_sl2 {A : Option Addr} {n m c : Nat} {v : Value} (h : n = m) : Ending.returned (.tuple #[.slice A n c, v]) = .returned (.tuple #[.slice A m c, v]) := by rw [h]
theorem pow_shift (w : Nat) : (2 : Nat) ^ (8 * w) = 256 ^ w := by rw [Nat.pow_mul]
/-- The row under way: k bytes of a number, the rest 0. -/
def fillN (n w k : Nat) : List UInt8 := (numB n w).take k ++ List.replicate (w - k) 0
theorem fillN_len {n w k : Nat} (h : k ≤ w) : (fillN n w k).length = w := by simp [fillN, numB_len]; omega
theorem fillN_at {n w k : Nat} (h : k < w) : ((fillN n w k).map encB)[k]? = some (encB 0) := by
  rw [List.getElem?_map, fillN, List.getElem?_append_right (by simp [numB_len]; omega), show w - k = (w - (k + 1)) + 1 by omega]
  simp [numB_len, Nat.min_eq_left (Nat.le_of_lt h), List.replicate_succ]
theorem fillN_step {n w k : Nat} (h : k < w) : ((fillN n w k).map encB).set k (encB (UInt8.ofNat (n / 256 ^ (w - 1 - k)))) = (fillN n w (k + 1)).map encB := by
  have hl : ((numB n w).take k).length = k := by simp [numB_len]; omega
  have hk : k < (numB n w).length := by rw [numB_len]; exact h
  have hg : (numB n w)[k] = UInt8.ofNat (n / 256 ^ (w - 1 - k)) := by
    have := numB_get n w k h
    rw [List.getElem?_eq_getElem hk] at this
    exact Option.some.inj this
  have e : (fillN n w k).set k (UInt8.ofNat (n / 256 ^ (w - 1 - k))) = fillN n w (k + 1) := by
    unfold fillN
    rw [show w - k = (w - (k + 1)) + 1 by omega, List.replicate_succ, List.set_append_right _ _ (by omega), hl, Nat.sub_self, List.set_cons_zero, List.take_succ_eq_append_getElem hk, hg]
    simp
  rw [← e, List.map_set]
theorem made_u8 (n : Nat) : (madeCells (Value.int IntKind.u8 0).cells (n * 1)).toList = (List.replicate n (0 : UInt8)).map encB := by
  rw [Nat.mul_one, show (Value.int IntKind.u8 0).cells = #[.int .u8 0] from rfl, toList_madeCells_one]; simp [encB]

theorem enc_shift {N e : Nat} : encB (UInt8.ofNat (N / 256 ^ e)) = .int .u8 ((N : Int) / 2 ^ (8 * e) % 256) := by
  unfold encB
  rw [show (N : Int) / 2 ^ (8 * e) % 256 = ((N / 2 ^ (8 * e) % 256 : Nat) : Int) by simp, pow_shift, UInt8.toNat_ofNat']
theorem fillN_all {n w : Nat} : fillN n w w = numB n w := by unfold fillN; rw [Nat.sub_self, List.take_of_length_le (by rw [numB_len]; exact Nat.le_refl _)]; simp
set_option maxRecDepth 20000 in
set_option maxHeartbeats 1000000 in
theorem num_any (n m : Int) (w : World) (hn : -9223372036854775808 ≤ n) (hn' : n ≤ 9223372036854775807) :
    Calls Try.prog 20 #[.int .i64 n, .int .i64 m] w fun e w' => (∃ A c, e = .returned (.tuple #[.slice A (numL n m).length c, .int .i64 (numE n m)]) ∧ OwnB w' w.heap.size A c (numL n m)) ∧ Below w.heap.size w w' := by
  by_cases h : okN n m
  · rw [show numL n m = numB n.toNat m.toNat from if_pos h, show numE n m = 0 from if_pos h]
    obtain ⟨⟨h1, h2⟩, h3, h4⟩ := h
    obtain ⟨N, rfl⟩ := Int.eq_ofNat_of_zero_le h3
    obtain ⟨M, rfl⟩ := Int.eq_ofNat_of_zero_le (by omega : 0 ≤ m)
    rw [Int.toNat_natCast] at h4
    rw [Int.toNat_natCast, Int.toNat_natCast]
    have h5 : (N : Int) / 2 ^ (8 * M) = 0 := by
      have : N / 256 ^ M = 0 := Nat.div_eq_of_lt (by omega)
      have e : ((N / 2 ^ (8 * M) : Nat) : Int) = 0 := by rw [pow_shift, this]; rfl
      simpa using e
    have h6 : decide (0 < (N : Int) / 2 ^ (8 * M)) = false := by rw [h5]; rfl
    clear h4 h5
    obtain ⟨i0, hi, hz0, hz1, hz2⟩ := info_parts info5
    go_enter Try.func20, Try.ntmps20
    go_wp2_with (at_make; refine wpList_make_full _ rfl _ _ 22 rfl w.heap.size 5 i0 (.int .u8 0) 1 Try.underlying22 hi hz0 hz1 .i64 .i64 _ _ M rfl rfl rfl rfl (by rw [hz2]; omega) (by simp only [maxLen]; omega) (Nat.le_refl _) ?_; intro w1 hown1 hgrow1; have Hb1 := Lib.hid (bl_grown (Below.refl _ _) hgrow1 (fun k hk => by cases hk)); have Ho1 := Lib.hid hown1; clear hgrow1 hown1)
    go_loopw [29] (fun i wr => ∃ k : Nat, k ≤ M ∧ i = .int .i64 k ∧ Hid (wr.ownsRow w.heap.size 5 1 (.slice (some ⟨w.heap.size, 0, none⟩) M M) M ((fillN N M k).map encB)) ∧ Hid (Below w.heap.size w wr)) (fun i _ => M - (intOf i).toNat)
    case atStart => exact ⟨0, Nat.zero_le _, rfl, by have h := Ho1.out; rw [made_u8] at h; exact h, Hb1.out⟩
    case round =>
      obtain ⟨k, hk, rfl, Ho, Hb⟩ := hrel
      by_cases hlt : k < M
      · have hce := Ho.cellAt k (by omega)
        have hfe := Ho.frozenAt k
        rw [fillN_at hlt] at hce
        go_wp2_with fail
        go_roundw
        case rel =>
          refine ⟨k + 1, by omega, by go_num, ?_, bl_set Hb (Nat.le_refl _) _⟩
          rw [← fillN_step hlt, enc_shift]
          exact (Ho.stored k _).1
        case measure => simp [intOf]; omega
      · have hk' : k = M := by omega
        have HE := Lib.hid hk'
        clear hk'
        go_wp2_with fail
        go_ret2
        have hO : wr.ownsRow w.heap.size 5 1 (.slice (some ⟨w.heap.size, 0, none⟩) (numB N M).length M) (numB N M).length ((numB N M).map encB) := by
          have h := Ho.out
          rw [HE.out, fillN_all] at h
          rw [numB_len]; exact h
        exact ⟨⟨some ⟨w.heap.size, 0, none⟩, M, ret_sl2 (numB_len N M).symm, hO, by rw [numB_len]; omega⟩, Hb⟩
  · rw [show numL n m = [] from if_neg h, show numE n m = 1 from if_neg h]
    have hd : m < 1 ∨ (1 ≤ m ∧ 7 < m) ∨ (1 ≤ m ∧ m ≤ 7 ∧ n < 0) ∨ ((1 ≤ m ∧ m ≤ 7) ∧ 0 ≤ n ∧ ((256 ^ m.toNat : Nat) : Int) ≤ n) := by
      unfold okN at h; omega
    clear h
    rcases hd with hd | ⟨hd, hd'⟩ | ⟨hd, hd', hd2⟩ | ⟨⟨h1, h2⟩, h3, h4⟩
    · go_enter Try.func20, Try.ntmps20
      go_wp2_with fail
      go_ret2
      exact ⟨⟨none, 0, rfl, own_nil _ _⟩, Below.refl _ _⟩
    · go_enter Try.func20, Try.ntmps20
      go_wp2_with fail
      go_ret2
      exact ⟨⟨none, 0, rfl, own_nil _ _⟩, Below.refl _ _⟩
    · go_enter Try.func20, Try.ntmps20
      go_wp2_with fail
      go_ret2
      exact ⟨⟨none, 0, rfl, own_nil _ _⟩, Below.refl _ _⟩
    · obtain ⟨N, rfl⟩ := Int.eq_ofNat_of_zero_le h3
      obtain ⟨M, rfl⟩ := Int.eq_ofNat_of_zero_le (by omega : 0 ≤ m)
      rw [Int.toNat_natCast] at h4
      have h6 : decide (0 < (N : Int) / 2 ^ (8 * M)) = true := by
        have h7 : 0 < N / 256 ^ M := Nat.div_pos (by omega) (Nat.pow_pos (by omega))
        rw [decide_eq_true_iff, show (N : Int) / 2 ^ (8 * M) = ((N / 2 ^ (8 * M) : Nat) : Int) by simp, pow_shift]
        omega
      clear h4
      go_enter Try.func20, Try.ntmps20
      go_wp2_with fail
      go_ret2
      exact ⟨⟨none, 0, rfl, own_nil _ _⟩, Below.refl _ _⟩

theorem c_power (n p : Int) (w : World) (h0 : 0 ≤ n) (h1 : n ≤ 7) (hp : ((256 ^ n.toNat : Nat) : Int) = p) : Calls Try.prog 62 #[.int .i64 n] w fun e w' => e = .returned (.int .i64 p) ∧ w = w' := by
  subst hp; exact power_any n w h0 h1
theorem pow_bd {M : Nat} (h : M ≤ 7) : 1 ≤ 256 ^ M ∧ 256 ^ M ≤ 72057594037927936 :=
  ⟨Nat.pow_pos (by omega), by have : 256 ^ M ≤ 256 ^ 7 := Nat.pow_le_pow_right (by omega) h; exact this⟩
set_option maxRecDepth 20000 in
set_option maxHeartbeats 1000000 in
theorem rnum_any (n m : Int) (w : World) (hn : -9223372036854775808 ≤ n) (hn' : n ≤ 9223372036854775807) :
    Calls Try.prog 21 #[.int .i64 n, .int .i64 m] w fun e w' => (∃ A c, e = .returned (.tuple #[.slice A (numL n m).length c, .int .i64 (numE n m)]) ∧ OwnB w' w.heap.size A c (numL n m)) ∧ Below w.heap.size w w' := by
  by_cases h : okN n m
  · rw [show numL n m = numB n.toNat m.toNat from if_pos h, show numE n m = 0 from if_pos h]
    obtain ⟨⟨h1, h2⟩, h3, h4⟩ := h
    obtain ⟨N, rfl⟩ := Int.eq_ofNat_of_zero_le h3
    obtain ⟨M, rfl⟩ := Int.eq_ofNat_of_zero_le (by omega : 0 ≤ m)
    rw [Int.toNat_natCast] at h4
    rw [Int.toNat_natCast, Int.toNat_natCast]
    obtain ⟨p, hp⟩ : ∃ p, 256 ^ M = p := ⟨_, rfl⟩
    rw [hp] at h4
    have hp' := Lib.hid (show ((256 ^ (M : Int).toNat : Nat) : Int) = p by rw [Int.toNat_natCast, hp])
    have h6 : decide (p ≤ N) = false := decide_eq_false (by omega)
    clear hp h4
    obtain ⟨i0, hi, hz0, hz1, hz2⟩ := info_parts info5
    go_enter Try.func21, Try.ntmps21
    go_wp2_with (go_at_call 62; refine (c_power M p _ (by omega) (by omega) hp'.out).mono ?_; rintro e w1 ⟨rfl, rfl⟩)
    go_loopw [6, 7] (fun v i wr => ∃ k : Nat, k ≤ M ∧ i = .int .i64 ((M : Int) - 1 - k) ∧ ∃ A c bs, v = .slice A (List.length bs) c ∧ Hid (OwnB wr w.heap.size A c bs) ∧ Hid (bs = (numB N M).take k) ∧ Hid (Below w.heap.size w wr)) (fun _ i _ => (1 + intOf i).toNat)
    case atStart => exact ⟨0, Nat.zero_le _, by go_num, none, 0, [], rfl, own_nil _ _, by show _ = _; simp, Below.refl _ _⟩
    case round =>
      obtain ⟨k, hk, rfl, A, c, bs, rfl, Ho, hbs, Hb⟩ := hrel
      by_cases hlt : k < M
      · obtain ⟨q, hq⟩ : ∃ q, 256 ^ (M - 1 - k) = q := ⟨_, rfl⟩
        have hq1 : 1 ≤ q := by rw [← hq]; exact Nat.pow_pos (by omega)
        have hqp := Lib.hid (show ((256 ^ ((M : Int) - 1 - k).toNat : Nat) : Int) = q by rw [show ((M : Int) - 1 - k).toNat = M - 1 - k by omega, hq])
        obtain ⟨x, hx⟩ : ∃ x, UInt8.ofNat (N / q) = x := ⟨_, rfl⟩
        have hxe : (N : Int) / q % 256 = (x.toNat : Int) := by rw [← hx, UInt8.toNat_ofNat']; simp
        have hbl := Lib.hid (show bs.length = k by rw [hbs.out, List.length_take, numB_len]; omega)
        have hbn := Lib.hid (show bs ++ [x] = (numB N M).take (k + 1) by
          have hkl : k < (numB N M).length := by rw [numB_len]; exact hlt
          have := numB_get N M k hlt
          rw [List.getElem?_eq_getElem hkl] at this
          rw [List.take_succ_eq_append_getElem hkl, Option.some.inj this, hbs.out, hq, hx])
        have hd0 : (0 : Int) ≤ (N : Int) / q := Int.ediv_nonneg (by omega) (by omega)
        have hd1 : (N : Int) / q ≤ 9223372036854775807 := Int.le_trans (Int.ediv_le_self _ (by omega)) hn'
        clear hq hx
        go_wp2_with (first | (go_at_call 62; refine (c_power _ q _ (by omega) (by omega) hqp.out).mono ?_; rintro e w1 ⟨rfl, rfl⟩) | (at_builtin; refine append_any _ rfl (.tmp 30) (.tmp 37) 22 rfl w.heap.size i0 Try.underlying22 hi hz0 hz1 hz2 A c bs rfl (OwnB.ext Ho.out (bl_alloc (Below.refl _ _) _)) _ 1 [x] rfl (own_one _ _ rfl x).ok (by have := hbl.out; simp; omega) (bl_alloc Hb.out _).size ?_; intro A2 c2 b2 w2 hb2 ho2 hg2))
        go_roundw
        case rel => exact ⟨k + 1, by omega, by go_num, A2, c2, b2, rfl, ho2, hb2.out.trans hbn.out, bl_grown (bl_alloc Hb.out _) hg2 (OwnB.low Ho.out (Nat.le_refl _))⟩
        case measure => simp [intOf]; omega
      · have HE : Hid (k = M) := by show _ = _; omega
        have hbs' : Hid (bs = numB N M) := by show _ = _; rw [hbs.out, HE.out, List.take_of_length_le (by rw [numB_len]; exact Nat.le_refl _)]
        go_wp2_with fail
        go_ret2
        exact ⟨⟨A, c, ret_sl2 (by rw [hbs'.out]), by rw [← hbs'.out]; exact Ho⟩, Hb⟩
  · rw [show numL n m = [] from if_neg h, show numE n m = 1 from if_neg h]
    have hd : m < 1 ∨ (1 ≤ m ∧ 7 < m) ∨ (1 ≤ m ∧ m ≤ 7 ∧ n < 0) ∨ ((1 ≤ m ∧ m ≤ 7) ∧ 0 ≤ n ∧ ((256 ^ m.toNat : Nat) : Int) ≤ n) := by
      unfold okN at h; omega
    clear h
    rcases hd with hd | ⟨hd, hd'⟩ | ⟨hd, hd', hd2⟩ | ⟨⟨h1, h2⟩, h3, h4⟩
    · go_enter Try.func21, Try.ntmps21
      go_wp2_with fail
      go_ret2
      exact ⟨⟨none, 0, rfl, own_nil _ _⟩, Below.refl _ _⟩
    · go_enter Try.func21, Try.ntmps21
      go_wp2_with fail
      go_ret2
      exact ⟨⟨none, 0, rfl, own_nil _ _⟩, Below.refl _ _⟩
    · go_enter Try.func21, Try.ntmps21
      go_wp2_with fail
      go_ret2
      exact ⟨⟨none, 0, rfl, own_nil _ _⟩, Below.refl _ _⟩
    · obtain ⟨p, hp⟩ : ∃ p : Int, ((256 ^ m.toNat : Nat) : Int) = p := ⟨_, rfl⟩
      rw [hp] at h4
      have hp' := Lib.hid hp
      clear hp
      go_enter Try.func21, Try.ntmps21
      go_wp2_with (go_at_call 62; refine (c_power m p _ (by omega) (by omega) hp'.out).mono ?_; rintro e w1 ⟨rfl, rfl⟩)
      go_ret2
      exact ⟨⟨none, 0, rfl, own_nil _ _⟩, Below.refl _ _⟩
end Go.Proofs.Ytlcclaicodghcaa
