import Derived.Test.YtlcclaicodghcaaNa
namespace Go.Proofs.Ytlcclaicodghcaa

/-! ### The length at a place, by its first byte -/
theorem tlB_at {b : List UInt8} {T : Nat} (h : T < b.length) : tlB b T = (b[T].toNat : Int) := by
  unfold tlB; rw [Int.toNat_natCast]; simp [h]
theorem tnE_ok {b : List UInt8} {T M : Nat} (h1 : 1 ≤ M) (h2 : M ≤ 7) (h : T + M ≤ b.length) : tnE b T M = 0 := by
  unfold tnE; rw [if_pos (by omega), if_neg (by omega)]
theorem tnN_ok {b : List UInt8} {T M : Nat} (h1 : 1 ≤ M) (h2 : M ≤ 7) (h : T + M ≤ b.length) : tnN b T M = (valB ((b.drop T).take M) : Int) := by
  unfold tnN; rw [if_pos (tnE_ok h1 h2 h), Int.toNat_natCast, Int.toNat_natCast]
theorem tnN_one {b : List UInt8} {T : Nat} (h : T < b.length) : tnN b T 1 = (b[T].toNat : Int) := by
  rw [show (1 : Int) = ((1 : Nat) : Int) from rfl, tnN_ok (by omega) (by omega) (by omega), show (b.drop T).take 1 = [b[T]] by rw [List.drop_eq_getElem_cons h]; rfl]
  simp [valB]
theorem val_first {b : List UInt8} {T M : Nat} (h : T + (M + 1) ≤ b.length) : ∃ r, r < 256 ^ M ∧ valB ((b.drop T).take (M + 1)) = (b[T]'(by omega)).toNat * 256 ^ M + r := by
  have hT : T < b.length := by omega
  refine ⟨valB ((b.drop (T + 1)).take M), ?_, ?_⟩
  · have := valB_lt ((b.drop (T + 1)).take M)
    rw [show ((b.drop (T + 1)).take M).length = M by simp; omega] at this
    exact this
  · rw [List.drop_eq_getElem_cons hT, List.take_succ_cons, valB_cons, show ((b.drop (T + 1)).take M).length = M by simp; omega]

theorem tl_out {b : List UInt8} {at_ : Int} (h : ¬ (0 ≤ at_ ∧ at_ ≤ b.length)) : tlE b at_ = 1 := by unfold tlE; rw [if_neg h]
theorem tl_end {b : List UInt8} : tlE b b.length = 3 := by unfold tlE; rw [if_pos (by omega), if_pos rfl]
theorem tl_bad {b : List UInt8} {at_ : Int} (h : tlE b at_ ≠ 0) : tlN b at_ = 0 ∧ tlX b at_ = 0 := ⟨by unfold tlN; rw [if_neg h], by unfold tlX; rw [if_neg h]⟩
theorem tl_three {b : List UInt8} {T : Nat} (h : T < b.length) (hF : 192 ≤ (b[T].toNat : Int)) : tlE b T = 2 := by
  unfold tlE; rw [if_pos (by omega), if_neg (by omega), tlB_at h, if_pos hF]
theorem tl_short {b : List UInt8} {T : Nat} (h : T < b.length) (hF : (b[T].toNat : Int) < 192) (hs : (b.length : Int) - T < tlW (b[T].toNat : Int)) : tlE b T = 3 := by
  unfold tlE; rw [if_pos (by omega), if_neg (by omega), tlB_at h, if_neg (by omega), if_pos hs]
theorem tl_val {b : List UInt8} {T : Nat} (h : T < b.length) (hF : (b[T].toNat : Int) < 192) (hs : ¬ (b.length : Int) - T < tlW (b[T].toNat : Int)) :
    tlE b T = if (lenW (tnN b T (tlW (b[T].toNat : Int)) - tlS (b[T].toNat : Int)) : Int) < tlW (b[T].toNat : Int) then 2 else 0 := by
  unfold tlE; rw [if_pos (by omega), if_neg (by omega), tlB_at h, if_neg (by omega), if_neg hs]
theorem tl_one {b : List UInt8} {T : Nat} (h : T < b.length) (hF : (b[T].toNat : Int) < 64) : tlE b T = 0 ∧ tlN b T = (b[T].toNat : Int) ∧ tlX b T = (T : Int) + 1 := by
  have hW : tlW (b[T].toNat : Int) = 1 := if_pos hF
  have hS : tlS (b[T].toNat : Int) = 0 := if_pos hF
  have hE : tlE b T = 0 := by
    rw [tl_val h (by omega) (by rw [hW]; omega), hW, hS, tnN_one h, show lenW ((b[T].toNat : Int) - 0) = 1 by unfold lenW; rw [if_pos (by omega)]]
    rfl
  refine ⟨hE, ?_, ?_⟩
  · unfold tlN; rw [if_pos hE, tlB_at h, hW, hS, tnN_one h]; omega
  · unfold tlX; rw [if_pos hE, tlB_at h, hW]
/-- The number of two bytes, or four, by the first. -/
theorem tn_range {b : List UInt8} {T M : Nat} (hM : M + 1 ≤ 7) (h : T + (M + 1) ≤ b.length) : ∃ v : Nat, tnN b T ((M + 1 : Nat) : Int) = (v : Int) ∧ v = valB ((b.drop T).take (M + 1)) ∧ (b[T]'(by omega)).toNat * 256 ^ M ≤ v ∧ v < ((b[T]'(by omega)).toNat + 1) * 256 ^ M := by
  obtain ⟨r, h1, h2⟩ := val_first h
  refine ⟨_, tnN_ok (by omega) hM h, rfl, ?_, ?_⟩
  · rw [h2]; omega
  · rw [h2, Nat.add_mul]; omega
theorem tl_two {b : List UInt8} {T : Nat} (h : T + 2 ≤ b.length) (hF : 64 ≤ ((b[T]'(by omega)).toNat : Int)) (hF' : ((b[T]'(by omega)).toNat : Int) < 128) :
    ∃ v : Nat, tnN b T 2 = (v : Int) ∧ 16384 ≤ v ∧ v < 32768 ∧ (if v < 16448 then tlE b T = 2 else tlE b T = 0 ∧ tlN b T = (v : Int) - 16384 ∧ tlX b T = (T : Int) + 2) := by
  have hT : T < b.length := by omega
  have hW : tlW (b[T].toNat : Int) = 2 := by unfold tlW; rw [if_neg (by omega), if_pos hF']
  have hS : tlS (b[T].toNat : Int) = 16384 := by unfold tlS; rw [if_neg (by omega), if_pos hF']
  obtain ⟨v, h1, _, h2, h3⟩ := tn_range (M := 1) (by omega) h
  rw [show (((1 + 1 : Nat)) : Int) = 2 from rfl] at h1
  have h4 : 16384 ≤ v := by rw [Nat.pow_one] at h2; omega
  have h5 : v < 32768 := by rw [Nat.pow_one] at h3; omega
  refine ⟨v, h1, h4, h5, ?_⟩
  have hE := tl_val hT (by omega) (by rw [hW]; omega)
  rw [hW, hS, h1] at hE
  by_cases hv : v < 16448
  · rw [if_pos hv, hE, show lenW ((v : Int) - 16384) = 1 by unfold lenW; rw [if_pos (by omega)]]; rfl
  · rw [if_neg hv]
    have hE' : tlE b T = 0 := by rw [hE, show lenW ((v : Int) - 16384) = 2 by unfold lenW; rw [if_neg (by omega), if_pos (by omega)]]; rfl
    refine ⟨hE', ?_, ?_⟩
    · unfold tlN; rw [if_pos hE', tlB_at hT, hW, hS, h1]
    · unfold tlX; rw [if_pos hE', tlB_at hT, hW]
theorem tl_four {b : List UInt8} {T : Nat} (h : T + 4 ≤ b.length) (hF : 128 ≤ ((b[T]'(by omega)).toNat : Int)) (hF' : ((b[T]'(by omega)).toNat : Int) < 192) :
    ∃ v : Nat, tnN b T 4 = (v : Int) ∧ 2147483648 ≤ v ∧ v < 3221225472 ∧ (if v < 2147500032 then tlE b T = 2 else tlE b T = 0 ∧ tlN b T = (v : Int) - 2147483648 ∧ tlX b T = (T : Int) + 4) := by
  have hT : T < b.length := by omega
  have hW : tlW (b[T].toNat : Int) = 4 := by unfold tlW; rw [if_neg (by omega), if_neg (by omega)]
  have hS : tlS (b[T].toNat : Int) = 2147483648 := by unfold tlS; rw [if_neg (by omega), if_neg (by omega)]
  obtain ⟨v, h1, _, h2, h3⟩ := tn_range (M := 3) (by omega) h
  rw [show (((3 + 1 : Nat)) : Int) = 4 from rfl] at h1
  rw [show (256 : Nat) ^ 3 = 16777216 from rfl] at h2 h3
  have h4 : 2147483648 ≤ v := by omega
  have h5 : v < 3221225472 := by omega
  refine ⟨v, h1, h4, h5, ?_⟩
  have hE := tl_val hT (by omega) (by rw [hW]; omega)
  rw [hW, hS, h1] at hE
  by_cases hv : v < 2147500032
  · rw [if_pos hv, hE]
    have : (lenW ((v : Int) - 2147483648) : Int) < 4 := by
      unfold lenW
      by_cases h6 : (v : Int) - 2147483648 < 64
      · rw [if_pos h6]; decide
      · rw [if_neg h6, if_pos (by omega)]; decide
    rw [if_pos this]
  · rw [if_neg hv]
    have hE' : tlE b T = 0 := by rw [hE, show lenW ((v : Int) - 2147483648) = 4 by unfold lenW; rw [if_neg (by omega), if_neg (by omega)]]; rfl
    refine ⟨hE', ?_, ?_⟩
    · unfold tlN; rw [if_pos hE', tlB_at hT, hW, hS, h1]
    · unfold tlX; rw [if_pos hE', tlB_at hT, hW]
end Go.Proofs.Ytlcclaicodghcaa
