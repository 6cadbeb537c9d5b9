import Derived.Test.YtlcclaicodghcaaNb
namespace Go.Proofs.Ytlcclaicodghcaa

/-! ### What was put, taken -/
theorem drop_len {b r : List UInt8} {T : Nat} (hT : T ≤ b.length) (h : b.drop T = r) : b.length = T + r.length := by
  rw [← h]; simp; omega
theorem getD_drop {b r : List UInt8} {T : Nat} (h : b.drop T = r) (d : UInt8) : b.getD T d = r.getD 0 d := by
  rw [← h]; simp [List.getD]
theorem get_drop {b r : List UInt8} {T : Nat} (h : b.drop T = r) (hT : T < b.length) (h0 : 0 < r.length) : b[T] = r[0] := by
  subst h; simp
theorem tn_num {b more : List UInt8} {T n w : Nat} (hT : T ≤ b.length) (h : b.drop T = numB n w ++ more) (h1 : 1 ≤ w) (h2 : w ≤ 7) (hn : n < 256 ^ w) :
    tnE b T w = 0 ∧ tnN b T w = n ∧ tnX b T w = (T : Int) + w := by
  have hl := drop_len hT h
  rw [List.length_append, numB_len] at hl
  have hE := tnE_ok (b := b) (T := T) h1 h2 (by omega)
  refine ⟨hE, ?_, by unfold tnX; rw [if_pos hE]⟩
  rw [tnN_ok h1 h2 (by omega), h, List.take_append_of_le_length (by rw [numB_len]; exact Nat.le_refl _), List.take_of_length_le (by rw [numB_len]; exact Nat.le_refl _), valB_numB, Nat.mod_eq_of_lt hn]
theorem lenL_cases {n : Int} (h0 : 0 ≤ n) (h1 : n ≤ 1073741823) : lenL n = numB (lenV n).toNat (lenW n) := by
  unfold lenL; rw [if_pos (show lenE n = 0 from if_pos ⟨h0, h1⟩)]
theorem lenL_length {n : Int} (h0 : 0 ≤ n) (h1 : n ≤ 1073741823) : (lenL n).length = lenW n := by rw [lenL_cases h0 h1, numB_len]
theorem tl_len {b more : List UInt8} {T : Nat} {n : Int} (hT : T ≤ b.length) (h0 : 0 ≤ n) (h1 : n ≤ 1073741823) (h : b.drop T = lenL n ++ more) :
    tlE b T = 0 ∧ tlN b T = n ∧ tlX b T = (T : Int) + (lenL n).length := by
  have hl := drop_len hT h
  have hL := lenL_length h0 h1
  rw [List.length_append, hL] at hl
  have hC := lenL_cases h0 h1
  have hd : n < 64 ∨ (64 ≤ n ∧ n < 16384) ∨ (16384 ≤ n) := by omega
  rcases hd with hd | ⟨hd, hd'⟩ | hd
  · have hW : lenW n = 1 := if_pos hd
    have hV : lenV n = n := if_pos hd
    rw [hW] at hl hC
    rw [hV] at hC
    have hTl : T < b.length := by omega
    have hb : (b[T].toNat : Int) = n := by
      have e := get_drop h hTl (by rw [List.length_append, hL, hW]; omega)
      rw [e]
      simp only [hC, numB]
      simp
      omega
    obtain ⟨hE, hN, hX⟩ := tl_one hTl (by omega)
    exact ⟨hE, by rw [hN, hb], by rw [hX, hL, hW]; rfl⟩
  · have hW : lenW n = 2 := by unfold lenW; rw [if_neg (by omega), if_pos hd']
    have hV : lenV n = 16384 + n := by unfold lenV; rw [if_neg (by omega), if_pos hd']
    rw [hW] at hl hC
    rw [hV] at hC
    have hTl : T < b.length := by omega
    have hb : (b[T].toNat : Int) = (16384 + n) / 256 := by
      have e := get_drop h hTl (by rw [List.length_append, hL, hW]; omega)
      rw [e]
      simp only [hC, numB]
      simp
      omega
    obtain ⟨v, v1, v2, v3, v4⟩ := tl_two (b := b) (T := T) (by omega) (by omega) (by omega)
    have hv : (v : Int) = 16384 + n := by
      have := (tn_num (n := (16384 + n).toNat) (w := 2) hT (by rw [h, hC]) (by omega) (by omega) (by omega)).2.1
      rw [show ((2 : Nat) : Int) = 2 from rfl, v1] at this
      omega
    rw [if_neg (by omega)] at v4
    exact ⟨v4.1, by rw [v4.2.1]; omega, by rw [v4.2.2, hL, hW]; rfl⟩
  · have hW : lenW n = 4 := by unfold lenW; rw [if_neg (by omega), if_neg (by omega)]
    have hV : lenV n = 2147483648 + n := by unfold lenV; rw [if_neg (by omega), if_neg (by omega)]
    rw [hW] at hl hC
    rw [hV] at hC
    have hTl : T < b.length := by omega
    have hb : (b[T].toNat : Int) = (2147483648 + n) / 16777216 := by
      have e := get_drop h hTl (by rw [List.length_append, hL, hW]; omega)
      rw [e]
      simp only [hC, numB]
      simp
      omega
    obtain ⟨v, v1, v2, v3, v4⟩ := tl_four (b := b) (T := T) (by omega) (by omega) (by omega)
    have hv : (v : Int) = 2147483648 + n := by
      have := (tn_num (n := (2147483648 + n).toNat) (w := 4) hT (by rw [h, hC]) (by omega) (by omega) (by omega)).2.1
      rw [show ((4 : Nat) : Int) = 4 from rfl, v1] at this
      omega
    rw [if_neg (by omega)] at v4
    exact ⟨v4.1, by rw [v4.2.1]; omega, by rw [v4.2.2, hL, hW]; rfl⟩
theorem rowE_ok {x : List UInt8} (h : x.length ≤ 1073741823) : rowE x = 0 := if_pos (by omega)
theorem rowL_ok {x : List UInt8} (h : x.length ≤ 1073741823) : rowL x = lenL x.length ++ x := by unfold rowL; rw [if_pos (rowE_ok h)]
theorem tr_row {b more x : List UInt8} {T : Nat} {most : Int} (hT : T ≤ b.length) (hx : x.length ≤ 1073741823) (h : b.drop T = rowL x ++ more) :
    trE b T most = (if most < x.length then 4 else 0) ∧ (trE b T most = 0 → trL b T most = x ∧ trX b T most = (T : Int) + (rowL x).length) := by
  have hl := drop_len hT h
  rw [rowL_ok hx, List.append_assoc] at h
  rw [rowL_ok hx, List.length_append, List.length_append] at hl
  obtain ⟨hE, hN, hX⟩ := tl_len hT (by omega) (by omega) h
  have hE' : trE b T most = (if most < x.length then 4 else 0) := by
    unfold trE; rw [if_pos hE, hN, hX]
    by_cases hm : most < x.length
    · rw [if_pos hm, if_pos hm]
    · rw [if_neg hm, if_neg hm, if_neg (by omega)]
  refine ⟨hE', fun h0 => ?_⟩
  have hX' : (tlX b T).toNat = T + (lenL x.length).length := by rw [hX]; omega
  constructor
  · unfold trL
    rw [if_pos h0, hX', hN, ← List.drop_drop, h, List.drop_left, Int.toNat_natCast, List.take_left]
  · unfold trX; rw [if_pos h0, hX, hN, rowL_ok hx, List.length_append]; omega

/-! ### What is cut off -/
theorem tl_cut {n : Int} {k : Nat} (h0 : 0 ≤ n) (h1 : n ≤ 1073741823) (hk : k < (lenL n).length) : tlE ((lenL n).take k) 0 = 3 := by
  have hL := lenL_length h0 h1
  have hC := lenL_cases h0 h1
  by_cases hz : k = 0
  · subst hz; exact tl_end (b := (lenL n).take 0)
  · have hlk : ((lenL n).take k).length = k := by simp; omega
    have hT : 0 < ((lenL n).take k).length := by omega
    have hd : n < 64 ∨ (64 ≤ n ∧ n < 16384) ∨ (16384 ≤ n) := by omega
    rcases hd with hd | ⟨hd, hd'⟩ | hd
    · have hW : lenW n = 1 := if_pos hd
      omega
    · have hW : lenW n = 2 := by unfold lenW; rw [if_neg (by omega), if_pos hd']
      have hV : lenV n = 16384 + n := by unfold lenV; rw [if_neg (by omega), if_pos hd']
      have hb : (((lenL n).take k)[0].toNat : Int) = (16384 + n) / 256 := by
        rw [List.getElem_take]
        simp only [hC, hW, hV, numB]
        simp
        omega
      exact tl_short (T := 0) hT (by omega) (by unfold tlW; rw [if_neg (by omega), if_pos (by omega)]; omega)
    · have hW : lenW n = 4 := by unfold lenW; rw [if_neg (by omega), if_neg (by omega)]
      have hV : lenV n = 2147483648 + n := by unfold lenV; rw [if_neg (by omega), if_neg (by omega)]
      have hb : (((lenL n).take k)[0].toNat : Int) = (2147483648 + n) / 16777216 := by
        rw [List.getElem_take]
        simp only [hC, hW, hV, numB]
        simp
        omega
      exact tl_short (T := 0) hT (by omega) (by unfold tlW; rw [if_neg (by omega), if_neg (by omega)]; omega)
theorem tr_cut {x : List UInt8} {k : Nat} {most : Int} (hx : x.length ≤ 1073741823) (hm : (x.length : Int) ≤ most) (hk : k < (rowL x).length) : trE ((rowL x).take k) 0 most = 3 := by
  rw [rowL_ok hx] at hk ⊢
  rw [List.length_append] at hk
  by_cases h : k < (lenL x.length).length
  · have e : (lenL x.length ++ x).take k = (lenL x.length).take k := List.take_append_of_le_length (by omega)
    have := tl_cut (by omega) (by omega) h
    unfold trE; rw [e, this]; rfl
  · have e : (lenL x.length ++ x).take k = lenL x.length ++ x.take (k - (lenL x.length).length) := by
      rw [List.take_append, List.take_of_length_le (by omega)]
    rw [e]
    obtain ⟨hE, hN, hX⟩ := tl_len (b := lenL x.length ++ x.take (k - (lenL x.length).length)) (T := 0) (Nat.zero_le _) (by omega) (by omega) rfl
    rw [show ((0 : Nat) : Int) = 0 from rfl] at hE hN hX
    unfold trE
    rw [if_pos hE, hN, hX, if_neg (by omega), if_pos]
    simp only [List.length_append, List.length_take]
    omega
end Go.Proofs.Ytlcclaicodghcaa
