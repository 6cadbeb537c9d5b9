import Derived.Test.YtlcclaicodghcaaPf
namespace Go.Proofs.Ytlcclaicodghcaa

/-! ### The head that bytes begin with (no program here) -/
/-- The section at a place: its error, itself, the place behind it. -/
def sectE (b : List UInt8) (t : Int) : Int :=
  if trE b t 255 = 0 then (if tnE b (trX b t 255) 6 = 0 then tnE b (tnX b (trX b t 255) 6) 4 else tnE b (trX b t 255) 6) else trE b t 255
def sectV (b : List UInt8) (t : Int) : SectD := if sectE b t = 0 then (trL b t 255, tnN b (trX b t 255) 6, tnN b (tnX b (trX b t 255) 6) 4) else noS
def sectX (b : List UInt8) (t : Int) : Int := if sectE b t = 0 then tnX b (tnX b (trX b t 255) 6) 4 else 0
/-- The first sections behind the head's fore part. -/
def restT (b : List UInt8) : Nat → Int × List SectD × Int
  | 0 => (0, [], 38)
  | k + 1 => if (restT b k).1 = 0 then (if sectE b (restT b k).2.2 = 0 then (0, (restT b k).2.1 ++ [sectV b (restT b k).2.2], sectX b (restT b k).2.2) else (sectE b (restT b k).2.2, [], 0)) else ((restT b k).1, [], 0)
def verN (b : List UInt8) : Int := tnN b 3 1
def saltB (b : List UInt8) : List UInt8 := (b.drop 4).take 16
def rndN (b : List UInt8) : Int := tnN b 20 4
def nonB (b : List UInt8) : List UInt8 := (b.drop 24).take 12
def manyN (b : List UInt8) : Int := tnN b 36 2
def restOf (b : List UInt8) : Int × List SectD × Int := restT b (manyN b).toNat
def readE (b : List UInt8) : Int :=
  if b.length < 38 then 3 else
  if b.take 3 = [80, 89, 88] then
    (if 1 ≤ verN b ∧ verN b ≤ 4 then
      (if (restOf b).1 = 3 then 3 else if (restOf b).1 = 0 then (if rightH (verN b) (saltB b) (rndN b) (nonB b) (restOf b).2.1 = true then 0 else 2) else 2)
    else 6)
  else 2
def readV (b : List UInt8) : Int := if readE b = 0 then verN b else 0
def readS (b : List UInt8) : List UInt8 := if readE b = 0 then saltB b else []
def readR (b : List UInt8) : Int := if readE b = 0 then rndN b else 0
def readN (b : List UInt8) : List UInt8 := if readE b = 0 then nonB b else []
def readT (b : List UInt8) : List SectD := if readE b = 0 then (restOf b).2.1 else []
def readX (b : List UInt8) : Int := if readE b = 0 then (restOf b).2.2 else 0

/-! What is taken is as it was put. -/
theorem take_drop (b : List UInt8) (T M : Nat) : b.drop T = (b.drop T).take M ++ b.drop (T + M) := by
  rw [← List.drop_drop, List.take_append_drop]
theorem tn_put {b : List UInt8} {T M : Nat} (h : tnE b T M = 0) : 1 ≤ M ∧ M ≤ 7 ∧ T + M ≤ b.length ∧ tnX b T M = ((T + M : Nat) : Int) ∧ ∃ v : Nat, tnN b T M = (v : Int) ∧ v < 256 ^ M ∧ b.drop T = numB v M ++ b.drop (T + M) := by
  have h' := h
  unfold tnE at h'
  split at h'
  · rename_i hr
    split at h'
    · cases h'
    · have h1 : 1 ≤ M := by omega
      have h2 : M ≤ 7 := by omega
      have h3 : T + M ≤ b.length := by omega
      have hl : ((b.drop T).take M).length = M := by simp; omega
      refine ⟨h1, h2, h3, by unfold tnX; rw [if_pos h]; omega, _, tnN_ok h1 h2 h3, ?_, ?_⟩
      · have := valB_lt ((b.drop T).take M); rwa [hl] at this
      · have := numB_valB ((b.drop T).take M)
        rw [hl] at this
        rw [this]; exact take_drop b T M
  · cases h'
theorem tn_short {b : List UInt8} {T M : Nat} (h1 : 1 ≤ M) (h2 : M ≤ 7) (hT : T ≤ b.length) (h : b.length < T + M) : tnE b T M = 3 := by
  unfold tnE; rw [if_pos (by omega), if_pos (by omega)]
theorem tn_cases {b : List UInt8} {T M : Nat} (h1 : 1 ≤ M) (h2 : M ≤ 7) (hT : T ≤ b.length) : tnE b T M = 0 ∨ tnE b T M = 3 := by
  by_cases h : b.length < T + M
  · exact .inr (tn_short h1 h2 hT h)
  · exact .inl (tnE_ok h1 h2 (by omega))
theorem tl_put {b : List UInt8} {T : Nat} (h : tlE b T = 0) : ∃ X n : Nat, tlX b T = X ∧ tlN b T = n ∧ T < X ∧ X ≤ b.length ∧ n ≤ 1073741823 ∧ b.drop T = lenL n ++ b.drop X := by
  have hT : T < b.length := by
    rcases Nat.lt_trichotomy T b.length with h1 | h1 | h1
    · exact h1
    · subst h1; rw [tl_end] at h; cases h
    · rw [tl_out (by omega)] at h; cases h
  have hd : (b[T].toNat : Int) < 64 ∨ (64 ≤ (b[T].toNat : Int) ∧ (b[T].toNat : Int) < 128) ∨ (128 ≤ (b[T].toNat : Int) ∧ (b[T].toNat : Int) < 192) ∨ 192 ≤ (b[T].toNat : Int) := by omega
  rcases hd with hd | ⟨hd, hd'⟩ | ⟨hd, hd'⟩ | hd
  · obtain ⟨_, hN, hX⟩ := tl_one hT hd
    refine ⟨T + 1, b[T].toNat, by rw [hX]; omega, hN, by omega, by omega, by omega, ?_⟩
    rw [lenL_cases (by omega) (by omega), show lenV (b[T].toNat : Int) = (b[T].toNat : Int) from if_pos hd, show lenW (b[T].toNat : Int) = 1 from if_pos hd, Int.toNat_natCast, List.drop_eq_getElem_cons hT]
    simp [numB]
  · by_cases hs : T + 2 ≤ b.length
    · obtain ⟨v, v1, v2, v3, v4⟩ := tl_two hs hd hd'
      by_cases hv : v < 16448
      · rw [if_pos hv, h] at v4; cases v4
      · rw [if_neg hv] at v4
        obtain ⟨_, _, _, _, v', w1, _, w3⟩ := tn_put (b := b) (T := T) (M := 2) (tnE_ok (by omega) (by omega) hs)
        rw [show ((2 : Nat) : Int) = 2 from rfl, v1] at w1
        obtain rfl : v = v' := by omega
        obtain ⟨n, hn⟩ : ∃ n : Nat, v = 16384 + n := ⟨v - 16384, by omega⟩
        refine ⟨T + 2, n, by rw [v4.2.2]; omega, by rw [v4.2.1]; omega, by omega, by omega, by omega, ?_⟩
        have hW : lenW (n : Int) = 2 := by unfold lenW; rw [if_neg (by omega), if_pos (by omega)]
        have hV : lenV (n : Int) = (v : Int) := by unfold lenV; rw [if_neg (by omega), if_pos (by omega)]; omega
        rw [lenL_cases (by omega) (by omega), hW, hV, Int.toNat_natCast]
        exact w3
    · rw [tl_short hT (by omega) (by unfold tlW; rw [if_neg (by omega), if_pos (by omega)]; omega)] at h; cases h
  · by_cases hs : T + 4 ≤ b.length
    · obtain ⟨v, v1, v2, v3, v4⟩ := tl_four hs hd hd'
      by_cases hv : v < 2147500032
      · rw [if_pos hv, h] at v4; cases v4
      · rw [if_neg hv] at v4
        obtain ⟨_, _, _, _, v', w1, _, w3⟩ := tn_put (b := b) (T := T) (M := 4) (tnE_ok (by omega) (by omega) hs)
        rw [show ((4 : Nat) : Int) = 4 from rfl, v1] at w1
        obtain rfl : v = v' := by omega
        obtain ⟨n, hn⟩ : ∃ n : Nat, v = 2147483648 + n := ⟨v - 2147483648, by omega⟩
        refine ⟨T + 4, n, by rw [v4.2.2]; omega, by rw [v4.2.1]; omega, by omega, by omega, by omega, ?_⟩
        have hW : lenW (n : Int) = 4 := by unfold lenW; rw [if_neg (by omega), if_neg (by omega)]
        have hV : lenV (n : Int) = (v : Int) := by unfold lenV; rw [if_neg (by omega), if_neg (by omega)]; omega
        rw [lenL_cases (by omega) (by omega), hW, hV, Int.toNat_natCast]
        exact w3
    · rw [tl_short hT (by omega) (by unfold tlW; rw [if_neg (by omega), if_neg (by omega)]; omega)] at h; cases h
  · rw [tl_three hT hd] at h; cases h
theorem tr_put {b : List UInt8} {T : Nat} {most : Int} (h : trE b T most = 0) : ∃ X : Nat, trX b T most = X ∧ T < X ∧ X ≤ b.length ∧ ((trL b T most).length : Int) ≤ most ∧ (trL b T most).length ≤ 1073741823 ∧ b.drop T = rowL (trL b T most) ++ b.drop X := by
  have h' := h
  unfold trE at h'
  split at h'
  · rename_i hE
    obtain ⟨X, n, h1, h2, h3, h4, h5, h6⟩ := tl_put hE
    rw [h1, h2] at h'
    split at h'
    · cases h'
    · split at h'
      · cases h'
      · have hL : trL b T most = (b.drop X).take n := by unfold trL; rw [if_pos h, h1, h2, Int.toNat_natCast, Int.toNat_natCast]
        have hl : (trL b T most).length = n := by rw [hL]; simp; omega
        refine ⟨X + n, by unfold trX; rw [if_pos h, h1, h2]; omega, by omega, by omega, by omega, by omega, ?_⟩
        rw [rowL_ok (by omega), hl, hL, h6, List.append_assoc]
        rw [← take_drop b X n]
  · rename_i hE; exact absurd h' hE
theorem sect_cases {b : List UInt8} {T : Nat} : sectE b T = 0 ∨ trE b T 255 ≠ 0 ∧ sectE b T = trE b T 255 ∨ trE b T 255 = 0 ∧ sectE b T = 3 := by
  by_cases h : trE b T 255 = 0
  · obtain ⟨X, h1, h2, h3, -, -, -⟩ := tr_put h
    unfold sectE
    rw [if_pos h, h1]
    rcases tn_cases (b := b) (T := X) (M := 6) (by omega) (by omega) h3 with h4 | h4
    · rw [show ((6 : Nat) : Int) = 6 from rfl] at h4
      rw [if_pos h4]
      obtain ⟨-, -, h5, h6, -⟩ := tn_put (b := b) (T := X) (M := 6) h4
      rw [show ((6 : Nat) : Int) = 6 from rfl] at h6
      rw [h6]
      rcases tn_cases (b := b) (T := X + 6) (M := 4) (by omega) (by omega) h5 with h7 | h7
      · exact .inl h7
      · exact .inr (.inr ⟨h, h7⟩)
    · rw [show ((6 : Nat) : Int) = 6 from rfl] at h4
      rw [if_neg (by rw [h4]; decide)]
      exact .inr (.inr ⟨h, h4⟩)
  · refine .inr (.inl ⟨h, ?_⟩)
    unfold sectE; rw [if_neg h]
/-- What a section that is taken is, and where it stands. -/
theorem sect_good {b : List UInt8} {T : Nat} (h : sectE b T = 0) : ∃ X : Nat, sectX b T = X ∧ T + 10 < X ∧ X ≤ b.length ∧ b.drop T = sectB (sectV b T) ++ b.drop X ∧
    (sectV b T).1.length ≤ 255 ∧ 0 ≤ (sectV b T).2.1 ∧ (sectV b T).2.1 < 281474976710656 ∧ 0 ≤ (sectV b T).2.2 ∧ (sectV b T).2.2 < 4294967296 := by
  have hV : sectV b T = (trL b T 255, tnN b (trX b T 255) 6, tnN b (tnX b (trX b T 255) 6) 4) := if_pos h
  have hX : sectX b T = tnX b (tnX b (trX b T 255) 6) 4 := if_pos h
  have h' := h
  unfold sectE at h'
  split at h'
  · rename_i h0
    obtain ⟨X, h1, h2, h3, h4, h5, h6⟩ := tr_put h0
    rw [h1] at h' hV hX
    split at h'
    · rename_i h7
      obtain ⟨-, -, k1, k2, v, k3, k4, k5⟩ := tn_put (b := b) (T := X) (M := 6) h7
      rw [show ((6 : Nat) : Int) = 6 from rfl] at k2 k3
      rw [k2] at h' hV hX
      rw [k3] at hV
      obtain ⟨-, -, j1, j2, u, j3, j4, j5⟩ := tn_put (b := b) (T := X + 6) (M := 4) h'
      rw [show ((4 : Nat) : Int) = 4 from rfl] at j2 j3
      rw [j2] at hX
      rw [j3] at hV
      have e6 : (256 : Nat) ^ 6 = 281474976710656 := rfl
      have e4 : (256 : Nat) ^ 4 = 4294967296 := rfl
      rw [e6] at k4
      rw [e4] at j4
      rw [hV]
      refine ⟨X + 6 + 4, hX, by omega, by omega, ?_, by show (trL b T 255).length ≤ 255; omega, by show (0 : Int) ≤ (v : Int); omega, by show (v : Int) < _; omega, by show (0 : Int) ≤ (u : Int); omega, by show (u : Int) < _; omega⟩
      have n1 : numL (v : Int) 6 = numB v 6 := by unfold numL; rw [if_pos ⟨by omega, by omega, by rw [show (6 : Int).toNat = 6 from rfl, e6]; omega⟩]; rfl
      have n2 : numL (u : Int) 4 = numB u 4 := by unfold numL; rw [if_pos ⟨by omega, by omega, by rw [show (4 : Int).toNat = 4 from rfl, e4]; omega⟩]; rfl
      show _ = rowL (trL b T 255) ++ numL (v : Int) 6 ++ numL (u : Int) 4 ++ _
      rw [n1, n2, h6, k5, j5]
      simp only [List.append_assoc]
    · rename_i h7; exact absurd h' h7
  · rename_i h0; exact absurd h' h0
theorem num_ok {n : Int} {M : Nat} (h1 : 1 ≤ M) (h2 : M ≤ 7) (h3 : 0 ≤ n) (h4 : n < ((256 ^ M : Nat) : Int)) : numL n M = numB n.toNat M := by
  unfold numL; rw [if_pos ⟨by omega, h3, by rw [Int.toNat_natCast]; exact h4⟩, Int.toNat_natCast]
/-- What is put is taken. -/
theorem sect_put {b more : List UInt8} {T : Nat} {s : SectD} (hT : T ≤ b.length) (hs : okS s = true) (h : b.drop T = sectB s ++ more) :
    sectE b T = 0 ∧ sectV b T = s ∧ sectX b T = ((T + (sectB s).length : Nat) : Int) := by
  obtain ⟨h1, h2, h3, h4, h5⟩ := okS_iff.1 hs
  obtain ⟨x, e, n⟩ := s
  have hsl : (sectB (x, e, n)).length = (rowL x).length + 6 + 4 := by
    unfold sectB
    rw [show numL (x, e, n).2.1 6 = numB e.toNat 6 from num_ok (M := 6) (by omega) (by omega) h2 (by have : (256 : Nat) ^ 6 = 281474976710656 := rfl; omega), show numL (x, e, n).2.2 4 = numB n.toNat 4 from num_ok (M := 4) (by omega) (by omega) (by omega) (by have : (256 : Nat) ^ 4 = 4294967296 := rfl; omega)]
    simp [numB_len]
  have hx : x.length ≤ 1073741823 := by have : x.length ≤ 255 := h1; omega
  have h1' : x.length ≤ 255 := h1
  have z4 : 1 ≤ n := h4
  have z5 : n ≤ 1048576 := h5
  have hl := drop_len hT h
  rw [List.length_append, hsl] at hl
  unfold sectB at h
  rw [List.append_assoc, List.append_assoc] at h
  obtain ⟨r1, r2⟩ := tr_row (most := 255) hT hx h
  rw [if_neg (by omega)] at r1
  obtain ⟨r3, r4⟩ := r2 r1
  have d1 : b.drop (T + (rowL x).length) = numL e 6 ++ (numL n 4 ++ more) := by rw [← List.drop_drop, h]; exact List.drop_left
  obtain ⟨q1, q2, q3⟩ := tn_num (b := b) (T := T + (rowL x).length) (n := e.toNat) (w := 6) (by omega) (by rw [d1, show numL e 6 = numB e.toNat 6 from num_ok (M := 6) (by omega) (by omega) h2 (by have : (256 : Nat) ^ 6 = 281474976710656 := rfl; omega)]) (by omega) (by omega) (by have : (256 : Nat) ^ 6 = 281474976710656 := rfl; have : e < 281474976710656 := h3; omega)
  have d2 : b.drop (T + (rowL x).length + 6) = numL n 4 ++ more := by
    rw [← List.drop_drop, d1, show numL e 6 = numB e.toNat 6 from num_ok (M := 6) (by omega) (by omega) h2 (by have : (256 : Nat) ^ 6 = 281474976710656 := rfl; omega)]
    exact List.drop_left' (numB_len _ _)
  obtain ⟨p1, p2, p3⟩ := tn_num (b := b) (T := T + (rowL x).length + 6) (n := n.toNat) (w := 4) (by omega) (by rw [d2, show numL n 4 = numB n.toNat 4 from num_ok (M := 4) (by omega) (by omega) (by omega) (by have : (256 : Nat) ^ 4 = 4294967296 := rfl; omega)]) (by omega) (by omega) (by have : (256 : Nat) ^ 4 = 4294967296 := rfl; have : n ≤ 1048576 := h5; omega)
  have e1 : trX b T 255 = ((T + (rowL x).length : Nat) : Int) := by rw [r4]; omega
  rw [show ((6 : Nat) : Int) = 6 from rfl, ← e1] at q1 q2 q3
  have e2 : tnX b (trX b T 255) 6 = ((T + (rowL x).length + 6 : Nat) : Int) := by rw [q3, e1]; omega
  rw [show ((4 : Nat) : Int) = 4 from rfl, ← e2] at p1 p2 p3
  have hE : sectE b T = 0 := by unfold sectE; rw [if_pos r1, if_pos q1]; exact p1
  refine ⟨hE, ?_, ?_⟩
  · have h2' : 0 ≤ e := h2
    have h4' : 1 ≤ n := h4
    unfold sectV; rw [if_pos hE, r3, q2, p2, Int.toNat_of_nonneg h2', Int.toNat_of_nonneg (by omega)]
  · unfold sectX; rw [if_pos hE, p3, e2, hsl]; omega
end Go.Proofs.Ytlcclaicodghcaa
