import Derived.Test.YtlcclaicodghcaaPh
namespace Go.Proofs.Ytlcclaicodghcaa

/-! ### The head's error, case by case (no program here) -/
theorem readE_short {b : List UInt8} (h : b.length < 38) : readE b = 3 := by unfold readE; rw [if_pos h]
theorem readE_mark {b : List UInt8} (h : ¬ b.length < 38) (h2 : ¬ b.take 3 = [80, 89, 88]) : readE b = 2 := by unfold readE; rw [if_neg h, if_neg h2]
theorem readE_ver {b : List UInt8} (h : ¬ b.length < 38) (h2 : b.take 3 = [80, 89, 88]) (hv : ¬ (1 ≤ verN b ∧ verN b ≤ 4)) : readE b = 6 := by unfold readE; rw [if_neg h, if_pos h2, if_neg hv]
theorem readE_rest3 {b : List UInt8} (h : ¬ b.length < 38) (h2 : b.take 3 = [80, 89, 88]) (hv : 1 ≤ verN b ∧ verN b ≤ 4) (hr : (restOf b).1 = 3) : readE b = 3 := by unfold readE; rw [if_neg h, if_pos h2, if_pos hv, if_pos hr]
theorem readE_restx {b : List UInt8} (h : ¬ b.length < 38) (h2 : b.take 3 = [80, 89, 88]) (hv : 1 ≤ verN b ∧ verN b ≤ 4) (hr : (restOf b).1 ≠ 3) (hr' : (restOf b).1 ≠ 0) : readE b = 2 := by unfold readE; rw [if_neg h, if_pos h2, if_pos hv, if_neg hr, if_neg hr']
theorem readE_rest0 {b : List UInt8} (h : ¬ b.length < 38) (h2 : b.take 3 = [80, 89, 88]) (hv : 1 ≤ verN b ∧ verN b ≤ 4) {T : List SectD} {t : Int} (hr : restOf b = (0, T, t)) : readE b = if rightH (verN b) (saltB b) (rndN b) (nonB b) T = true then 0 else 2 := by
  unfold readE; rw [if_neg h, if_pos h2, if_pos hv, hr, if_neg (show ¬ (0 : Int) = 3 by decide), if_pos rfl]
theorem rest_at {b : List UInt8} {k M : Nat} {T : List SectD} {t : Int} (hM : manyN b = M) (h : restT b k = (0, T, t)) (hk : k < M) (hs : sectE b t ≠ 0) : (restOf b).1 = sectE b t := by
  unfold restOf
  rw [hM, Int.toNat_natCast, restT_stays (k := k + 1) (by rw [restT_fall h hs]; exact hs) M hk, restT_fall h hs]
theorem read_bad {b : List UInt8} (h : readE b ≠ 0) : readV b = 0 ∧ readS b = [] ∧ readR b = 0 ∧ readN b = [] ∧ readT b = [] ∧ readX b = 0 :=
  ⟨if_neg h, if_neg h, if_neg h, if_neg h, if_neg h, if_neg h⟩
theorem read_good {b : List UInt8} (h : readE b = 0) : readV b = verN b ∧ readS b = saltB b ∧ readR b = rndN b ∧ readN b = nonB b ∧ readT b = (restOf b).2.1 ∧ readX b = (restOf b).2.2 :=
  ⟨if_pos h, if_pos h, if_pos h, if_pos h, if_pos h, if_pos h⟩

/-! ### What is cut off -/
theorem if_iff {p q : Prop} [Decidable p] [Decidable q] {x x' y y' : Int} (h : p ↔ q) (hx : x = x') (hy : y = y') : (if p then x else y) = if q then x' else y' := by
  by_cases hp : p
  · rw [if_pos hp, if_pos (h.1 hp), hx]
  · rw [if_neg hp, if_neg (fun k => hp (h.2 k)), hy]
theorem tlB_drop (b : List UInt8) (T : Nat) : tlB b T = tlB (b.drop T) 0 := by
  unfold tlB; rw [Int.toNat_natCast]; simp [List.getD]
theorem tnE_drop {b : List UInt8} {T : Nat} (hT : T ≤ b.length) (w : Int) : tnE b T w = tnE (b.drop T) 0 w := by
  unfold tnE
  rw [List.length_drop]
  have e1 : ((1 ≤ w ∧ w ≤ 7) ∧ 0 ≤ (T : Int) ∧ (T : Int) ≤ (b.length : Int)) ↔ ((1 ≤ w ∧ w ≤ 7) ∧ (0 : Int) ≤ 0 ∧ (0 : Int) ≤ ((b.length - T : Nat) : Int)) := by omega
  have e2 : ((b.length : Int) - T < w) ↔ (((b.length - T : Nat) : Int) - 0 < w) := by omega
  exact if_iff e1 (if_iff e2 rfl rfl) rfl
theorem tnN_drop {b : List UInt8} {T : Nat} (hT : T ≤ b.length) (w : Int) : tnN b T w = tnN (b.drop T) 0 w := by
  unfold tnN; rw [tnE_drop hT, Int.toNat_natCast]; rfl
theorem tlE_drop {b : List UInt8} {T : Nat} (hT : T ≤ b.length) : tlE b T = tlE (b.drop T) 0 := by
  unfold tlE
  rw [tlB_drop, List.length_drop, tnN_drop hT]
  have e1 : (0 ≤ (T : Int) ∧ (T : Int) ≤ (b.length : Int)) ↔ ((0 : Int) ≤ 0 ∧ (0 : Int) ≤ ((b.length - T : Nat) : Int)) := by omega
  have e2 : ((T : Int) = (b.length : Int)) ↔ ((0 : Int) = ((b.length - T : Nat) : Int)) := by omega
  have e3 : ∀ z : Int, ((b.length : Int) - T < z) ↔ (((b.length - T : Nat) : Int) - 0 < z) := fun z => by omega
  exact if_iff e1 (if_iff e2 rfl (if_iff Iff.rfl rfl (if_iff (e3 _) rfl rfl))) rfl
theorem tlN_drop {b : List UInt8} {T : Nat} (hT : T ≤ b.length) : tlN b T = tlN (b.drop T) 0 := by
  unfold tlN; rw [tlE_drop hT, tlB_drop, tnN_drop hT]
theorem tlX_drop {b : List UInt8} {T : Nat} (hT : T ≤ b.length) (h : tlE b T = 0) : tlX b T = (T : Int) + tlX (b.drop T) 0 := by
  have h' := h
  rw [tlE_drop hT] at h'
  unfold tlX; rw [if_pos h, if_pos h', tlB_drop]; omega
theorem trE_drop {b : List UInt8} {T : Nat} (hT : T ≤ b.length) (most : Int) : trE b T most = trE (b.drop T) 0 most := by
  unfold trE
  by_cases h : tlE b T = 0
  · have h' := h
    rw [tlE_drop hT] at h'
    have e3 : ∀ z : Int, ((b.length : Int) - (T + tlX (b.drop T) 0) < z) ↔ (((b.length - T : Nat) : Int) - tlX (b.drop T) 0 < z) := fun z => by omega
    rw [if_pos h, if_pos h', tlN_drop hT, tlX_drop hT h, List.length_drop]
    exact if_iff Iff.rfl rfl (if_iff (e3 _) rfl rfl)
  · have h' := h
    rw [tlE_drop hT] at h'
    rw [if_neg h, if_neg h', tlE_drop hT]
theorem sectB_parts {s : SectD} (hs : okS s = true) : sectB s = rowL s.1 ++ (numB s.2.1.toNat 6 ++ numB s.2.2.toNat 4) := by
  obtain ⟨h1, h2, h3, h4, h5⟩ := okS_iff.1 hs
  unfold sectB
  rw [show numL s.2.1 6 = numB s.2.1.toNat 6 from num_ok (M := 6) (by omega) (by omega) h2 (by have : (256 : Nat) ^ 6 = 281474976710656 := rfl; omega),
    show numL s.2.2 4 = numB s.2.2.toNat 4 from num_ok (M := 4) (by omega) (by omega) (by omega) (by have : (256 : Nat) ^ 4 = 4294967296 := rfl; omega), List.append_assoc]
theorem sect_cut {b : List UInt8} {T i : Nat} {s : SectD} (hT : T ≤ b.length) (hs : okS s = true) (h : b.drop T = (sectB s).take i) (hi : i < (sectB s).length) : sectE b T = 3 := by
  obtain ⟨h1, -⟩ := okS_iff.1 hs
  have hp := sectB_parts hs
  have hl := drop_len hT h
  rw [hp] at h hi hl
  simp only [List.length_append, numB_len] at hi
  by_cases hr : i < (rowL s.1).length
  · rw [List.take_append_of_le_length (by omega)] at h
    have h3 : trE b T 255 = 3 := by rw [trE_drop hT, h]; exact tr_cut (by omega) (by omega) hr
    unfold sectE; rw [if_neg (by rw [h3]; decide), h3]
  · rw [List.take_append, List.take_of_length_le (by omega)] at h hl
    obtain ⟨r1, r2⟩ := tr_row (most := 255) hT (by omega) h
    rw [if_neg (by omega)] at r1
    obtain ⟨-, r4⟩ := r2 r1
    have e1 : trX b T 255 = ((T + (rowL s.1).length : Nat) : Int) := by rw [r4]; omega
    simp only [List.length_append, List.length_take, numB_len] at hl
    unfold sectE
    rw [if_pos r1, e1]
    by_cases h6 : b.length < T + (rowL s.1).length + 6
    · have := tn_short (b := b) (T := T + (rowL s.1).length) (M := 6) (by omega) (by omega) (by omega) h6
      rw [show ((6 : Nat) : Int) = 6 from rfl] at this
      rw [if_neg (by rw [this]; decide), this]
    · have h0 := tnE_ok (b := b) (T := T + (rowL s.1).length) (M := 6) (by omega) (by omega) (by omega)
      obtain ⟨-, -, -, x6, -⟩ := tn_put h0
      rw [show ((6 : Nat) : Int) = 6 from rfl] at h0 x6
      rw [if_pos h0, x6]
      exact tn_short (M := 4) (by omega) (by omega) (by omega) (by omega)
theorem cut_at {T : List SectD} : ∀ {m : Nat}, m < (T.flatMap sectB).length → ∃ (j : Nat) (hj : j < T.length) (i : Nat), i < (sectB T[j]).length ∧ (T.flatMap sectB).take m = (T.take j).flatMap sectB ++ (sectB T[j]).take i := by
  induction T with
  | nil => intro m h; simp at h
  | cons s T ih =>
    intro m h
    rw [List.flatMap_cons, List.length_append] at h
    by_cases hm : m < (sectB s).length
    · exact ⟨0, by simp, m, hm, by rw [List.flatMap_cons, List.take_append_of_le_length (by omega)]; rfl⟩
    · obtain ⟨j, hj, i, hi, e⟩ := ih (m := m - (sectB s).length) (by omega)
      refine ⟨j + 1, by simpa using hj, i, by simpa using hi, ?_⟩
      rw [List.flatMap_cons, List.take_append, List.take_of_length_le (by omega), e]
      simp
/-- Of a head's bytes that are cut off. -/
theorem read_cut {v r : Int} {S N : List UInt8} {T : List SectD} (h : rightH v S r N T = true) {k : Nat} (hk : k < (headB v S r N T).length) : readE ((headB v S r N T).take k) = 3 := by
  obtain ⟨r1, r2, r3, r4, r5, r6, r7, r8⟩ := rightH_iff.1 h
  have hF : (foreB v S r N T.length).length = 38 := by
    have f := fore_parts (b := foreB v S r N T.length ++ []) rfl (by omega) (by omega) r3 r4 (by omega) (by omega) (by omega)
    have h1 := congrArg List.length f.2.2.2.2.2.2.2.1
    rw [List.append_nil] at h1
    have h2 := f.1
    rw [List.append_nil] at h2
    simp only [List.length_drop, List.length_nil] at h1
    omega
  by_cases h38 : k < 38
  · exact readE_short (by rw [List.length_take]; omega)
  · rw [headB, List.length_append, hF] at hk
    obtain ⟨j, hj, i, hi, e⟩ := cut_at (T := T) (m := k - 38) (by omega)
    obtain ⟨b, hb⟩ : ∃ b, (headB v S r N T).take k = b := ⟨_, rfl⟩
    rw [hb]
    have hb' : b = foreB v S r N T.length ++ ((T.take j).flatMap sectB ++ (sectB T[j]).take i) := by
      rw [← hb, headB, List.take_append, hF, List.take_of_length_le (by omega), e]
    obtain ⟨f1, f2, f3, f4, f5, f6, f7, f8, -⟩ := fore_parts hb' (by omega) (by omega) r3 r4 (by omega) (by omega) (by omega)
    have hall := right_all h
    have hp := restT_put (T := T.take j) (fun s hs => hall s (List.mem_of_mem_take hs)) f1 f8 j (by rw [List.length_take]; omega)
    rw [List.take_take, Nat.min_self] at hp
    have hd : b.drop (38 + ((T.take j).flatMap sectB).length) = (sectB T[j]).take i := by
      rw [← List.drop_drop, f8]; exact List.drop_left
    have hle : 38 + ((T.take j).flatMap sectB).length ≤ b.length := by
      have := congrArg List.length f8
      simp only [List.length_drop, List.length_append] at this
      omega
    have hs := sect_cut hle (hall _ (List.getElem_mem hj)) hd hi
    have hr := rest_at f7 hp hj (by rw [hs]; decide)
    rw [hs] at hr
    exact readE_rest3 (by omega) f2 (by rw [f3]; exact ⟨r1, r2⟩) hr
theorem head_len {v r : Int} {S N : List UInt8} {T : List SectD} (h : rightH v S r N T = true) : 38 ≤ (headB v S r N T).length := by
  obtain ⟨r1, r2, r3, r4, r5, r6, r7, r8⟩ := rightH_iff.1 h
  exact (fore_parts (b := headB v S r N T) (more := T.flatMap sectB) rfl (by omega) (by omega) r3 r4 (by omega) (by omega) (by omega)).1
/-- With another mark. -/
theorem read_other {v r : Int} {S N : List UInt8} {T : List SectD} (h : rightH v S r N T = true) (x y z : UInt8) : readE ([x, y, z] ++ (headB v S r N T).drop 3) = if [x, y, z] = [80, 89, 88] then 0 else 2 := by
  obtain ⟨r1, r2, r3, r4, r5, r6, r7, r8⟩ := rightH_iff.1 h
  have hl := head_len h
  by_cases e : [x, y, z] = [80, 89, 88]
  · rw [if_pos e, e]
    have h0 := (read_put (more := []) h).1
    rw [List.append_nil] at h0
    have : [80, 89, 88] ++ (headB v S r N T).drop 3 = headB v S r N T := rfl
    rw [this]; exact h0
  · rw [if_neg e]
    exact readE_mark (by simp only [List.length_append, List.length_drop, List.length_cons, List.length_nil]; omega) (by simpa using e)
/-- With another version. -/
theorem read_version {v r : Int} {S N : List UInt8} {T : List SectD} (h : rightH v S r N T = true) (x : UInt8) : readE ((headB v S r N T).set 3 x) = if 1 ≤ x.toNat ∧ x.toNat ≤ 4 then 0 else 6 := by
  obtain ⟨r1, r2, r3, r4, r5, r6, r7, r8⟩ := rightH_iff.1 h
  have hx : x.toNat < 256 := x.toNat_lt
  have e1 : ∀ (u : Int), 0 ≤ u → u < 256 → numL u 1 = [UInt8.ofNat u.toNat] := fun u h1 h2 => by
    rw [show numL u 1 = numB u.toNat 1 from num_ok (M := 1) (by omega) (by omega) h1 (by have : (256 : Nat) ^ 1 = 256 := rfl; omega)]; simp [numB]
  have es : (headB v S r N T).set 3 x = headB (x.toNat : Int) S r N T := by
    unfold headB foreB
    rw [e1 v (by omega) (by omega), e1 (x.toNat : Int) (by omega) (by omega), Int.toNat_natCast, UInt8.ofNat_toNat]
    rfl
  rw [es]
  by_cases hv : 1 ≤ x.toNat ∧ x.toNat ≤ 4
  · rw [if_pos hv]
    have h0 := (read_put (v := (x.toNat : Int)) (r := r) (S := S) (N := N) (T := T) (more := []) (rightH_iff.2 ⟨by omega, by omega, r3, r4, r5, r6, r7, r8⟩)).1
    rwa [List.append_nil] at h0
  · rw [if_neg hv]
    obtain ⟨f1, f2, f3, -⟩ := fore_parts (b := headB (x.toNat : Int) S r N T) (more := T.flatMap sectB) rfl (by omega) (by omega) r3 r4 (by omega) (by omega) (by omega)
    exact readE_ver (by omega) f2 (by rw [f3]; omega)
/-- Two right heads whose bytes, as far as both go, are the same. -/
theorem heads_same {v r : Int} {S N : List UInt8} {T : List SectD} {v' r' : Int} {S' N' : List UInt8} {T' : List SectD} (h : rightH v S r N T = true) (h' : rightH v' S' r' N' T' = true) {n : Nat} (hn : min (headB v S r N T).length (headB v' S' r' N' T').length = n) :
    ((headB v S r N T).take n == (headB v' S' r' N' T').take n) = sameH v S r N T v' S' r' N' T' := by
  have key : ∀ {v r : Int} {S N : List UInt8} {T : List SectD} {v' r' : Int} {S' N' : List UInt8} {T' : List SectD}, rightH v S r N T = true → rightH v' S' r' N' T' = true → (headB v S r N T).length ≤ (headB v' S' r' N' T').length → headB v S r N T = (headB v' S' r' N' T').take (headB v S r N T).length → v = v' ∧ S = S' ∧ r = r' ∧ N = N' ∧ T = T' := by
    intro v r S N T v' r' S' N' T' h h' hle e
    have e2 : headB v' S' r' N' T' = headB v S r N T ++ (headB v' S' r' N' T').drop (headB v S r N T).length := by
      conv => lhs; rw [← List.take_append_drop (headB v S r N T).length (headB v' S' r' N' T'), ← e]
    obtain ⟨-, a1, a2, a3, a4, a5, -⟩ := read_put (more := (headB v' S' r' N' T').drop (headB v S r N T).length) h
    obtain ⟨-, c1, c2, c3, c4, c5, -⟩ := read_put (more := []) h'
    rw [List.append_nil] at c1 c2 c3 c4 c5
    rw [← e2] at a1 a2 a3 a4 a5
    exact ⟨a1.symm.trans c1, a2.symm.trans c2, a3.symm.trans c3, a4.symm.trans c4, a5.symm.trans c5⟩
  rw [Bool.eq_iff_iff, beq_iff_eq]
  unfold sameH
  simp only [Bool.and_eq_true, decide_eq_true_eq, beq_iff_eq]
  constructor
  · intro e
    by_cases hle : (headB v S r N T).length ≤ (headB v' S' r' N' T').length
    · rw [Nat.min_eq_left hle] at hn
      rw [← hn, List.take_of_length_le (Nat.le_refl _)] at e
      obtain ⟨k1, k2, k3, k4, k5⟩ := key h h' hle e
      exact ⟨⟨⟨⟨k1, k2⟩, k3⟩, k4⟩, k5⟩
    · rw [Nat.min_eq_right (by omega)] at hn
      rw [← hn, List.take_of_length_le (Nat.le_refl (headB v' S' r' N' T').length)] at e
      obtain ⟨k1, k2, k3, k4, k5⟩ := key h' h (by omega) e.symm
      exact ⟨⟨⟨⟨k1.symm, k2.symm⟩, k3.symm⟩, k4.symm⟩, k5.symm⟩
  · rintro ⟨⟨⟨⟨rfl, rfl⟩, rfl⟩, rfl⟩, rfl⟩
    rfl
end Go.Proofs.Ytlcclaicodghcaa
