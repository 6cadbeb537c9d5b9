import Derived.Test.YtlcclaicodghcaaPg
namespace Go.Proofs.Ytlcclaicodghcaa

/-! ### Sections behind the fore part (no program here) -/
theorem restT_step {b : List UInt8} {k : Nat} {T : List SectD} {t : Int} (h : restT b k = (0, T, t)) (hs : sectE b t = 0) : restT b (k + 1) = (0, T ++ [sectV b t], sectX b t) := by
  rw [restT, h]; simp only; rw [if_pos trivial, if_pos hs]
theorem restT_fall {b : List UInt8} {k : Nat} {T : List SectD} {t : Int} (h : restT b k = (0, T, t)) (hs : sectE b t ≠ 0) : restT b (k + 1) = (sectE b t, [], 0) := by
  rw [restT, h]; simp only; rw [if_pos trivial, if_neg hs]
theorem restT_stays {b : List UInt8} {k : Nat} (h : (restT b k).1 ≠ 0) : ∀ m, k ≤ m → (restT b m).1 = (restT b k).1
  | 0, hm => by obtain rfl : k = 0 := by omega
                rfl
  | m + 1, hm => by
    by_cases e : k = m + 1
    · subst e; rfl
    · have ih := restT_stays h m (by omega)
      rw [restT, if_neg (by rw [ih]; exact h)]
      exact ih
def okW (s : SectD) : Prop := s.1.length ≤ 255 ∧ 0 ≤ s.2.1 ∧ s.2.1 < 281474976710656 ∧ 0 ≤ s.2.2 ∧ s.2.2 < 4294967296
theorem restT_good {b : List UInt8} (h38 : 38 ≤ b.length) : ∀ k, (restT b k).1 = 0 → (restT b k).2.1.length = k ∧ (∀ s ∈ (restT b k).2.1, okW s) ∧ ∃ t : Nat, (restT b k).2.2 = t ∧ 38 + 11 * k ≤ t ∧ t ≤ b.length ∧ b.drop 38 = (restT b k).2.1.flatMap sectB ++ b.drop t
  | 0, _ => ⟨rfl, fun s hs => absurd hs List.not_mem_nil, 38, rfl, Nat.le_refl _, h38, rfl⟩
  | k + 1, h => by
    by_cases h0 : (restT b k).1 = 0
    · obtain ⟨h1, h2, t, h3, h4, h5, h6⟩ := restT_good h38 k h0
      have hk : restT b k = (0, (restT b k).2.1, (t : Int)) := by rw [← h3, ← h0]
      by_cases hs : sectE b t = 0
      · obtain ⟨X, x1, x2, x3, x4, x5, x6, x7, x8, x9⟩ := sect_good hs
        rw [restT_step hk hs]
        refine ⟨by simp [h1], fun s hm => ?_, X, x1, by omega, x3, ?_⟩
        · rcases List.mem_append.1 hm with h' | h'
          · exact h2 s h'
          · rw [List.mem_singleton] at h'; subst h'; exact ⟨x5, x6, x7, x8, x9⟩
        · show _ = ((restT b k).2.1 ++ [sectV b t]).flatMap sectB ++ _
          rw [h6, x4, List.flatMap_append]; simp
      · rw [restT_fall hk hs] at h; exact absurd h hs
    · rw [restT_stays h0 (k + 1) (by omega)] at h; exact absurd h h0
theorem restT_put {b more : List UInt8} {T : List SectD} (hT : ∀ s ∈ T, okS s = true) (h38 : 38 ≤ b.length) (h : b.drop 38 = T.flatMap sectB ++ more) :
    ∀ k, k ≤ T.length → restT b k = (0, T.take k, ((38 + ((T.take k).flatMap sectB).length : Nat) : Int))
  | 0, _ => rfl
  | k + 1, hk => by
    have ih := restT_put hT h38 h k (by omega)
    have hl := congrArg List.length h
    have hsp : T.flatMap sectB = (T.take k).flatMap sectB ++ (sectB T[k] ++ (T.drop (k + 1)).flatMap sectB) := by
      rw [← List.append_assoc, ← sects_succ (by omega), ← List.flatMap_append, List.take_append_drop]
    have hd : b.drop (38 + ((T.take k).flatMap sectB).length) = sectB T[k] ++ ((T.drop (k + 1)).flatMap sectB ++ more) := by
      rw [← List.drop_drop, h, hsp, List.append_assoc, List.drop_left, List.append_assoc]
    have hle : 38 + ((T.take k).flatMap sectB).length ≤ b.length := by
      rw [hsp] at hl
      simp only [List.length_drop, List.length_append] at hl
      omega
    obtain ⟨s1, s2, s3⟩ := sect_put hle (hT _ (List.getElem_mem _)) hd
    rw [restT_step ih s1, s2, s3, sects_succ (by omega), List.take_succ_eq_append_getElem (by omega), List.length_append, Nat.add_assoc]
/-- The fore part's pieces. -/
theorem fore_parts {b more S N : List UInt8} {v r : Int} {n : Nat} (hb : b = foreB v S r N n ++ more) (hv : 0 ≤ v) (hv' : v < 256) (hS : S.length = 16) (hN : N.length = 12) (hr : 0 ≤ r) (hr' : r < 4294967296) (hn : n < 65536) :
    38 ≤ b.length ∧ b.take 3 = [80, 89, 88] ∧ verN b = v ∧ saltB b = S ∧ rndN b = r ∧ nonB b = N ∧ manyN b = n ∧ b.drop 38 = more ∧ b.drop 3 = numL v 1 ++ S ++ numL r 4 ++ N ++ numL n 2 ++ more := by
  have e1 : numL v 1 = numB v.toNat 1 := num_ok (M := 1) (by omega) (by omega) hv (by have : (256 : Nat) ^ 1 = 256 := rfl; omega)
  have e2 : numL r 4 = numB r.toNat 4 := num_ok (M := 4) (by omega) (by omega) hr (by have : (256 : Nat) ^ 4 = 4294967296 := rfl; omega)
  have e3 : numL n 2 = numB n 2 := num_ok (M := 2) (by omega) (by omega) (by omega) (by have : (256 : Nat) ^ 2 = 65536 := rfl; omega)
  have l1 := numB_len v.toNat 1
  have l2 := numB_len r.toNat 4
  have l3 := numB_len n 2
  unfold foreB at hb
  rw [e1, e2, e3] at hb
  simp only [List.append_assoc] at hb
  have d3 : b.drop 3 = numB v.toNat 1 ++ (S ++ (numB r.toNat 4 ++ (N ++ (numB n 2 ++ more)))) := by rw [hb]; exact List.drop_left' rfl
  have d4 : b.drop 4 = S ++ (numB r.toNat 4 ++ (N ++ (numB n 2 ++ more))) := by rw [show 4 = 3 + 1 from rfl, ← List.drop_drop, d3]; exact List.drop_left' l1
  have d20 : b.drop 20 = numB r.toNat 4 ++ (N ++ (numB n 2 ++ more)) := by rw [show 20 = 4 + 16 from rfl, ← List.drop_drop, d4]; exact List.drop_left' hS
  have d24 : b.drop 24 = N ++ (numB n 2 ++ more) := by rw [show 24 = 20 + 4 from rfl, ← List.drop_drop, d20]; exact List.drop_left' l2
  have d36 : b.drop 36 = numB n 2 ++ more := by rw [show 36 = 24 + 12 from rfl, ← List.drop_drop, d24]; exact List.drop_left' hN
  have d38 : b.drop 38 = more := by rw [show 38 = 36 + 2 from rfl, ← List.drop_drop, d36]; exact List.drop_left' l3
  have hl : b.length = 38 + more.length := by rw [hb]; simp only [List.length_append, l1, l2, l3, hS, hN, List.length_cons, List.length_nil]; omega
  refine ⟨by omega, ?_, ?_, ?_, ?_, ?_, ?_, d38, ?_⟩
  · rw [hb]; rfl
  · have := (tn_num (b := b) (T := 3) (n := v.toNat) (w := 1) (by omega) d3 (by omega) (by omega) (by omega)).2.1
    show tnN b ((3 : Nat) : Int) ((1 : Nat) : Int) = v
    rw [this]; omega
  · unfold saltB; rw [d4]; exact List.take_left' hS
  · have := (tn_num (b := b) (T := 20) (n := r.toNat) (w := 4) (by omega) d20 (by omega) (by omega) (by have : (256 : Nat) ^ 4 = 4294967296 := rfl; omega)).2.1
    show tnN b ((20 : Nat) : Int) ((4 : Nat) : Int) = r
    rw [this]; omega
  · unfold nonB; rw [d24]; exact List.take_left' hN
  · have := (tn_num (b := b) (T := 36) (n := n) (w := 2) (by omega) d36 (by omega) (by omega) (by omega)).2.1
    show tnN b ((36 : Nat) : Int) ((2 : Nat) : Int) = n
    exact this
  · rw [d3, e1, e2, e3]; simp only [List.append_assoc]
theorem right_all {v r : Int} {S N : List UInt8} {T : List SectD} (h : rightH v S r N T = true) : ∀ s ∈ T, okS s = true := by
  intro s hs
  obtain ⟨i, hi, rfl⟩ := List.mem_iff_getElem.1 hs
  exact right_ok (rightH_iff.1 h).2.2.2.2.2.2.2 hi
/-- What is written is read, whatever stands behind it. -/
theorem read_put {v r : Int} {S N more : List UInt8} {T : List SectD} (h : rightH v S r N T = true) :
    readE (headB v S r N T ++ more) = 0 ∧ readV (headB v S r N T ++ more) = v ∧ readS (headB v S r N T ++ more) = S ∧ readR (headB v S r N T ++ more) = r ∧ readN (headB v S r N T ++ more) = N ∧ readT (headB v S r N T ++ more) = T ∧ readX (headB v S r N T ++ more) = ((headB v S r N T).length : Int) := by
  obtain ⟨r1, r2, r3, r4, r5, r6, r7, r8⟩ := rightH_iff.1 h
  obtain ⟨b, hb⟩ : ∃ b, headB v S r N T ++ more = b := ⟨_, rfl⟩
  have hb' : b = foreB v S r N T.length ++ (T.flatMap sectB ++ more) := by rw [← hb, headB, List.append_assoc]
  obtain ⟨f1, f2, f3, f4, f5, f6, f7, f8, -⟩ := fore_parts hb' (by omega) (by omega) r3 r4 (by omega) (by omega) (by omega)
  rw [hb]
  have hp := restT_put (right_all h) f1 f8 T.length (Nat.le_refl _)
  rw [List.take_length] at hp
  have hR : restOf b = (0, T, ((38 + (T.flatMap sectB).length : Nat) : Int)) := by unfold restOf; rw [f7, Int.toNat_natCast]; exact hp
  have hE : readE b = 0 := by
    unfold readE
    rw [if_neg (by omega), if_pos f2, f3, if_pos ⟨r1, r2⟩, hR, if_neg (by simp), if_pos rfl, f4, f5, f6, if_pos h]
  have hlen : (headB v S r N T).length = 38 + (T.flatMap sectB).length := by
    have h1 := congrArg List.length hb'
    have h2 := congrArg List.length f8
    have h3 := congrArg List.length hb
    simp only [List.length_append, List.length_drop] at h1 h2 h3
    omega
  refine ⟨hE, ?_, ?_, ?_, ?_, ?_, ?_⟩
  · unfold readV; rw [if_pos hE, f3]
  · unfold readS; rw [if_pos hE, f4]
  · unfold readR; rw [if_pos hE, f5]
  · unfold readN; rw [if_pos hE, f6]
  · unfold readT; rw [if_pos hE, hR]
  · unfold readX; rw [if_pos hE, hR, hlen]
theorem read_zero {b : List UInt8} (h : readE b = 0) : 38 ≤ b.length ∧ b.take 3 = [80, 89, 88] ∧ 1 ≤ verN b ∧ verN b ≤ 4 ∧ (restOf b).1 = 0 ∧ rightH (verN b) (saltB b) (rndN b) (nonB b) (restOf b).2.1 = true := by
  unfold readE at h
  split at h
  · cases h
  · rename_i h1
    split at h
    · rename_i h2
      split at h
      · rename_i h3
        split at h
        · cases h
        · split at h
          · rename_i h5
            split at h
            · rename_i h6
              exact ⟨by omega, h2, h3.1, h3.2, h5, h6⟩
            · cases h
          · cases h
      · cases h
    · cases h
/-- What is read is written so. -/
theorem read_back {b : List UInt8} (h : readE b = 0) : rightH (readV b) (readS b) (readR b) (readN b) (readT b) = true ∧ ∃ n : Nat, readX b = n ∧ n ≤ b.length ∧ headB (readV b) (readS b) (readR b) (readN b) (readT b) = b.take n := by
  obtain ⟨h1, h2, h3, h4, h5, h6⟩ := read_zero h
  have hV : readV b = verN b := if_pos h
  have hS : readS b = saltB b := if_pos h
  have hR : readR b = rndN b := if_pos h
  have hN : readN b = nonB b := if_pos h
  have hT : readT b = (restOf b).2.1 := if_pos h
  have hX : readX b = (restOf b).2.2 := if_pos h
  obtain ⟨k1, k2, k3, k4, k5⟩ := tn_put (b := b) (T := 3) (M := 1) (tnE_ok (by omega) (by omega) (by omega))
  obtain ⟨v, v1, v2, v3⟩ := k5
  obtain ⟨-, -, -, -, r, r1, r2, r3⟩ := tn_put (b := b) (T := 20) (M := 4) (tnE_ok (by omega) (by omega) (by omega))
  obtain ⟨-, -, -, -, m, m1, m2, m3⟩ := tn_put (b := b) (T := 36) (M := 2) (tnE_ok (by omega) (by omega) (by omega))
  have p2 : (256 : Nat) ^ 2 = 65536 := rfl
  have p4 : (256 : Nat) ^ 4 = 4294967296 := rfl
  rw [p2] at m2
  rw [p4] at r2
  have hv : verN b = v := v1
  have hr : rndN b = r := r1
  have hm : manyN b = m := m1
  have hRo : restOf b = restT b m := by unfold restOf; rw [hm, Int.toNat_natCast]
  rw [hRo] at h5
  obtain ⟨g1, g2, t, g3, g4, g5, g6⟩ := restT_good h1 m h5
  refine ⟨by rw [hV, hS, hR, hN, hT]; exact h6, t, by rw [hX, hRo]; exact g3, g5, ?_⟩
  have e1 : numL (verN b) 1 = numB v 1 := by rw [hv]; exact num_ok (M := 1) (by omega) (by omega) (by omega) (by have : (256 : Nat) ^ 1 = 256 := rfl; omega)
  have e2 : numL (rndN b) 4 = numB r 4 := by rw [hr]; exact num_ok (M := 4) (by omega) (by omega) (by omega) (by omega)
  have e3 : numL m 2 = numB m 2 := num_ok (M := 2) (by omega) (by omega) (by omega) (by omega)
  have hb : b = headB (readV b) (readS b) (readR b) (readN b) (readT b) ++ b.drop t := by
    have c0 : b = b.take 3 ++ b.drop 3 := (List.take_append_drop 3 b).symm
    have c4 : b.drop 4 = saltB b ++ b.drop 20 := take_drop b 4 16
    have c24 : b.drop 24 = nonB b ++ b.drop 36 := take_drop b 24 12
    rw [hV, hS, hR, hN, hT, hRo]
    unfold headB foreB
    rw [g1, e1, e2, e3]
    simp only [List.append_assoc]
    rw [← g6, ← m3, ← c24, ← r3, ← c4, ← v3, ← h2]
    exact c0
  have hl := congrArg List.length hb
  rw [List.length_append, List.length_drop] at hl
  have hl2 : (headB (readV b) (readS b) (readR b) (readN b) (readT b)).length = t := by omega
  have := congrArg (List.take t) hb
  rw [this]
  exact (List.take_left' hl2).symm
end Go.Proofs.Ytlcclaicodghcaa
