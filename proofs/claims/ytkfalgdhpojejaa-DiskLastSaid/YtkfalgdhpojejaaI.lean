import Derived.Test.YtkfalgdhpojejaaH
namespace Go.Proofs.Ytkfalgdhpojejaa
open Go.RowKit

def writeE (B : List (List UInt8)) (f at_ : Int) (bs : List UInt8) : Int := if 0 ≤ at_ ∧ at_ < B.length then (if bs.length = 64 then (if f = 0 then 13 else 0) else 1) else 1
def writeP (P : List PutD) (e at_ : Int) (bs : List UInt8) : List PutD := if e = 0 then P ++ [(at_, bs)] else P
def writeF (f e : Int) : Int := if e = 0 then (if 0 < f then f - 1 else f) else f

theorem two_new (W : World) (x y : Value) (t : TypeId) : ∀ j u, [x, y][j]? = some u → (W.alloc (.cells #[x, y] t)).cell? ((⟨W.heap.size, 0, none⟩ : Addr).add j) = some u := by
  intro j u hu
  rw [plain_add, Nat.zero_add]
  match j, hu with
  | 0, hu => simpa using hu
  | 1, hu => simpa using hu

set_option maxHeartbeats 1000000 in
theorem write_any (φ : Nat → Prop) (AB : Option Addr) (cb : Nat) (AP : Option Addr) (cp : Nat) (f at_ : Int) (A : Option Addr) (c : Nat) (bs : List UInt8) (w : World) (B : List (List UInt8)) (P : List PutD) (hB : RBBF φ w AB B) (hP : RPF φ w AP P) (hcp : P.length ≤ cp) (hnP : AP = none → cp = 0) (hlP : P.length ≤ 1000000) (hR : RB w A bs) (hl : bs.length ≤ 140737488351232) (hf : -9223372036854775808 ≤ f) (hf' : f ≤ 9223372036854775807) :
    Calls Try.prog 23 #[.agg #[.slice AB B.length cb, .slice AP P.length cp, .int .i64 f], .int .i64 at_, .slice A bs.length c] w fun e w' =>
      (∃ v, e = .returned (.tuple #[v, .int .i64 (writeE B f at_ bs)]) ∧ VD (fun b => φ b ∨ w.heap.size ≤ b) w' v B (writeP P (writeE B f at_ bs) at_ bs) (writeF f (writeE B f at_ bs))) ∧ Below w.heap.size w w' := by
  have HB := Lib.hid (hB.low.mono (Aw.low (s := w.heap.size) (k := 2)))
  have HP := Lib.hid (hP.low.mono (Aw.low (s := w.heap.size) (k := 2)))
  have HR := Lib.hid hR
  have Hcp := Lib.hid hcp
  have Hnp := Lib.hid hnP
  have Hb0 := Lib.hid (bl_alloc (bl_alloc (Below.refl w.heap.size w) (.cells #[.slice AB B.length cb, .slice AP P.length cp, .int .i64 f] 25)) (.cells #[.slice none 0 0, .slice none 0 0, .int .i64 0] 25))
  cases h1 : decide (0 ≤ at_ ∧ at_ < B.length)
  · have He : Hid (writeE B f at_ bs = 1) := by show _ = _; unfold writeE; rw [if_neg (of_decide_eq_false h1)]
    rw [He.out]
    have H1 := Lib.hid h1
    clear h1 hB hP hR hcp hnP
    go_enter Try.func23, Try.ntmps23
    go_wp2_with (go_at_call 34; refine (isBlock_any _ _ _ _ _ _ _ _ _).mono ?_; rw [H1.out]; rintro e w1 ⟨rfl, hb⟩; obtain ⟨hc1, hf1, hd1, hg1, hs1⟩ := box2 hb; have Hb1 := Lib.hid hb; clear hb)
    have hb := bl_set (bl_set (bl_set (bl_then Hb0.out Hb1.out) (p := ⟨w.heap.size + 1, 0, none⟩) (Nat.le_succ _) (.slice AB B.length cb)) (p := ⟨w.heap.size + 1, 1, none⟩) (Nat.le_succ _) (.slice AP P.length cp)) (p := ⟨w.heap.size + 1, 2, none⟩) (Nat.le_succ _) (.int .i64 f)
    exact bodyPost_ret (v := .tuple #[.agg #[.slice AB B.length cb, .slice AP P.length cp, .int .i64 f], .int .i64 1]) (by simp [results, Try.results23, go_sem, hd1]) rfl ⟨⟨_, rfl, AB, cb, AP, cp, rfl, Hcp.out, Hnp.out, (HB.out.kept (Kept.below _ hb)).mono Aw.out, (HP.out.kept (Kept.below _ hb)).mono Aw.out⟩, hb⟩
  · have h1' := of_decide_eq_true h1
    cases h2 : ((bs.length : Int) != 64)
    case' true =>
      have He : Hid (writeE B f at_ bs = 1) := by show _ = _; unfold writeE; rw [if_pos h1', if_neg (fun e => by rw [e] at h2; simp at h2)]
      rw [He.out]
      have H1 := Lib.hid h1
      clear h1 h1' hB hP hR hcp hnP
      go_enter Try.func23, Try.ntmps23
      go_wp2_with (go_at_call 34; refine (isBlock_any _ _ _ _ _ _ _ _ _).mono ?_; rw [H1.out]; rintro e w1 ⟨rfl, hb⟩; obtain ⟨hc1, hf1, hd1, hg1, hs1⟩ := box2 hb; have Hb1 := Lib.hid hb; clear hb)
      have hb := bl_set (bl_set (bl_set (bl_then Hb0.out Hb1.out) (p := ⟨w.heap.size + 1, 0, none⟩) (Nat.le_succ _) (.slice AB B.length cb)) (p := ⟨w.heap.size + 1, 1, none⟩) (Nat.le_succ _) (.slice AP P.length cp)) (p := ⟨w.heap.size + 1, 2, none⟩) (Nat.le_succ _) (.int .i64 f)
      exact bodyPost_ret (v := .tuple #[.agg #[.slice AB B.length cb, .slice AP P.length cp, .int .i64 f], .int .i64 1]) (by simp [results, Try.results23, go_sem, hd1]) rfl ⟨⟨_, rfl, AB, cb, AP, cp, rfl, Hcp.out, Hnp.out, (HB.out.kept (Kept.below _ hb)).mono Aw.out, (HP.out.kept (Kept.below _ hb)).mono Aw.out⟩, hb⟩
    case' false =>
      have h2' : bs.length = 64 := by simp at h2; omega
      cases h3 : f == 0
      case' true =>
        have He : Hid (writeE B f at_ bs = 13) := by show _ = _; unfold writeE; rw [if_pos h1', if_pos h2', if_pos (by simpa using h3)]
        rw [He.out]
        have H1 := Lib.hid h1
        have H3 := Lib.hid h3
        clear h1 h3 h2' h1' hB hP hR hcp hnP
        go_enter Try.func23, Try.ntmps23
        go_wp2_with (first | (go_at_call 34; refine (isBlock_any _ _ _ _ _ _ _ _ _).mono ?_; rw [H1.out]; rintro e w1 ⟨rfl, hb⟩; obtain ⟨hc1, hf1, hd1, hg1, hs1⟩ := box2 hb; have Hb1 := Lib.hid hb; clear hb) | (go_at_call 17; refine (off_any _ _ _ _ _ _ _ _).mono ?_; rw [H3.out]; rintro e w2 ⟨rfl, hb⟩; replace hb := bl_then Hb1.out hb; obtain ⟨hc2, hf2, hd2, hg2, hs2⟩ := box2 hb; have Hb2 := Lib.hid hb; clear hb hc1 hf1 hd1 hg1 hs1))
        have hb := bl_set (bl_set (bl_set (bl_then Hb0.out Hb2.out) (p := ⟨w.heap.size + 1, 0, none⟩) (Nat.le_succ _) (.slice AB B.length cb)) (p := ⟨w.heap.size + 1, 1, none⟩) (Nat.le_succ _) (.slice AP P.length cp)) (p := ⟨w.heap.size + 1, 2, none⟩) (Nat.le_succ _) (.int .i64 f)
        exact bodyPost_ret (v := .tuple #[.agg #[.slice AB B.length cb, .slice AP P.length cp, .int .i64 f], .int .i64 13]) (by simp [results, Try.results23, go_sem, hd2]) rfl ⟨⟨_, rfl, AB, cb, AP, cp, rfl, Hcp.out, Hnp.out, (HB.out.kept (Kept.below _ hb)).mono Aw.out, (HP.out.kept (Kept.below _ hb)).mono Aw.out⟩, hb⟩
      case' false =>
        have He : Hid (writeE B f at_ bs = 0) := by show _ = _; unfold writeE; rw [if_pos h1', if_pos h2', if_neg (by simpa using h3)]
        rw [He.out]
        have H1 := Lib.hid h1
        have H3 := Lib.hid h3
        have HN : Hid (AP = none → P.length = 0 ∧ P.length = 0) := fun h => by have := hnP h; omega
        obtain ⟨cs, hpc, hcs⟩ := hP.cells
        have HPC := Lib.hid (hpc.low.mono (Aw.low (s := w.heap.size) (k := 2)))
        have HL := Lib.hid hpc.1
        have HCS := Lib.hid hcs
        clear h1 h3 h2' h1' hB hP hR hcp hnP hpc hcs
        obtain ⟨i0, hi, hz0, hz1, hz2⟩ := info_parts info55
        by_cases h5 : 0 < f
        · go_enter Try.func23, Try.ntmps23
          go_wp2_with (first | (go_at_call 34; refine (isBlock_any _ _ _ _ _ _ _ _ _).mono ?_; rw [H1.out]; rintro e w1 ⟨rfl, hb⟩; obtain ⟨hc1, hf1, hd1, hg1, hs1⟩ := box2 hb; have Hb1 := Lib.hid hb; clear hb) | (go_at_call 17; refine (off_any _ _ _ _ _ _ _ _).mono ?_; rw [H3.out]; rintro e w2 ⟨rfl, hb⟩; replace hb := bl_then Hb1.out hb; obtain ⟨hc2, hf2, hd2, hg2, hs2⟩ := box2 hb; have Hb2 := Lib.hid hb; clear hb hc1 hf1 hd1 hg1 hs1) | (go_at_call 43; refine (clip_any _ _ _ _ Hcp.out).mono ?_; rintro e w' ⟨rfl, rfl⟩) | (go_at_call 42; refine (clone_any _ _ _ _ (HR.out.ext (bl_then Hb0.out Hb2.out)) hl).mono ?_; rintro e w3 ⟨⟨v, rfl, hv⟩, hb⟩; replace hv := hv.mono (Aw.high (φ := φ) (s := w.heap.size) (k := 2) hs2); obtain ⟨A3, c3, rfl, hl3, hl4, hR3⟩ := hv; have HR3 := Lib.hid hR3; clear hR3; replace hb := bl_then Hb2.out hb; obtain ⟨hc3, hf3, hd3, hg3, hs3⟩ := box2 hb; have Hb3 := Lib.hid hb; clear hb hc2 hf2 hd2 hg2 hs2) | (at_builtin; refine wpList_append_grows _ rfl _ _ 23 rfl 55 i0 (.agg #[.int .i64 0, .slice none 0 0]) 2 32 Try.underlying23 hi hz0 hz1 hz2 rfl (by decide) AP P.length P.length cs rfl HN.out HL.out (fun a ha j u hu => cell_ext (bl_alloc (bl_then Hb0.out Hb3.out) _) (HCS.out a ha j u hu)) ⟨w3.heap.size, 0, none⟩ 1 1 [.int .i64 at_, .slice A3 bs.length c3] rfl rfl (two_new _ _ _ _) (by simp [Value.oneCell']) (by omega) (by simp only [maxLen]; omega) (by omega) ?_; intro v' w4 hown' hgrow; have hb4 := bl_grown (bl_alloc (Below.refl w3.heap.size w3) (.cells #[.int .i64 at_, .slice A3 bs.length c3] 55)) hgrow (fun k hk => by cases hk); obtain ⟨A4, c4, rfl, hl5, hn5, hR5⟩ := rp_own (φ := Aw φ w.heap.size 2) hown' ((HPC.out.kept (Kept.below _ (bl_then (bl_then Hb0.out Hb3.out) hb4))).snoc (bs := bs) (VBF.kept ⟨A3, c3, rfl, hl3, hl4, HR3.out⟩ (Kept.below _ hb4))) (Aw.high (by simp; omega)); have HR5 := Lib.hid hR5; have Hn5 := Lib.hid hn5; replace hb4 := bl_then Hb3.out hb4; obtain ⟨hc4, hf4, hd4, hg4, hs4⟩ := box2 hb4; have Hb4 := Lib.hid hb4; clear hb4 hgrow hc3 hf3 hd3 hg3 hs3 hR5 hn5 hown'))
          have hb := bl_set (bl_set (bl_set (bl_set (bl_set (bl_then Hb0.out Hb4.out) (p := ⟨w.heap.size, 1, none⟩) (Nat.le_refl _) (.slice A4 (P.length + 1) c4)) (p := ⟨w.heap.size, 2, none⟩) (Nat.le_refl _) (.int .i64 (f - 1))) (p := ⟨w.heap.size + 1, 0, none⟩) (Nat.le_succ _) (.slice AB B.length cb)) (p := ⟨w.heap.size + 1, 1, none⟩) (Nat.le_succ _) (.slice A4 (P.length + 1) c4)) (p := ⟨w.heap.size + 1, 2, none⟩) (Nat.le_succ _) (.int .i64 (f - 1))
          have hk := Kept.set (Kept.set (Kept.set (Kept.set (Kept.set (Kept.refl (Aw φ w.heap.size 2) w4) (p := ⟨w.heap.size, 1, none⟩) (Aw.no0 (by omega)) (.slice A4 (P.length + 1) c4)) (p := ⟨w.heap.size, 2, none⟩) (Aw.no0 (by omega)) (.int .i64 (f - 1))) (p := ⟨w.heap.size + 1, 0, none⟩) (Aw.no (by omega)) (.slice AB B.length cb)) (p := ⟨w.heap.size + 1, 1, none⟩) (Aw.no (by omega)) (.slice A4 (P.length + 1) c4)) (p := ⟨w.heap.size + 1, 2, none⟩) (Aw.no (by omega)) (.int .i64 (f - 1))
          refine bodyPost_ret (v := .tuple #[.agg #[.slice AB B.length cb, .slice A4 (P.length + 1) c4, .int .i64 (f - 1)], .int .i64 0]) (by simp [results, Try.results23, go_sem, hd4]) rfl ⟨⟨_, rfl, AB, cb, A4, c4, ?_, ?_, Hn5.out, (HB.out.kept (Kept.below _ hb)).mono Aw.out, ?_⟩, hb⟩
          · simp [writeP, writeF, h5]
          · simpa [writeP] using hl5
          · simpa [writeP] using (HR5.out.kept hk).mono Aw.out
        · go_enter Try.func23, Try.ntmps23
          go_wp2_with (first | (go_at_call 34; refine (isBlock_any _ _ _ _ _ _ _ _ _).mono ?_; rw [H1.out]; rintro e w1 ⟨rfl, hb⟩; obtain ⟨hc1, hf1, hd1, hg1, hs1⟩ := box2 hb; have Hb1 := Lib.hid hb; clear hb) | (go_at_call 17; refine (off_any _ _ _ _ _ _ _ _).mono ?_; rw [H3.out]; rintro e w2 ⟨rfl, hb⟩; replace hb := bl_then Hb1.out hb; obtain ⟨hc2, hf2, hd2, hg2, hs2⟩ := box2 hb; have Hb2 := Lib.hid hb; clear hb hc1 hf1 hd1 hg1 hs1) | (go_at_call 43; refine (clip_any _ _ _ _ Hcp.out).mono ?_; rintro e w' ⟨rfl, rfl⟩) | (go_at_call 42; refine (clone_any _ _ _ _ (HR.out.ext (bl_then Hb0.out Hb2.out)) hl).mono ?_; rintro e w3 ⟨⟨v, rfl, hv⟩, hb⟩; replace hv := hv.mono (Aw.high (φ := φ) (s := w.heap.size) (k := 2) hs2); obtain ⟨A3, c3, rfl, hl3, hl4, hR3⟩ := hv; have HR3 := Lib.hid hR3; clear hR3; replace hb := bl_then Hb2.out hb; obtain ⟨hc3, hf3, hd3, hg3, hs3⟩ := box2 hb; have Hb3 := Lib.hid hb; clear hb hc2 hf2 hd2 hg2 hs2) | (at_builtin; refine wpList_append_grows _ rfl _ _ 23 rfl 55 i0 (.agg #[.int .i64 0, .slice none 0 0]) 2 32 Try.underlying23 hi hz0 hz1 hz2 rfl (by decide) AP P.length P.length cs rfl HN.out HL.out (fun a ha j u hu => cell_ext (bl_alloc (bl_then Hb0.out Hb3.out) _) (HCS.out a ha j u hu)) ⟨w3.heap.size, 0, none⟩ 1 1 [.int .i64 at_, .slice A3 bs.length c3] rfl rfl (two_new _ _ _ _) (by simp [Value.oneCell']) (by omega) (by simp only [maxLen]; omega) (by omega) ?_; intro v' w4 hown' hgrow; have hb4 := bl_grown (bl_alloc (Below.refl w3.heap.size w3) (.cells #[.int .i64 at_, .slice A3 bs.length c3] 55)) hgrow (fun k hk => by cases hk); obtain ⟨A4, c4, rfl, hl5, hn5, hR5⟩ := rp_own (φ := Aw φ w.heap.size 2) hown' ((HPC.out.kept (Kept.below _ (bl_then (bl_then Hb0.out Hb3.out) hb4))).snoc (bs := bs) (VBF.kept ⟨A3, c3, rfl, hl3, hl4, HR3.out⟩ (Kept.below _ hb4))) (Aw.high (by simp; omega)); have HR5 := Lib.hid hR5; have Hn5 := Lib.hid hn5; replace hb4 := bl_then Hb3.out hb4; obtain ⟨hc4, hf4, hd4, hg4, hs4⟩ := box2 hb4; have Hb4 := Lib.hid hb4; clear hb4 hgrow hc3 hf3 hd3 hg3 hs3 hR5 hn5 hown'))
          have hb := bl_set (bl_set (bl_set (bl_set (bl_then Hb0.out Hb4.out) (p := ⟨w.heap.size, 1, none⟩) (Nat.le_refl _) (.slice A4 (P.length + 1) c4)) (p := ⟨w.heap.size + 1, 0, none⟩) (Nat.le_succ _) (.slice AB B.length cb)) (p := ⟨w.heap.size + 1, 1, none⟩) (Nat.le_succ _) (.slice A4 (P.length + 1) c4)) (p := ⟨w.heap.size + 1, 2, none⟩) (Nat.le_succ _) (.int .i64 f)
          have hk := Kept.set (Kept.set (Kept.set (Kept.set (Kept.refl (Aw φ w.heap.size 2) w4) (p := ⟨w.heap.size, 1, none⟩) (Aw.no0 (by omega)) (.slice A4 (P.length + 1) c4)) (p := ⟨w.heap.size + 1, 0, none⟩) (Aw.no (by omega)) (.slice AB B.length cb)) (p := ⟨w.heap.size + 1, 1, none⟩) (Aw.no (by omega)) (.slice A4 (P.length + 1) c4)) (p := ⟨w.heap.size + 1, 2, none⟩) (Aw.no (by omega)) (.int .i64 f)
          refine bodyPost_ret (v := .tuple #[.agg #[.slice AB B.length cb, .slice A4 (P.length + 1) c4, .int .i64 f], .int .i64 0]) (by simp [results, Try.results23, go_sem, hd4]) rfl ⟨⟨_, rfl, AB, cb, A4, c4, ?_, ?_, Hn5.out, (HB.out.kept (Kept.below _ hb)).mono Aw.out, ?_⟩, hb⟩
          · simp [writeP, writeF]; omega
          · simpa [writeP] using hl5
          · simpa [writeP] using (HR5.out.kept hk).mono Aw.out
end Go.Proofs.Ytkfalgdhpojejaa
