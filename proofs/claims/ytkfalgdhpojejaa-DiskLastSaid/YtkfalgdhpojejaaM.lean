import Derived.Test.YtkfalgdhpojejaaL
namespace Go.Proofs.Ytkfalgdhpojejaa
open Go.RowKit

def flushE (f : Int) : Int := if f = 0 then 13 else 0
def flushB (B : List (List UInt8)) (P : List PutD) (f : Int) : List (List UInt8) := if f = 0 then B else layTo B P (fun _ => true) P.length
def flushP (P : List PutD) (f : Int) : List PutD := if f = 0 then P else []

theorem out2 {φ : Nat → Prop} {n m : Nat} (h : n ≤ m) : ∀ b, (φ b ∨ m ≤ b) → (φ b ∨ n ≤ b) := fun _ hb => hb.imp id (Nat.le_trans h)

set_option maxHeartbeats 1000000 in
theorem flush_any (φ : Nat → Prop) (AB : Option Addr) (cb : Nat) (AP : Option Addr) (cp : Nat) (f : Int) (w : World) (B : List (List UInt8)) (P : List PutD) (hB : RBBF φ w AB B) (hP : RPF φ w AP P) (hcp : P.length ≤ cp) (hnP : AP = none → cp = 0) (hlB : B.length ≤ 4096) (hlB0 : 0 < B.length) (hlP : P.length ≤ 1000000) (hok : okP B.length P) :
    Calls Try.prog 25 #[.agg #[.slice AB B.length cb, .slice AP P.length cp, .int .i64 f]] w fun e w' =>
      (∃ v, e = .returned (.tuple #[v, .int .i64 (flushE f)]) ∧ VD (fun b => φ b ∨ w.heap.size ≤ b) w' v (flushB B P f) (flushP P f) f) ∧ Below w.heap.size w w' := by
  have HB := Lib.hid (hB.low.mono (Aw.low (s := w.heap.size) (k := 2)))
  have HP := Lib.hid (hP.low.mono (Aw.low (s := w.heap.size) (k := 2)))
  have Hcp := Lib.hid hcp
  have Hnp := Lib.hid hnP
  have Hok := Lib.hid hok
  have Hb0 := Lib.hid (bl_alloc (bl_alloc (Below.refl w.heap.size w) (.cells #[.slice AB B.length cb, .slice AP P.length cp, .int .i64 f] 25)) (.cells #[.slice none 0 0, .slice none 0 0, .int .i64 0] 25))
  clear hB hP hcp hnP hok
  cases h3 : f == 0
  case' true =>
    have He : Hid (f = 0) := eq_of_beq h3
    rw [show flushE f = 13 from if_pos He, show flushB B P f = B from if_pos He, show flushP P f = P from if_pos He]
    have H3 := Lib.hid h3
    clear h3
    go_enter Try.func25, Try.ntmps25
    go_wp2_with (go_at_call 17; refine (off_any _ _ _ _ _ _ _ _).mono ?_; rw [H3.out]; rintro e w1 ⟨rfl, hb⟩; obtain ⟨hc1, hf1, hd1, hg1, hs1⟩ := box2 hb; have Hb1 := Lib.hid hb; clear hb)
    have hb := bl_set (bl_set (bl_set (bl_then Hb0.out Hb1.out) (p := ⟨w.heap.size + 1, 0, none⟩) (Nat.le_succ _) (.slice AB B.length cb)) (p := ⟨w.heap.size + 1, 1, none⟩) (Nat.le_succ _) (.slice AP P.length cp)) (p := ⟨w.heap.size + 1, 2, none⟩) (Nat.le_succ _) (.int .i64 f)
    refine bodyPost_ret (v := .tuple #[.agg #[.slice AB B.length cb, .slice AP P.length cp, .int .i64 f], .int .i64 13]) (by simp [results, Try.results25, go_sem, hd1]) rfl ⟨⟨_, rfl, AB, cb, AP, cp, rfl, Hcp.out, Hnp.out, ?_, ?_⟩, hb⟩
    · exact (HB.out.kept (Kept.below _ hb)).mono Aw.out
    · exact (HP.out.kept (Kept.below _ hb)).mono Aw.out
  case' false =>
    have He : Hid (¬ f = 0) := ne_of_beq_false h3
    rw [show flushE f = 0 from if_neg He, show flushB B P f = layTo B P (fun _ => true) P.length from if_neg He, show flushP P f = [] from if_neg He]
    have H3 := Lib.hid h3
    clear h3
    go_enter Try.func25, Try.ntmps25
    go_wp2_with (first | (go_at_call 17; refine (off_any _ _ _ _ _ _ _ _).mono ?_; rw [H3.out]; rintro e w1 ⟨rfl, hb⟩; obtain ⟨hc1, hf1, hd1, hg1, hs1⟩ := box2 hb; have Hb1 := Lib.hid hb; clear hb) | (go_at_call 44; refine (laid45_any (Aw φ w.heap.size 2) AB cb AP cp f _ B P (HB.out.kept (Kept.below _ (bl_then Hb0.out Hb1.out))) (HP.out.kept (Kept.below _ (bl_then Hb0.out Hb1.out))) hlB hlB0 hlP Hok.out).mono ?_; rintro e w2 ⟨⟨v, rfl, hv⟩, hb⟩; replace hv := hv.mono (ψ := Aw φ w.heap.size 2) (fun b h => h.elim id (Aw.high hs1 b)); obtain ⟨A2, c2, A3, c3, rfl, e1, e2, e3, e4⟩ := hv; have E1 := Lib.hid e1; have E2 := Lib.hid e2; have E3 := Lib.hid e3; have E4 := Lib.hid e4; replace hb := bl_then Hb1.out hb; obtain ⟨hc2, hf2, hd2, hg2, hs2⟩ := box2 hb; have Hb2 := Lib.hid hb; clear hb e1 e2 e3 e4 hc1 hf1 hd1 hg1 hs1))
    have hb := bl_set (bl_set (bl_set (bl_then Hb0.out Hb2.out) (p := ⟨w.heap.size + 1, 0, none⟩) (Nat.le_succ _) (.slice A2 (layTo B P (fun _ => true) P.length).length c2)) (p := ⟨w.heap.size + 1, 1, none⟩) (Nat.le_succ _) (.slice A3 0 c3)) (p := ⟨w.heap.size + 1, 2, none⟩) (Nat.le_succ _) (.int .i64 f)
    have hk := Kept.set (Kept.set (Kept.set (Kept.refl (Aw φ w.heap.size 2) w2) (p := ⟨w.heap.size + 1, 0, none⟩) (Aw.no (by omega)) (.slice A2 (layTo B P (fun _ => true) P.length).length c2)) (p := ⟨w.heap.size + 1, 1, none⟩) (Aw.no (by omega)) (.slice A3 0 c3)) (p := ⟨w.heap.size + 1, 2, none⟩) (Aw.no (by omega)) (.int .i64 f)
    refine bodyPost_ret (v := .tuple #[.agg #[.slice A2 (layTo B P (fun _ => true) P.length).length c2, .slice A3 0 c3, .int .i64 f], .int .i64 0]) (by simp [results, Try.results25, go_sem, hd2]) rfl ⟨⟨_, rfl, A2, c2, A3, c3, rfl, Nat.zero_le _, E2.out, ?_, ?_⟩, hb⟩
    · exact (E3.out.kept hk).mono Aw.out
    · exact (E4.out.kept hk).mono Aw.out

theorem box3 {w w1 : World} {c1 c2 c3 : Array Value} {t1 t2 t3 : TypeId} (hb : Below (((w.alloc (.cells c1 t1)).alloc (.cells c2 t2)).alloc (.cells c3 t3)).heap.size (((w.alloc (.cells c1 t1)).alloc (.cells c2 t2)).alloc (.cells c3 t3)) w1) :
    (∀ o, w1.cell? ⟨w.heap.size, o, none⟩ = c1[o]?) ∧ (∀ o, w1.cell? ⟨w.heap.size + 1, o, none⟩ = c2[o]?) ∧ (∀ o, w1.cell? ⟨w.heap.size + 2, o, none⟩ = c3[o]?) ∧ (∀ o, w1.frozen? ⟨w.heap.size, o, none⟩ = false) ∧ (∀ o, w1.frozen? ⟨w.heap.size + 1, o, none⟩ = false) ∧ (∀ o, w1.frozen? ⟨w.heap.size + 2, o, none⟩ = false) ∧ w.heap.size + 2 < w1.heap.size := by
  have h2 := box2 (bl_then (bl_alloc (Below.refl _ ((w.alloc (.cells c1 t1)).alloc (.cells c2 t2))) (.cells c3 t3)) hb)
  refine ⟨h2.1, h2.2.2.1, fun o => ?_, h2.2.1, h2.2.2.2.1, fun o => ?_, ?_⟩
  · rw [hb.cell (p := ⟨w.heap.size + 2, o, none⟩) (by simp)]
    have := World.cell?_alloc_new ((w.alloc (.cells c1 t1)).alloc (.cells c2 t2)) c3 t3 o
    simp only [World.size_alloc] at this
    exact this
  · rw [hb.frozen (p := ⟨w.heap.size + 2, o, none⟩) (by simp)]
    have := World.frozen?_alloc_new ((w.alloc (.cells c1 t1)).alloc (.cells c2 t2)) c3 t3 o
    simp only [World.size_alloc] at this
    exact this
  · have := hb.size; simp at this; omega

set_option maxHeartbeats 1000000 in
theorem crash_any (φ : Nat → Prop) (AB : Option Addr) (cb : Nat) (AP : Option Addr) (cp : Nat) (f : Int) (w : World) (B : List (List UInt8)) (P : List PutD) (hB : RBBF φ w AB B) (hP : RPF φ w AP P) (hlB : B.length ≤ 4096) (hlB0 : 0 < B.length) (hlP : P.length ≤ 1000000) (hok : okP B.length P)
    (AK : Option Addr) (cK : Nat) (K : List Bool) (hRL : RL w AK K) :
    Calls Try.prog 27 #[.agg #[.slice AB B.length cb, .slice AP P.length cp, .int .i64 f], .slice AK K.length cK] w fun e w' =>
      (∃ v, e = .returned v ∧ VD (fun b => φ b ∨ w.heap.size ≤ b) w' v (layTo B P (keepF K) P.length) [] (-1)) ∧ Below w.heap.size w w' := by
  have HB := Lib.hid (hB.low.mono (Aw.low (s := w.heap.size) (k := 3)))
  have HP := Lib.hid (hP.low.mono (Aw.low (s := w.heap.size) (k := 3)))
  have Hok := Lib.hid hok
  have HRL := Lib.hid hRL
  have Hb0 := Lib.hid (bl_alloc (bl_alloc (bl_alloc (Below.refl w.heap.size w) (.cells #[.slice AB B.length cb, .slice AP P.length cp, .int .i64 f] 25)) (.cells #[.slice AK K.length cK] 44)) (.cells #[.slice none 0 0, .slice none 0 0, .int .i64 0] 25))
  clear hB hP hok hRL
  go_enter Try.func27, Try.ntmps27
  go_wp2_with (first | (go_at_call 44; refine (laid46_any (Aw φ w.heap.size 3) AB cb AP cp f _ B P (HB.out.kept (Kept.below _ Hb0.out)) (HP.out.kept (Kept.below _ Hb0.out)) hlB hlB0 hlP Hok.out AK cK K (w.heap.size + 1) (by simp [go_sem]) (HRL.out.ext Hb0.out)).mono ?_; rintro e w2 ⟨⟨v, rfl, hv⟩, hb⟩; replace hv := hv.mono (ψ := Aw φ w.heap.size 3) (fun b h => h.elim id (Aw.high (by simp) b)); obtain ⟨A2, c2, A3, c3, rfl, e1, e2, e3, e4⟩ := hv; have E1 := Lib.hid e1; have E2 := Lib.hid e2; have E3 := Lib.hid e3; have E4 := Lib.hid e4; obtain ⟨hc2, hd2, he2, hf2, hg2, hh2, hs2⟩ := box3 hb; have Hb2 := Lib.hid hb; clear hb e1 e2 e3 e4) | (go_at_call 29; refine (arm_any _ _ _ _ _ _ _ _ _).mono ?_; rintro e w3 ⟨rfl, hb⟩; have Hb23 := Lib.hid hb; replace hb := bl_then Hb2.out hb; obtain ⟨hc3, hd3, he3, hf3, hg3, hh3, hs3⟩ := box3 hb; have Hb3 := Lib.hid hb; clear hb hc2 hd2 he2 hf2 hg2 hh2 hs2))
  have hb := bl_set (bl_set (bl_set (bl_then Hb0.out Hb3.out) (p := ⟨w.heap.size + 1 + 1, 0, none⟩) (by simp; omega) (.slice A2 (layTo B P (keepF K) P.length).length c2)) (p := ⟨w.heap.size + 1 + 1, 1, none⟩) (by simp; omega) (.slice A3 0 c3)) (p := ⟨w.heap.size + 1 + 1, 2, none⟩) (by simp; omega) (.int .i64 (-1))
  have hk := Kept.set (Kept.set (Kept.set (Kept.below (Aw φ w.heap.size 3) Hb23.out) (p := ⟨w.heap.size + 2, 0, none⟩) (Aw.no (by omega)) (.slice A2 (layTo B P (keepF K) P.length).length c2)) (p := ⟨w.heap.size + 2, 1, none⟩) (Aw.no (by omega)) (.slice A3 0 c3)) (p := ⟨w.heap.size + 2, 2, none⟩) (Aw.no (by omega)) (.int .i64 (-1))
  refine bodyPost_ret (v := .agg #[.slice A2 (layTo B P (keepF K) P.length).length c2, .slice A3 0 c3, .int .i64 (-1)]) (by simp [results, Try.results27, go_sem, he3]) rfl ⟨⟨_, rfl, A2, c2, A3, c3, rfl, Nat.zero_le _, E2.out, ?_, ?_⟩, hb⟩
  · exact (E3.out.kept hk).mono Aw.out
  · exact (E4.out.kept hk).mono Aw.out
end Go.Proofs.Ytkfalgdhpojejaa
