import Derived.Test.YtkfalgdhpojejaaY
namespace Go.Proofs.Ytkfalgdhpojejaa
open Go.RowKit

theorem flush_twice {B : List (List UInt8)} {P : List PutD} {f : Int} : flushB (flushB B P f) (flushP P f) f = flushB B P f ∧ flushP (flushP P f) f = flushP P f := by
  unfold flushB flushP
  by_cases h : f = 0
  · simp [h]
  · simp [h, layTo]
theorem flush_ok {B : List (List UInt8)} {P : List PutD} {f : Int} (h : okP B.length P) : okP (flushB B P f).length (flushP P f) := by
  rw [flushB_len]
  unfold flushP
  split
  · exact h
  · intro k hk; simp at hk
theorem arm_off {a : Int} : (max a (-1) == 0) = (a == 0) := by
  by_cases h : a = 0
  · subst h; rfl
  · rw [beq_eq_false_iff_ne.2 h, beq_eq_false_iff_ne]; omega

set_option maxRecDepth 20000 in
set_option maxHeartbeats 4000000 in
theorem same2_any (AB : Option Addr) (cb : Nat) (AP : Option Addr) (cp : Nat) (f a b : Int) (AK : Option Addr) (cK : Nat) (w : World) (B : List (List UInt8)) (P : List PutD) (K : List Bool)
    (hD : OkD w AB AP cp B P) (hK : RL w AK K) (hlB : B.length ≤ 140737488351232) (hlP : P.length ≤ 140737488351232) :
    Calls Try.prog 9 #[.agg #[.slice AB B.length cb, .slice AP P.length cp, .int .i64 f, .int .i64 a, .int .i64 b, .slice AK K.length cK]] w fun e w' => e = .returned (.bool true) ∧ Below w.heap.size w w' := by
  have g0 := bl_alloc (bl_alloc (Below.refl _ w) (.cells #[.slice AB B.length cb, .slice AP P.length cp, .int .i64 f, .int .i64 a, .int .i64 b, .slice AK K.length cK] 66)) (.cells #[.slice AB B.length cb, .slice AP P.length cp, .int .i64 f] 25)
  have g := Lib.hid g0
  have d3 := hD.ext g0
  have rk := hK.ext g0
  have L1 := Lib.hid hlB
  have L2 := Lib.hid hlP
  clear hD hK g0 hlB hlP
  obtain ⟨my, hm⟩ : ∃ x, (smallD B P 40 && rightD B P) = x := ⟨_, rfl⟩
  have h3 : my = false ∨ (my = true ∧ (60 : Int) < K.length) ∨ (my = true ∧ (K.length : Int) ≤ 60) := by
    cases my
    · exact .inl rfl
    · right; simp only [true_and]; omega
  go_enter Try.func9, Try.ntmps9
  go_upto_region 6 with (go_at_call 10; refine (shown_any _).mono ?_; rintro e w1 ⟨rfl, hb⟩; obtain ⟨-, -, k3, -, -⟩ := box2 hb; replace d3 := d3.ext hb; replace rk := rk.ext hb; replace g := Lib.hid (bl_then g.out hb); clear hb)
  have c3 : w1.cell? ⟨w.heap.size + 1, 0, none⟩ = _ ∧ w1.cell? ⟨w.heap.size + 1, 1, none⟩ = _ ∧ w1.cell? ⟨w.heap.size + 1, 2, none⟩ = _ := ⟨k3 0, k3 1, k3 2⟩
  simp only [List.getElem?_toArray, List.getElem?_cons_zero, List.getElem?_cons_succ] at c3
  clear k3
  rcases h3 with rfl | ⟨rfl, h3⟩ | ⟨rfl, h3⟩
  · go_wp2_with (go_at_call 22; refine (c_may AB cb AP cp f 40 _ B P d3 L1.out L2.out false hm).mono ?_; rintro e w2 ⟨rfl, hb2⟩; replace c3 := box_ext hb2 c3; replace d3 := d3.ext hb2; replace rk := rk.ext hb2; replace g := Lib.hid (bl_then g.out hb2); clear hb2)
    go_ret
    exact ⟨rfl, g.out⟩
  · go_wp2_with (go_at_call 22; refine (c_may AB cb AP cp f 40 _ B P d3 L1.out L2.out true hm).mono ?_; rintro e w2 ⟨rfl, hb2⟩; replace c3 := box_ext hb2 c3; replace d3 := d3.ext hb2; replace rk := rk.ext hb2; replace g := Lib.hid (bl_then g.out hb2); clear hb2)
    go_ret
    exact ⟨rfl, g.out⟩
  · go_upto_region 8 with (go_at_call 22; refine (c_may AB cb AP cp f 40 _ B P d3 L1.out L2.out true hm).mono ?_; rintro e w2 ⟨rfl, hb2⟩; replace c3 := box_ext hb2 c3; replace d3 := d3.ext hb2; replace rk := rk.ext hb2; replace g := Lib.hid (bl_then g.out hb2); clear hb2)
    obtain ⟨⟨s1, s2⟩, hr⟩ := may_facts hm
    have ok := Lib.hid (right_okP hr)
    have b0 := Lib.hid (show 0 < B.length from (right_facts hr).1)
    have b1 := Lib.hid (show B.length ≤ 4096 by omega)
    have p1 := Lib.hid (show P.length ≤ 1000000 by omega)
    obtain ⟨E1, hE1⟩ : ∃ x, flushE f = x := ⟨_, rfl⟩
    obtain ⟨B1, hB1⟩ : ∃ x, flushB B P f = x := ⟨_, rfl⟩
    obtain ⟨P1, hP1⟩ : ∃ x, flushP P f = x := ⟨_, rfl⟩
    obtain ⟨B3, hB3⟩ : ∃ x, layTo B P (keepF K) P.length = x := ⟨_, rfl⟩
    obtain ⟨P3, hP3⟩ : ∃ x : List PutD, x = [] := ⟨_, rfl⟩
    obtain ⟨Fa, hFa⟩ : ∃ x, max a (-1) = x := ⟨_, rfl⟩
    obtain ⟨Fb, hFb⟩ : ∃ x, max b (-1) = x := ⟨_, rfl⟩
    have hB2 := Lib.hid (show flushB B1 P1 f = B1 by rw [← hB1, ← hP1]; exact flush_twice.1)
    have hP2 := Lib.hid (show flushP P1 f = P1 by rw [← hP1]; exact (flush_twice (B := B)).2)
    have ok2 := Lib.hid (show okP B1.length P1 by rw [← hB1, ← hP1]; exact flush_ok ok.out)
    have b2 := Lib.hid (show B1.length ≤ 4096 by have := @flushB_len B P f; rw [hB1] at this; omega)
    have b4 := Lib.hid (show 0 < B1.length by have := @flushB_len B P f; rw [hB1] at this; have := b0.out; omega)
    have p3 := Lib.hid (show P1.length ≤ 1000000 by have := @flushP_len P f; rw [hP1] at this; omega)
    have b3 := Lib.hid (show B3.length ≤ 4096 by have := layTo_length B P (keepF K) P.length; rw [hB3] at this; omega)
    have b5 := Lib.hid (show 0 < B3.length by have := layTo_length B P (keepF K) P.length; rw [hB3] at this; have := b0.out; omega)
    have p4 := Lib.hid (show P3.length ≤ 1000000 by subst hP3; simp)
    have ok3 := Lib.hid (show okP B3.length P3 by subst hP3; intro k hk; simp at hk)
    have hB4 := Lib.hid (show layTo B3 P3 (keepF K) P3.length = B3 by subst hP3; rfl)
    have S1 := Lib.hid (sameD_self B1 P1 f)
    have S3 := Lib.hid (sameD_self B3 P3 (-1))
    have S4 := Lib.hid (sameD_self B P Fb)
    have hO := Lib.hid (show (Fa == 0) = (a == 0) by rw [← hFa]; exact arm_off)
    replace hB1 := Lib.hid hB1
    replace hP1 := Lib.hid hP1
    replace hB3 := Lib.hid hB3
    replace hP3 := Lib.hid hP3
    replace hFa := Lib.hid hFa
    replace hFb := Lib.hid hFb
    clear hm hr s1 s2 h3
    have hf : (f = 0 ∧ E1 = 13) ∨ (f ≠ 0 ∧ (f != 0) = true ∧ E1 = 0) := by
      rw [← hE1]; unfold flushE
      by_cases h : f = 0
      · exact .inl ⟨h, if_pos h⟩
      · exact .inr ⟨h, by simp [h], if_neg h⟩
    replace hE1 := Lib.hid hE1
    rcases hf with ⟨rfl, rfl⟩ | ⟨hf1, hf2, rfl⟩
    · go_upto_region 9 with (go_at_call 25; refine (c_flush AB cb AP cp 0 _ B P d3 b1.out b0.out p1.out ok.out 13 B1 P1 hE1.out hB1.out hP1.out).mono ?_; rintro e w8 ⟨⟨AB8, cb8, AP8, cp8, rfl, d8⟩, hb8⟩; replace c3 := box_ext hb8 c3; replace d3 := d3.ext hb8; replace rk := rk.ext hb8; replace g := Lib.hid (bl_then g.out hb8); clear hb8)
      have ha := bl_alloc (Below.refl _ w8) (.cells #[.slice AB8 B1.length cb8, .slice AP8 P1.length cp8, .int .i64 0] 25)
      have c8 := box_new (Below.refl _ (w8.alloc (.cells #[.slice AB8 B1.length cb8, .slice AP8 P1.length cp8, .int .i64 0] 25)))
      replace c3 := box_ext ha c3
      replace d3 := d3.ext ha
      replace rk := rk.ext ha
      replace d8 := d8.ext ha
      replace g := Lib.hid (bl_then g.out ha)
      clear ha
      go_upto_region 10 with (go_at_call 25; refine (c_flush AB8 cb8 AP8 cp8 0 _ B1 P1 d8 b2.out b4.out p3.out ok2.out 13 B1 P1 hE1.out hB2.out hP2.out).mono ?_; rintro e w10 ⟨⟨AB10, cb10, AP10, cp10, rfl, d10⟩, hb10⟩; replace c3 := box_ext hb10 c3; replace c8 := box_ext hb10 c8; replace d3 := d3.ext hb10; replace rk := rk.ext hb10; replace d8 := d8.ext hb10; replace g := Lib.hid (bl_then g.out hb10); clear hb10)
      have ha := bl_alloc (Below.refl _ w10) (.cells #[.slice AB10 B1.length cb10, .slice AP10 P1.length cp10, .int .i64 0] 25)
      have c10 := box_new (Below.refl _ (w10.alloc (.cells #[.slice AB10 B1.length cb10, .slice AP10 P1.length cp10, .int .i64 0] 25)))
      replace c3 := box_ext ha c3
      replace c8 := box_ext ha c8
      replace d3 := d3.ext ha
      replace rk := rk.ext ha
      replace d8 := d8.ext ha
      replace d10 := d10.ext ha
      replace g := Lib.hid (bl_then g.out ha)
      clear ha
      go_upto_region 11 with (go_at_call 27; refine (c_crash AB cb AP cp 0 _ B P d3 b1.out b0.out p1.out ok.out AK cK K rk B3 P3 hB3.out hP3.out).mono ?_; rintro e w12 ⟨⟨AB12, cb12, AP12, cp12, rfl, d12⟩, hb12⟩; replace c3 := box_ext hb12 c3; replace c8 := box_ext hb12 c8; replace c10 := box_ext hb12 c10; replace d3 := d3.ext hb12; replace rk := rk.ext hb12; replace d8 := d8.ext hb12; replace d10 := d10.ext hb12; replace g := Lib.hid (bl_then g.out hb12); clear hb12)
      have ha := bl_alloc (Below.refl _ w12) (.cells #[.slice AB12 B3.length cb12, .slice AP12 P3.length cp12, .int .i64 (-1)] 25)
      have c12 := box_new (Below.refl _ (w12.alloc (.cells #[.slice AB12 B3.length cb12, .slice AP12 P3.length cp12, .int .i64 (-1)] 25)))
      replace c3 := box_ext ha c3
      replace c8 := box_ext ha c8
      replace c10 := box_ext ha c10
      replace d3 := d3.ext ha
      replace rk := rk.ext ha
      replace d8 := d8.ext ha
      replace d10 := d10.ext ha
      replace d12 := d12.ext ha
      replace g := Lib.hid (bl_then g.out ha)
      clear ha
      have ha := bl_drew (Below.refl _ (w12.alloc (.cells #[.slice AB12 B3.length cb12, .slice AP12 P3.length cp12, .int .i64 (-1)] 25)))
      replace c3 := box_ext ha c3
      replace c8 := box_ext ha c8
      replace c10 := box_ext ha c10
      replace c12 := box_ext ha c12
      replace d3 := d3.ext ha
      replace rk := rk.ext ha
      replace d8 := d8.ext ha
      replace d10 := d10.ext ha
      replace d12 := d12.ext ha
      replace g := Lib.hid (bl_then g.out ha)
      clear ha
      go_region_held3 (fun W' => (W'.cell? ⟨w.heap.size + 1, 0, none⟩ = some (.slice AB B.length cb) ∧ W'.cell? ⟨w.heap.size + 1, 1, none⟩ = some (.slice AP P.length cp) ∧ W'.cell? ⟨w.heap.size + 1, 2, none⟩ = some (.int .i64 0)) ∧ (W'.cell? ⟨w8.heap.size, 0, none⟩ = some (.slice AB8 B1.length cb8) ∧ W'.cell? ⟨w8.heap.size, 1, none⟩ = some (.slice AP8 P1.length cp8) ∧ W'.cell? ⟨w8.heap.size, 2, none⟩ = some (.int .i64 0)) ∧ (W'.cell? ⟨w10.heap.size, 0, none⟩ = some (.slice AB10 B1.length cb10) ∧ W'.cell? ⟨w10.heap.size, 1, none⟩ = some (.slice AP10 P1.length cp10) ∧ W'.cell? ⟨w10.heap.size, 2, none⟩ = some (.int .i64 0)) ∧ (W'.cell? ⟨w12.heap.size, 0, none⟩ = some (.slice AB12 B3.length cb12) ∧ W'.cell? ⟨w12.heap.size, 1, none⟩ = some (.slice AP12 P3.length cp12) ∧ W'.cell? ⟨w12.heap.size, 2, none⟩ = some (.int .i64 (-1))))
        (with_reducible exact ⟨c3, c8, c10, c12⟩)
        (first
          | (go_at_call 27; refine (c_crash AB12 cb12 AP12 cp12 (-1) _ B3 P3 d12 b3.out b5.out p4.out ok3.out AK cK K rk B3 P3 hB4.out hP3.out).mono ?_; rintro e w16 ⟨⟨AB27, cb27, AP27, cp27, rfl, d27⟩, hb16⟩; replace c3 := box_ext hb16 c3; replace c8 := box_ext hb16 c8; replace c10 := box_ext hb16 c10; replace c12 := box_ext hb16 c12; replace d3 := d3.ext hb16; replace rk := rk.ext hb16; replace d12 := d12.ext hb16; replace g := Lib.hid (bl_then g.out hb16); clear hb16)
          | (go_at_call 29; with_reducible refine (c_arm AB B.length cb AP P.length cp _ a _ Fa hFa.out).mono ?_; rintro e w16 ⟨rfl, hb16⟩; replace c3 := box_ext hb16 c3; replace c8 := box_ext hb16 c8; replace c10 := box_ext hb16 c10; replace c12 := box_ext hb16 c12; replace d3 := d3.ext hb16; replace rk := rk.ext hb16; replace d12 := d12.ext hb16; replace g := Lib.hid (bl_then g.out hb16); clear hb16)
          | (go_at_call 29; with_reducible refine (c_arm AB B.length cb AP P.length cp _ b _ Fb hFb.out).mono ?_; rintro e w16 ⟨rfl, hb16⟩; replace c3 := box_ext hb16 c3; replace c8 := box_ext hb16 c8; replace c10 := box_ext hb16 c10; replace c12 := box_ext hb16 c12; replace d3 := d3.ext hb16; replace rk := rk.ext hb16; replace d12 := d12.ext hb16; replace g := Lib.hid (bl_then g.out hb16); clear hb16)
          | (go_at_call 17; with_reducible refine (c_off AB B.length cb AP P.length cp Fa _ (a == 0) hO.out).mono ?_; rintro e w16 ⟨rfl, hb16⟩; replace c3 := box_ext hb16 c3; replace c8 := box_ext hb16 c8; replace c10 := box_ext hb16 c10; replace c12 := box_ext hb16 c12; replace d3 := d3.ext hb16; replace rk := rk.ext hb16; replace g := Lib.hid (bl_then g.out hb16); clear hb16)
          | (go_at_call_of 15 (Value.agg #[.slice AB8 B1.length cb8, .slice AP8 P1.length cp8, .int .i64 0]); refine (c_rsame AB8 cb8 AP8 cp8 0 AB10 cb10 AP10 cp10 0 _ B1 P1 B1 P1 d8 d10 b2.out p3.out true S1.out).mono ?_; rintro e w16 ⟨rfl, hb16⟩; replace c3 := box_ext hb16 c3; replace c8 := box_ext hb16 c8; replace c10 := box_ext hb16 c10; replace c12 := box_ext hb16 c12; replace d3 := d3.ext hb16; replace rk := rk.ext hb16; replace d12 := d12.ext hb16; replace g := Lib.hid (bl_then g.out hb16); clear hb16)
          | (go_at_call_of 15 (Value.agg #[.slice AB B.length cb, .slice AP P.length cp, .int .i64 Fb]); refine (c_rsame AB cb AP cp Fb AB cb AP cp Fb _ B P B P d3 d3 b1.out p1.out true S4.out).mono ?_; rintro e w16 ⟨rfl, hb16⟩; replace c3 := box_ext hb16 c3; replace c8 := box_ext hb16 c8; replace c10 := box_ext hb16 c10; replace c12 := box_ext hb16 c12; replace d3 := d3.ext hb16; replace rk := rk.ext hb16; replace d12 := d12.ext hb16; replace g := Lib.hid (bl_then g.out hb16); clear hb16)
          | (go_at_call 15; refine (c_rsame AB27 cb27 AP27 cp27 (-1) AB12 cb12 AP12 cp12 (-1) _ B3 P3 B3 P3 d27 d12 b3.out p4.out true S3.out).mono ?_; rintro e w16 ⟨rfl, hb16⟩; replace c3 := box_ext hb16 c3; replace c8 := box_ext hb16 c8; replace c10 := box_ext hb16 c10; replace c12 := box_ext hb16 c12; replace d3 := d3.ext hb16; replace rk := rk.ext hb16; replace d12 := d12.ext hb16; replace g := Lib.hid (bl_then g.out hb16); clear hb16) | fail)
      all_goals (go_wp2_with fail; go_ret; exact ⟨rfl, g.out⟩)
    · go_upto_region 9 with (go_at_call 25; refine (c_flush AB cb AP cp f _ B P d3 b1.out b0.out p1.out ok.out 0 B1 P1 hE1.out hB1.out hP1.out).mono ?_; rintro e w8 ⟨⟨AB8, cb8, AP8, cp8, rfl, d8⟩, hb8⟩; replace c3 := box_ext hb8 c3; replace d3 := d3.ext hb8; replace rk := rk.ext hb8; replace g := Lib.hid (bl_then g.out hb8); clear hb8)
      have ha := bl_alloc (Below.refl _ w8) (.cells #[.slice AB8 B1.length cb8, .slice AP8 P1.length cp8, .int .i64 f] 25)
      have c8 := box_new (Below.refl _ (w8.alloc (.cells #[.slice AB8 B1.length cb8, .slice AP8 P1.length cp8, .int .i64 f] 25)))
      replace c3 := box_ext ha c3
      replace d3 := d3.ext ha
      replace rk := rk.ext ha
      replace d8 := d8.ext ha
      replace g := Lib.hid (bl_then g.out ha)
      clear ha
      go_upto_region 10 with (go_at_call 25; refine (c_flush AB8 cb8 AP8 cp8 f _ B1 P1 d8 b2.out b4.out p3.out ok2.out 0 B1 P1 hE1.out hB2.out hP2.out).mono ?_; rintro e w10 ⟨⟨AB10, cb10, AP10, cp10, rfl, d10⟩, hb10⟩; replace c3 := box_ext hb10 c3; replace c8 := box_ext hb10 c8; replace d3 := d3.ext hb10; replace rk := rk.ext hb10; replace d8 := d8.ext hb10; replace g := Lib.hid (bl_then g.out hb10); clear hb10)
      have ha := bl_alloc (Below.refl _ w10) (.cells #[.slice AB10 B1.length cb10, .slice AP10 P1.length cp10, .int .i64 f] 25)
      have c10 := box_new (Below.refl _ (w10.alloc (.cells #[.slice AB10 B1.length cb10, .slice AP10 P1.length cp10, .int .i64 f] 25)))
      replace c3 := box_ext ha c3
      replace c8 := box_ext ha c8
      replace d3 := d3.ext ha
      replace rk := rk.ext ha
      replace d8 := d8.ext ha
      replace d10 := d10.ext ha
      replace g := Lib.hid (bl_then g.out ha)
      clear ha
      go_upto_region 11 with (go_at_call 27; refine (c_crash AB cb AP cp f _ B P d3 b1.out b0.out p1.out ok.out AK cK K rk B3 P3 hB3.out hP3.out).mono ?_; rintro e w12 ⟨⟨AB12, cb12, AP12, cp12, rfl, d12⟩, hb12⟩; replace c3 := box_ext hb12 c3; replace c8 := box_ext hb12 c8; replace c10 := box_ext hb12 c10; replace d3 := d3.ext hb12; replace rk := rk.ext hb12; replace d8 := d8.ext hb12; replace d10 := d10.ext hb12; replace g := Lib.hid (bl_then g.out hb12); clear hb12)
      have ha := bl_alloc (Below.refl _ w12) (.cells #[.slice AB12 B3.length cb12, .slice AP12 P3.length cp12, .int .i64 (-1)] 25)
      have c12 := box_new (Below.refl _ (w12.alloc (.cells #[.slice AB12 B3.length cb12, .slice AP12 P3.length cp12, .int .i64 (-1)] 25)))
      replace c3 := box_ext ha c3
      replace c8 := box_ext ha c8
      replace c10 := box_ext ha c10
      replace d3 := d3.ext ha
      replace rk := rk.ext ha
      replace d8 := d8.ext ha
      replace d10 := d10.ext ha
      replace d12 := d12.ext ha
      replace g := Lib.hid (bl_then g.out ha)
      clear ha
      have ha := bl_drew (Below.refl _ (w12.alloc (.cells #[.slice AB12 B3.length cb12, .slice AP12 P3.length cp12, .int .i64 (-1)] 25)))
      replace c3 := box_ext ha c3
      replace c8 := box_ext ha c8
      replace c10 := box_ext ha c10
      replace c12 := box_ext ha c12
      replace d3 := d3.ext ha
      replace rk := rk.ext ha
      replace d8 := d8.ext ha
      replace d10 := d10.ext ha
      replace d12 := d12.ext ha
      replace g := Lib.hid (bl_then g.out ha)
      clear ha
      go_region_held3 (fun W' => (W'.cell? ⟨w.heap.size + 1, 0, none⟩ = some (.slice AB B.length cb) ∧ W'.cell? ⟨w.heap.size + 1, 1, none⟩ = some (.slice AP P.length cp) ∧ W'.cell? ⟨w.heap.size + 1, 2, none⟩ = some (.int .i64 f)) ∧ (W'.cell? ⟨w8.heap.size, 0, none⟩ = some (.slice AB8 B1.length cb8) ∧ W'.cell? ⟨w8.heap.size, 1, none⟩ = some (.slice AP8 P1.length cp8) ∧ W'.cell? ⟨w8.heap.size, 2, none⟩ = some (.int .i64 f)) ∧ (W'.cell? ⟨w10.heap.size, 0, none⟩ = some (.slice AB10 B1.length cb10) ∧ W'.cell? ⟨w10.heap.size, 1, none⟩ = some (.slice AP10 P1.length cp10) ∧ W'.cell? ⟨w10.heap.size, 2, none⟩ = some (.int .i64 f)) ∧ (W'.cell? ⟨w12.heap.size, 0, none⟩ = some (.slice AB12 B3.length cb12) ∧ W'.cell? ⟨w12.heap.size, 1, none⟩ = some (.slice AP12 P3.length cp12) ∧ W'.cell? ⟨w12.heap.size, 2, none⟩ = some (.int .i64 (-1))))
        (with_reducible exact ⟨c3, c8, c10, c12⟩)
        (first
          | (go_at_call 27; refine (c_crash AB12 cb12 AP12 cp12 (-1) _ B3 P3 d12 b3.out b5.out p4.out ok3.out AK cK K rk B3 P3 hB4.out hP3.out).mono ?_; rintro e w16 ⟨⟨AB27, cb27, AP27, cp27, rfl, d27⟩, hb16⟩; replace c3 := box_ext hb16 c3; replace c8 := box_ext hb16 c8; replace c10 := box_ext hb16 c10; replace c12 := box_ext hb16 c12; replace d3 := d3.ext hb16; replace rk := rk.ext hb16; replace d12 := d12.ext hb16; replace g := Lib.hid (bl_then g.out hb16); clear hb16)
          | (go_at_call 29; with_reducible refine (c_arm AB B.length cb AP P.length cp _ a _ Fa hFa.out).mono ?_; rintro e w16 ⟨rfl, hb16⟩; replace c3 := box_ext hb16 c3; replace c8 := box_ext hb16 c8; replace c10 := box_ext hb16 c10; replace c12 := box_ext hb16 c12; replace d3 := d3.ext hb16; replace rk := rk.ext hb16; replace d12 := d12.ext hb16; replace g := Lib.hid (bl_then g.out hb16); clear hb16)
          | (go_at_call 29; with_reducible refine (c_arm AB B.length cb AP P.length cp _ b _ Fb hFb.out).mono ?_; rintro e w16 ⟨rfl, hb16⟩; replace c3 := box_ext hb16 c3; replace c8 := box_ext hb16 c8; replace c10 := box_ext hb16 c10; replace c12 := box_ext hb16 c12; replace d3 := d3.ext hb16; replace rk := rk.ext hb16; replace d12 := d12.ext hb16; replace g := Lib.hid (bl_then g.out hb16); clear hb16)
          | (go_at_call 17; with_reducible refine (c_off AB B.length cb AP P.length cp Fa _ (a == 0) hO.out).mono ?_; rintro e w16 ⟨rfl, hb16⟩; replace c3 := box_ext hb16 c3; replace c8 := box_ext hb16 c8; replace c10 := box_ext hb16 c10; replace c12 := box_ext hb16 c12; replace d3 := d3.ext hb16; replace rk := rk.ext hb16; replace g := Lib.hid (bl_then g.out hb16); clear hb16)
          | (go_at_call_of 15 (Value.agg #[.slice AB8 B1.length cb8, .slice AP8 P1.length cp8, .int .i64 f]); refine (c_rsame AB8 cb8 AP8 cp8 f AB10 cb10 AP10 cp10 f _ B1 P1 B1 P1 d8 d10 b2.out p3.out true S1.out).mono ?_; rintro e w16 ⟨rfl, hb16⟩; replace c3 := box_ext hb16 c3; replace c8 := box_ext hb16 c8; replace c10 := box_ext hb16 c10; replace c12 := box_ext hb16 c12; replace d3 := d3.ext hb16; replace rk := rk.ext hb16; replace d12 := d12.ext hb16; replace g := Lib.hid (bl_then g.out hb16); clear hb16)
          | (go_at_call_of 15 (Value.agg #[.slice AB B.length cb, .slice AP P.length cp, .int .i64 Fb]); refine (c_rsame AB cb AP cp Fb AB cb AP cp Fb _ B P B P d3 d3 b1.out p1.out true S4.out).mono ?_; rintro e w16 ⟨rfl, hb16⟩; replace c3 := box_ext hb16 c3; replace c8 := box_ext hb16 c8; replace c10 := box_ext hb16 c10; replace c12 := box_ext hb16 c12; replace d3 := d3.ext hb16; replace rk := rk.ext hb16; replace d12 := d12.ext hb16; replace g := Lib.hid (bl_then g.out hb16); clear hb16)
          | (go_at_call 15; refine (c_rsame AB27 cb27 AP27 cp27 (-1) AB12 cb12 AP12 cp12 (-1) _ B3 P3 B3 P3 d27 d12 b3.out p4.out true S3.out).mono ?_; rintro e w16 ⟨rfl, hb16⟩; replace c3 := box_ext hb16 c3; replace c8 := box_ext hb16 c8; replace c10 := box_ext hb16 c10; replace c12 := box_ext hb16 c12; replace d3 := d3.ext hb16; replace rk := rk.ext hb16; replace d12 := d12.ext hb16; replace g := Lib.hid (bl_then g.out hb16); clear hb16) | fail)
      all_goals (go_wp2_with fail; go_ret; exact ⟨rfl, g.out⟩)
end Go.Proofs.Ytkfalgdhpojejaa
