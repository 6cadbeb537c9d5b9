import Derived.Test.YtkfalgdhpojejaaY
namespace Go.Proofs.Ytkfalgdhpojejaa
open Go.RowKit

set_option maxRecDepth 20000 in
set_option maxHeartbeats 4000000 in
theorem does_any (AB : Option Addr) (cb : Nat) (AP : Option Addr) (cp : Nat) (f at_ : Int) (A : Option Addr) (c : Nat) (AK : Option Addr) (cK : Nat) (n : Int) (w : World) (B : List (List UInt8)) (P : List PutD) (bs : List UInt8) (K : List Bool)
    (hD : OkD w AB AP cp B P) (hR : OkB w A c bs) (hK : RL w AK K) (hlB : B.length ≤ 140737488351232) (hlP : P.length ≤ 140737488351232) (hf : -9223372036854775808 ≤ f) (hf' : f ≤ 9223372036854775807) :
    Calls Try.prog 4 #[.agg #[.slice AB B.length cb, .slice AP P.length cp, .int .i64 f, .int .i64 at_, .slice A bs.length c, .slice AK K.length cK, .int .i64 n]] w fun e w' => e = .returned (.bool true) ∧ Below w.heap.size w w' := by
  have g0 := bl_alloc (bl_alloc (Below.refl _ w) (.cells #[.slice AB B.length cb, .slice AP P.length cp, .int .i64 f, .int .i64 at_, .slice A bs.length c, .slice AK K.length cK, .int .i64 n] 46)) (.cells #[.slice AB B.length cb, .slice AP P.length cp, .int .i64 f] 25)
  have g := Lib.hid g0
  have d3 := hD.ext g0
  have rb := hR.ext g0
  have rk := hK.ext g0
  have N1 := Lib.hid hf
  have N2 := Lib.hid hf'
  have L1 := Lib.hid hlB
  have L2 := Lib.hid hlP
  clear hD hR hK g0 hf hf' hlB hlP
  obtain ⟨my, hm⟩ : ∃ x, (smallD B P 40 && rightD B P) = x := ⟨_, rfl⟩
  have h3 : my = false ∨ (my = true ∧ (100 : Int) < bs.length) ∨ (my = true ∧ (bs.length : Int) ≤ 100 ∧ (60 : Int) < K.length) ∨ (my = true ∧ (bs.length : Int) ≤ 100 ∧ (K.length : Int) ≤ 60) := by
    cases my
    · exact .inl rfl
    · right; simp only [true_and]; omega
  go_enter Try.func4, Try.ntmps4
  go_upto_region 7 with (go_at_call 10; refine (shown_any _).mono ?_; rintro e w1 ⟨rfl, hb⟩; obtain ⟨-, -, k3, -, -⟩ := box2 hb; replace d3 := d3.ext hb; replace rb := rb.ext hb; replace rk := rk.ext hb; replace g := Lib.hid (bl_then g.out hb); clear hb)
  have c3 : w1.cell? ⟨w.heap.size + 1, 0, none⟩ = _ ∧ w1.cell? ⟨w.heap.size + 1, 1, none⟩ = _ ∧ w1.cell? ⟨w.heap.size + 1, 2, none⟩ = _ := ⟨k3 0, k3 1, k3 2⟩
  simp only [List.getElem?_toArray, List.getElem?_cons_zero, List.getElem?_cons_succ] at c3
  clear k3
  rcases h3 with rfl | ⟨rfl, h3⟩ | ⟨rfl, h3, h4⟩ | ⟨rfl, h3, h4⟩
  · go_wp2_with (go_at_call 22; refine (c_may AB cb AP cp f 40 _ B P d3 L1.out L2.out false hm).mono ?_; rintro e w2 ⟨rfl, hb2⟩; replace c3 := box_ext hb2 c3; replace d3 := d3.ext hb2; replace rb := rb.ext hb2; replace rk := rk.ext hb2; replace g := Lib.hid (bl_then g.out hb2); clear hb2)
    go_ret
    exact ⟨rfl, g.out⟩
  · go_wp2_with (go_at_call 22; refine (c_may AB cb AP cp f 40 _ B P d3 L1.out L2.out true hm).mono ?_; rintro e w2 ⟨rfl, hb2⟩; replace c3 := box_ext hb2 c3; replace d3 := d3.ext hb2; replace rb := rb.ext hb2; replace rk := rk.ext hb2; replace g := Lib.hid (bl_then g.out hb2); clear hb2)
    go_ret
    exact ⟨rfl, g.out⟩
  · go_wp2_with (go_at_call 22; refine (c_may AB cb AP cp f 40 _ B P d3 L1.out L2.out true hm).mono ?_; rintro e w2 ⟨rfl, hb2⟩; replace c3 := box_ext hb2 c3; replace d3 := d3.ext hb2; replace rb := rb.ext hb2; replace rk := rk.ext hb2; replace g := Lib.hid (bl_then g.out hb2); clear hb2)
    go_ret
    exact ⟨rfl, g.out⟩
  · go_upto_region 9 with (go_at_call 22; refine (c_may AB cb AP cp f 40 _ B P d3 L1.out L2.out true hm).mono ?_; rintro e w2 ⟨rfl, hb2⟩; replace c3 := box_ext hb2 c3; replace d3 := d3.ext hb2; replace rb := rb.ext hb2; replace rk := rk.ext hb2; replace g := Lib.hid (bl_then g.out hb2); clear hb2)
    obtain ⟨⟨s1, s2⟩, hr⟩ := may_facts hm
    have ok := Lib.hid (right_okP hr)
    have b0 := Lib.hid (show 0 < B.length from (right_facts hr).1)
    have b1 := Lib.hid (show B.length ≤ 4096 by omega)
    have p1 := Lib.hid (show P.length ≤ 1000000 by omega)
    obtain ⟨E1, hE1⟩ : ∃ x, writeE B f at_ bs = x := ⟨_, rfl⟩
    obtain ⟨P1, hP1⟩ : ∃ x, writeP P E1 at_ bs = x := ⟨_, rfl⟩
    obtain ⟨F1, hF1⟩ : ∃ x, writeF f E1 = x := ⟨_, rfl⟩
    obtain ⟨E2, hE2⟩ : ∃ x, flushE f = x := ⟨_, rfl⟩
    obtain ⟨B2, hB2⟩ : ∃ x, flushB B P f = x := ⟨_, rfl⟩
    obtain ⟨P2, hP2⟩ : ∃ x, flushP P f = x := ⟨_, rfl⟩
    obtain ⟨B3, hB3⟩ : ∃ x, layTo B P (keepF K) P.length = x := ⟨_, rfl⟩
    obtain ⟨P3, hP3⟩ : ∃ x : List PutD, x = [] := ⟨_, rfl⟩
    obtain ⟨F3, hF3⟩ : ∃ x, max n (-1) = x := ⟨_, rfl⟩
    have p2 := Lib.hid (show P1.length ≤ 1000000 by have := @writeP_len P E1 at_ bs; rw [hP1] at this; omega)
    have b2 := Lib.hid (show B2.length ≤ 4096 by have := @flushB_len B P f; rw [hB2] at this; omega)
    have p3 := Lib.hid (show P2.length ≤ 1000000 by have := @flushP_len P f; rw [hP2] at this; omega)
    have b3 := Lib.hid (show B3.length ≤ 4096 by have := layTo_length B P (keepF K) P.length; rw [hB3] at this; omega)
    have p4 := Lib.hid (show P3.length ≤ 1000000 by subst hP3; simp)
    have S1 := Lib.hid (sameD_self B P1 F1)
    have S2 := Lib.hid (sameD_self B2 P2 f)
    have S3 := Lib.hid (sameD_self B3 P3 (-1))
    have S4 := Lib.hid (sameD_self B P F3)
    replace hE1 := Lib.hid hE1
    replace hP1 := Lib.hid hP1
    replace hF1 := Lib.hid hF1
    replace hE2 := Lib.hid hE2
    replace hB2 := Lib.hid hB2
    replace hP2 := Lib.hid hP2
    replace hB3 := Lib.hid hB3
    replace hP3 := Lib.hid hP3
    replace hF3 := Lib.hid hF3
    clear hm hr s1 s2 h3 h4
    go_upto_region 10 with (go_at_call 23; refine (c_write AB cb AP cp f at_ A c bs _ B P d3 p1.out rb N1.out N2.out E1 P1 F1 hE1.out hP1.out hF1.out).mono ?_; rintro e w9 ⟨⟨AB9, cb9, AP9, cp9, rfl, d9⟩, hb9⟩; replace c3 := box_ext hb9 c3; replace d3 := d3.ext hb9; replace rb := rb.ext hb9; replace rk := rk.ext hb9; replace g := Lib.hid (bl_then g.out hb9); clear hb9)
    have ha := bl_alloc (Below.refl _ w9) (.cells #[.slice AB9 B.length cb9, .slice AP9 P1.length cp9, .int .i64 F1] 25)
    have c9 := box_new (Below.refl _ (w9.alloc (.cells #[.slice AB9 B.length cb9, .slice AP9 P1.length cp9, .int .i64 F1] 25)))
    replace c3 := box_ext ha c3
    replace d3 := d3.ext ha
    replace rb := rb.ext ha
    replace rk := rk.ext ha
    replace d9 := d9.ext ha
    replace g := Lib.hid (bl_then g.out ha)
    clear ha
    go_upto_region 11 with (go_at_call 24; refine (c_rwrite AB cb AP cp f at_ A c bs _ B P d3 p1.out rb N1.out N2.out E1 P1 F1 hE1.out hP1.out hF1.out).mono ?_; rintro e w11 ⟨⟨AB11, cb11, AP11, cp11, rfl, d11⟩, hb11⟩; replace c3 := box_ext hb11 c3; replace c9 := box_ext hb11 c9; replace d3 := d3.ext hb11; replace rk := rk.ext hb11; replace d9 := d9.ext hb11; replace g := Lib.hid (bl_then g.out hb11); clear hb11)
    have ha := bl_alloc (Below.refl _ w11) (.cells #[.slice AB11 B.length cb11, .slice AP11 P1.length cp11, .int .i64 F1] 25)
    have c11 := box_new (Below.refl _ (w11.alloc (.cells #[.slice AB11 B.length cb11, .slice AP11 P1.length cp11, .int .i64 F1] 25)))
    replace c3 := box_ext ha c3
    replace c9 := box_ext ha c9
    replace d3 := d3.ext ha
    replace rk := rk.ext ha
    replace d9 := d9.ext ha
    replace d11 := d11.ext ha
    replace g := Lib.hid (bl_then g.out ha)
    clear ha
    go_upto_region 12 with (go_at_call 25; refine (c_flush AB cb AP cp f _ B P d3 b1.out b0.out p1.out ok.out E2 B2 P2 hE2.out hB2.out hP2.out).mono ?_; rintro e w13 ⟨⟨AB13, cb13, AP13, cp13, rfl, d13⟩, hb13⟩; replace c3 := box_ext hb13 c3; replace c9 := box_ext hb13 c9; replace c11 := box_ext hb13 c11; replace d3 := d3.ext hb13; replace rk := rk.ext hb13; replace d9 := d9.ext hb13; replace d11 := d11.ext hb13; replace g := Lib.hid (bl_then g.out hb13); clear hb13)
    have ha := bl_alloc (Below.refl _ w13) (.cells #[.slice AB13 B2.length cb13, .slice AP13 P2.length cp13, .int .i64 f] 25)
    have c13 := box_new (Below.refl _ (w13.alloc (.cells #[.slice AB13 B2.length cb13, .slice AP13 P2.length cp13, .int .i64 f] 25)))
    replace c3 := box_ext ha c3
    replace c9 := box_ext ha c9
    replace c11 := box_ext ha c11
    replace d3 := d3.ext ha
    replace rk := rk.ext ha
    replace d9 := d9.ext ha
    replace d11 := d11.ext ha
    replace d13 := d13.ext ha
    replace g := Lib.hid (bl_then g.out ha)
    clear ha
    go_upto_region 13 with (go_at_call 26; refine (c_rflush AB cb AP cp f _ B P d3 b1.out b0.out p1.out ok.out E2 B2 P2 hE2.out hB2.out hP2.out).mono ?_; rintro e w15 ⟨⟨AB15, cb15, AP15, cp15, rfl, d15⟩, hb15⟩; replace c3 := box_ext hb15 c3; replace c9 := box_ext hb15 c9; replace c11 := box_ext hb15 c11; replace c13 := box_ext hb15 c13; replace d3 := d3.ext hb15; replace rk := rk.ext hb15; replace d9 := d9.ext hb15; replace d11 := d11.ext hb15; replace d13 := d13.ext hb15; replace g := Lib.hid (bl_then g.out hb15); clear hb15)
    have ha := bl_alloc (Below.refl _ w15) (.cells #[.slice AB15 B2.length cb15, .slice AP15 P2.length cp15, .int .i64 f] 25)
    have c15 := box_new (Below.refl _ (w15.alloc (.cells #[.slice AB15 B2.length cb15, .slice AP15 P2.length cp15, .int .i64 f] 25)))
    replace c3 := box_ext ha c3
    replace c9 := box_ext ha c9
    replace c11 := box_ext ha c11
    replace c13 := box_ext ha c13
    replace d3 := d3.ext ha
    replace rk := rk.ext ha
    replace d9 := d9.ext ha
    replace d11 := d11.ext ha
    replace d13 := d13.ext ha
    replace d15 := d15.ext ha
    replace g := Lib.hid (bl_then g.out ha)
    clear ha
    have ha := bl_drew (Below.refl _ (w15.alloc (.cells #[.slice AB15 B2.length cb15, .slice AP15 P2.length cp15, .int .i64 f] 25)))
    replace c3 := box_ext ha c3
    replace c9 := box_ext ha c9
    replace c11 := box_ext ha c11
    replace c13 := box_ext ha c13
    replace c15 := box_ext ha c15
    replace d3 := d3.ext ha
    replace rk := rk.ext ha
    replace d9 := d9.ext ha
    replace d11 := d11.ext ha
    replace d13 := d13.ext ha
    replace d15 := d15.ext ha
    replace g := Lib.hid (bl_then g.out ha)
    clear ha
    clear rb
    go_region_held3 (fun W' => (W'.cell? ⟨w.heap.size + 1, 0, none⟩ = some (.slice AB B.length cb) ∧ W'.cell? ⟨w.heap.size + 1, 1, none⟩ = some (.slice AP P.length cp) ∧ W'.cell? ⟨w.heap.size + 1, 2, none⟩ = some (.int .i64 f)) ∧ (W'.cell? ⟨w9.heap.size, 0, none⟩ = some (.slice AB9 B.length cb9) ∧ W'.cell? ⟨w9.heap.size, 1, none⟩ = some (.slice AP9 P1.length cp9) ∧ W'.cell? ⟨w9.heap.size, 2, none⟩ = some (.int .i64 F1)) ∧ (W'.cell? ⟨w11.heap.size, 0, none⟩ = some (.slice AB11 B.length cb11) ∧ W'.cell? ⟨w11.heap.size, 1, none⟩ = some (.slice AP11 P1.length cp11) ∧ W'.cell? ⟨w11.heap.size, 2, none⟩ = some (.int .i64 F1)) ∧ (W'.cell? ⟨w13.heap.size, 0, none⟩ = some (.slice AB13 B2.length cb13) ∧ W'.cell? ⟨w13.heap.size, 1, none⟩ = some (.slice AP13 P2.length cp13) ∧ W'.cell? ⟨w13.heap.size, 2, none⟩ = some (.int .i64 f)) ∧ (W'.cell? ⟨w15.heap.size, 0, none⟩ = some (.slice AB15 B2.length cb15) ∧ W'.cell? ⟨w15.heap.size, 1, none⟩ = some (.slice AP15 P2.length cp15) ∧ W'.cell? ⟨w15.heap.size, 2, none⟩ = some (.int .i64 f)))
      (with_reducible exact ⟨c3, c9, c11, c13, c15⟩)
      (first
        | (go_at_call 27; refine (c_crash AB cb AP cp f _ B P d3 b1.out b0.out p1.out ok.out AK cK K rk B3 P3 hB3.out hP3.out).mono ?_; rintro e w16 ⟨⟨AB27, cb27, AP27, cp27, rfl, d27⟩, hb16⟩; (try replace d28 := d28.ext hb16); replace c3 := box_ext hb16 c3; replace c9 := box_ext hb16 c9; replace c11 := box_ext hb16 c11; replace c13 := box_ext hb16 c13; replace c15 := box_ext hb16 c15; replace d3 := d3.ext hb16; replace rk := rk.ext hb16; replace g := Lib.hid (bl_then g.out hb16); clear hb16)
        | (go_at_call 28; refine (c_rcrash AB cb AP cp f _ B P d3 b1.out b0.out p1.out ok.out AK cK K rk B3 P3 hB3.out hP3.out).mono ?_; rintro e w16 ⟨⟨AB28, cb28, AP28, cp28, rfl, d28⟩, hb16⟩; (try replace d27 := d27.ext hb16); replace c3 := box_ext hb16 c3; replace c9 := box_ext hb16 c9; replace c11 := box_ext hb16 c11; replace c13 := box_ext hb16 c13; replace c15 := box_ext hb16 c15; replace d3 := d3.ext hb16; replace rk := rk.ext hb16; replace g := Lib.hid (bl_then g.out hb16); clear hb16)
        | (go_at_call 29; refine (c_arm AB B.length cb AP P.length cp f n _ F3 hF3.out).mono ?_; rintro e w16 ⟨rfl, hb16⟩; replace c3 := box_ext hb16 c3; replace c9 := box_ext hb16 c9; replace c11 := box_ext hb16 c11; replace c13 := box_ext hb16 c13; replace c15 := box_ext hb16 c15; replace d3 := d3.ext hb16; replace g := Lib.hid (bl_then g.out hb16); clear hb16)
        | (go_at_call 30; refine (c_rarm AB B.length cb AP P.length cp f n _ F3 hF3.out).mono ?_; rintro e w16 ⟨rfl, hb16⟩; replace c3 := box_ext hb16 c3; replace c9 := box_ext hb16 c9; replace c11 := box_ext hb16 c11; replace c13 := box_ext hb16 c13; replace c15 := box_ext hb16 c15; replace d3 := d3.ext hb16; replace g := Lib.hid (bl_then g.out hb16); clear hb16)
        | (go_at_call_of 15 (Value.agg #[.slice AB9 B.length cb9, .slice AP9 P1.length cp9, .int .i64 F1]); refine (c_rsame AB9 cb9 AP9 cp9 F1 AB11 cb11 AP11 cp11 F1 _ B P1 B P1 d9 d11 b1.out p2.out true S1.out).mono ?_; rintro e w16 ⟨rfl, hb16⟩; replace c3 := box_ext hb16 c3; replace c9 := box_ext hb16 c9; replace c11 := box_ext hb16 c11; replace c13 := box_ext hb16 c13; replace c15 := box_ext hb16 c15; replace d3 := d3.ext hb16; replace rk := rk.ext hb16; replace d13 := d13.ext hb16; replace d15 := d15.ext hb16; replace g := Lib.hid (bl_then g.out hb16); clear hb16)
        | (go_at_call_of 15 (Value.agg #[.slice AB13 B2.length cb13, .slice AP13 P2.length cp13, .int .i64 f]); refine (c_rsame AB13 cb13 AP13 cp13 f AB15 cb15 AP15 cp15 f _ B2 P2 B2 P2 d13 d15 b2.out p3.out true S2.out).mono ?_; rintro e w16 ⟨rfl, hb16⟩; replace c3 := box_ext hb16 c3; replace c9 := box_ext hb16 c9; replace c11 := box_ext hb16 c11; replace c13 := box_ext hb16 c13; replace c15 := box_ext hb16 c15; replace d3 := d3.ext hb16; replace rk := rk.ext hb16; replace g := Lib.hid (bl_then g.out hb16); clear hb16)
        | (go_at_call_of 15 (Value.agg #[.slice AB B.length cb, .slice AP P.length cp, .int .i64 F3]); refine (c_rsame AB cb AP cp F3 AB cb AP cp F3 _ B P B P d3 d3 b1.out p1.out true S4.out).mono ?_; rintro e w16 ⟨rfl, hb16⟩; replace c3 := box_ext hb16 c3; replace c9 := box_ext hb16 c9; replace c11 := box_ext hb16 c11; replace c13 := box_ext hb16 c13; replace c15 := box_ext hb16 c15; replace d3 := d3.ext hb16; replace g := Lib.hid (bl_then g.out hb16); clear hb16)
        | (go_at_call 15; refine (c_rsame AB27 cb27 AP27 cp27 (-1) AB28 cb28 AP28 cp28 (-1) _ B3 P3 B3 P3 d27 d28 b3.out p4.out true S3.out).mono ?_; rintro e w16 ⟨rfl, hb16⟩; replace c3 := box_ext hb16 c3; replace c9 := box_ext hb16 c9; replace c11 := box_ext hb16 c11; replace c13 := box_ext hb16 c13; replace c15 := box_ext hb16 c15; replace d3 := d3.ext hb16; replace rk := rk.ext hb16; replace g := Lib.hid (bl_then g.out hb16); clear hb16))
    all_goals (go_wp2_with fail; go_ret; exact ⟨rfl, g.out⟩)
end Go.Proofs.Ytkfalgdhpojejaa
