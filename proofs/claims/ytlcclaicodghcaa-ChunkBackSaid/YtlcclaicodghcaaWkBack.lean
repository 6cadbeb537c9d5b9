import Derived.Test.YtlcclaicodghcaaCx
namespace Go.Proofs.Ytlcclaicodghcaa
open Go.RowKit

set_option maxRecDepth 20000 in
set_option maxHeartbeats 8000000 in
theorem kBack_any (v r : Int) (AS : Option Addr) (cS : Nat) (S : List UInt8) (AN : Option Addr) (cN : Nat) (N : List UInt8) (AT : Option Addr) (cT : Nat) (T : List SectD) (A : Option Addr) (c : Nat) (x : List UInt8) (A2 : Option Addr) (c2 : Nat) (y : List UInt8) (w : World) (hH : OkH w AS cS S AN cN N AT T) (ox : OkB w A c x) (oy : OkB w A2 c2 y) : Calls Try.prog 14 #[.agg #[.int .i64 v, .slice AS S.length cS, .int .i64 r, .slice AN N.length cN, .slice AT T.length cT], .slice A x.length c, .slice A2 y.length c2] w fun e w' => e = .returned (.bool true) ∧ Below w.heap.size w w' := by
  cases hf : fewH S N T 1048576
  · replace hf := Lib.hid hf
    have k := Lib.hid (OneH.new v r AS cS S AN cN N AT cT T hH)
    have ga := bl_alloc (Below.refl _ w) (.cells #[.int .i64 v, .slice AS S.length cS, .int .i64 r, .slice AN N.length cN, .slice AT T.length cT] 75)
    replace ox := Lib.hid (ox.ext ga)
    replace oy := Lib.hid (oy.ext ga)
    clear ga
    replace hH := Lib.hid hH
    go_enter Try.func14, Try.ntmps14
    go_wp2_with fail
    refine (shown17 _).mono ?_; rintro e w1 ⟨rfl, hb⟩
    replace ox := Lib.hid (ox.out.ext hb)
    replace oy := Lib.hid (oy.out.ext hb)
    replace k := Lib.hid (k.out.ext hb)
    clear hb
    have ca := (blk_facts k.out.2.1).1
    go_wp2_with fail
    refine (few_any v r AS cS S AN cN N AT cT T 1048576 _ k.out.ha false hf.out).mono ?_; rintro e w2 ⟨rfl, hb⟩
    clear ca
    replace ox := Lib.hid (ox.out.ext hb)
    replace oy := Lib.hid (oy.out.ext hb)
    replace k := Lib.hid (k.out.ext hb)
    clear hb
    have ca := (blk_facts k.out.2.1).1
    go_wp2_with fail
    go_ret
    exact ⟨rfl, k.out.1⟩
  replace hf := Lib.hid hf
  by_cases hx9 : (100 : Int) < (x.length : Int)
  · skip
    have k := Lib.hid (OneH.new v r AS cS S AN cN N AT cT T hH)
    have ga := bl_alloc (Below.refl _ w) (.cells #[.int .i64 v, .slice AS S.length cS, .int .i64 r, .slice AN N.length cN, .slice AT T.length cT] 75)
    replace ox := Lib.hid (ox.ext ga)
    replace oy := Lib.hid (oy.ext ga)
    clear ga
    replace hH := Lib.hid hH
    go_enter Try.func14, Try.ntmps14
    go_wp2_with fail
    refine (shown17 _).mono ?_; rintro e w1 ⟨rfl, hb⟩
    replace ox := Lib.hid (ox.out.ext hb)
    replace oy := Lib.hid (oy.out.ext hb)
    replace k := Lib.hid (k.out.ext hb)
    clear hb
    have ca := (blk_facts k.out.2.1).1
    go_wp2_with fail
    refine (few_any v r AS cS S AN cN N AT cT T 1048576 _ k.out.ha true hf.out).mono ?_; rintro e w2 ⟨rfl, hb⟩
    clear ca
    replace ox := Lib.hid (ox.out.ext hb)
    replace oy := Lib.hid (oy.out.ext hb)
    replace k := Lib.hid (k.out.ext hb)
    clear hb
    have ca := (blk_facts k.out.2.1).1
    go_wp2_with fail
    go_ret
    exact ⟨rfl, k.out.1⟩
  by_cases hy9 : (5000 : Int) < (y.length : Int)
  · skip
    have k := Lib.hid (OneH.new v r AS cS S AN cN N AT cT T hH)
    have ga := bl_alloc (Below.refl _ w) (.cells #[.int .i64 v, .slice AS S.length cS, .int .i64 r, .slice AN N.length cN, .slice AT T.length cT] 75)
    replace ox := Lib.hid (ox.ext ga)
    replace oy := Lib.hid (oy.ext ga)
    clear ga
    replace hH := Lib.hid hH
    go_enter Try.func14, Try.ntmps14
    go_wp2_with fail
    refine (shown17 _).mono ?_; rintro e w1 ⟨rfl, hb⟩
    replace ox := Lib.hid (ox.out.ext hb)
    replace oy := Lib.hid (oy.out.ext hb)
    replace k := Lib.hid (k.out.ext hb)
    clear hb
    have ca := (blk_facts k.out.2.1).1
    go_wp2_with fail
    refine (few_any v r AS cS S AN cN N AT cT T 1048576 _ k.out.ha true hf.out).mono ?_; rintro e w2 ⟨rfl, hb⟩
    clear ca
    replace ox := Lib.hid (ox.out.ext hb)
    replace oy := Lib.hid (oy.out.ext hb)
    replace k := Lib.hid (k.out.ext hb)
    clear hb
    have ca := (blk_facts k.out.2.1).1
    go_wp2_with fail
    go_ret
    exact ⟨rfl, k.out.1⟩
  obtain ⟨i0, hi, hz0, hz1, hz2⟩ := info_parts info5
  cases hr : rightH v S r N T
  · by_cases hz : readE y = 0
    · have hl1 : (writeL v S r N T).length ≤ 100000 := writeL_len
      have hE : writeE v S r N T = 1 := if_neg (by rw [hr]; decide)
      obtain ⟨L, hL⟩ : ∃ z, writeL v S r N T = z := ⟨_, rfl⟩
      rw [hL] at hl1
      replace hE := Lib.hid hE; replace hL := Lib.hid hL; replace hr := Lib.hid hr
      obtain ⟨E1, v1, S1, r1, N1, T1, X1, hd⟩ : ∃ E1 v1 S1 r1 N1 T1 X1, Hid (readE (L ++ x) = E1 ∧ readV (L ++ x) = v1 ∧ readS (L ++ x) = S1 ∧ readR (L ++ x) = r1 ∧ readN (L ++ x) = N1 ∧ readT (L ++ x) = T1 ∧ readX (L ++ x) = X1) := ⟨_, _, _, _, _, _, _, rfl, rfl, rfl, rfl, rfl, rfl, rfl⟩
      obtain ⟨hrR, n, hn, hny, hnh⟩ := read_back hz
      have hw := writeL_right hrR
      rw [hw.2.1, hnh] at hw
      have hwl : ((y.take n).length : Int) = (n : Int) := by rw [List.length_take]; omega
      obtain ⟨v2, hv2⟩ : ∃ z, readV y = z := ⟨_, rfl⟩
      obtain ⟨S2, hS2⟩ : ∃ z, readS y = z := ⟨_, rfl⟩
      obtain ⟨r2, hr2⟩ : ∃ z, readR y = z := ⟨_, rfl⟩
      obtain ⟨N2, hN2⟩ : ∃ z, readN y = z := ⟨_, rfl⟩
      obtain ⟨T2, hT2⟩ : ∃ z, readT y = z := ⟨_, rfl⟩
      have hwL : writeL (readV y) (readS y) (readR y) (readN y) (readT y) = y.take n := by rw [(writeL_right hrR).2.1, hnh]
      have hwE := (writeL_right hrR).1
      have hw38 := (writeL_right hrR).2.2
      rw [hwL] at hw38
      rw [hv2, hS2, hr2, hN2, hT2] at hwL hwE
      obtain ⟨L2, hL2⟩ : ∃ z, y.take n = z := ⟨_, rfl⟩
      rw [hL2] at hwL hwl hw38
      have hnl : n = L2.length := by omega
      subst hnl
      have hyp : 0 < y.length := by omega
      have hle2 : (L2.length : Int) ≤ (y.length : Int) := by omega
      replace hz := Lib.hid hz; replace hn := Lib.hid hn; replace hv2 := Lib.hid hv2; replace hS2 := Lib.hid hS2; replace hr2 := Lib.hid hr2; replace hN2 := Lib.hid hN2; replace hT2 := Lib.hid hT2; replace hwL := Lib.hid hwL; replace hwE := Lib.hid hwE; replace hL2 := Lib.hid hL2
      clear hw hnh hrR hwl
      have k := Lib.hid (OneH.new v r AS cS S AN cN N AT cT T hH)
      have ga := bl_alloc (Below.refl _ w) (.cells #[.int .i64 v, .slice AS S.length cS, .int .i64 r, .slice AN N.length cN, .slice AT T.length cT] 75)
      replace ox := Lib.hid (ox.ext ga)
      replace oy := Lib.hid (oy.ext ga)
      clear ga
      replace hH := Lib.hid hH
      go_enter Try.func14, Try.ntmps14
      go_wp2_with fail
      refine (shown17 _).mono ?_; rintro e w1 ⟨rfl, hb⟩
      replace ox := Lib.hid (ox.out.ext hb)
      replace oy := Lib.hid (oy.out.ext hb)
      replace k := Lib.hid (k.out.ext hb)
      clear hb
      have ca := (blk_facts k.out.2.1).1
      go_wp2_with fail
      refine (few_any v r AS cS S AN cN N AT cT T 1048576 _ k.out.ha true hf.out).mono ?_; rintro e w2 ⟨rfl, hb⟩
      clear ca
      replace ox := Lib.hid (ox.out.ext hb)
      replace oy := Lib.hid (oy.out.ext hb)
      replace k := Lib.hid (k.out.ext hb)
      clear hb
      have ca := (blk_facts k.out.2.1).1
      go_wp2_with fail
      refine (c_write v r AS cS S AN cN N AT cT T 1 L _ k.out.ha hE.out hL.out).mono ?_; rintro e w4 ⟨⟨A3, c3, rfl, o1⟩, hb⟩
      clear ca
      replace o1 := Lib.hid o1.ok
      replace ox := Lib.hid (ox.out.ext hb)
      replace oy := Lib.hid (oy.out.ext hb)
      replace k := Lib.hid (k.out.ext hb)
      clear hb
      have ca := (blk_facts k.out.2.1).1
      go_wp2_with fail
      refine (rright_any v r AS cS S AN cN N AT cT T _ k.out.ha false hr.out).mono ?_; rintro e w5 ⟨rfl, hb⟩
      clear ca
      replace ox := Lib.hid (ox.out.ext hb)
      replace oy := Lib.hid (oy.out.ext hb)
      replace o1 := Lib.hid (o1.out.ext hb)
      replace k := Lib.hid (k.out.ext hb)
      clear hb
      have ip := Lib.hid (bl_alloc (Below.refl w5.heap.size w5) (.cells #[] 5))
      go_wp2_with (first | (at_builtin; refine append_any _ rfl (.tmp 44) (.tmp 45) 22 rfl w5.heap.size i0 Try.underlying22 hi hz0 hz1 hz2 (some ⟨w5.heap.size, 0, none⟩) 0 [] rfl (own_empty _ _ rfl) A3 c3 L rfl (o1.out.ext ip.out) (by simp; omega) ip.out.size ?_; intro Aa ca' ba wa hba hoa hga) | (at_builtin; refine append_any _ rfl (.tmp 46) (.tmp 47) 22 rfl w5.heap.size i0 Try.underlying22 hi hz0 hz1 hz2 Aa ca' ba rfl hoa.out A c x rfl (ox.out.ext (bl_grown ip.out hga (OwnB.low (own_empty _ _ rfl) (Nat.le_refl _)))) (by rw [hba.out]; simp; omega) (bl_grown ip.out hga (OwnB.low (own_empty _ _ rfl) (Nat.le_refl _))).size ?_; intro Ab cb bb wb hbb hob hgb))
      have jp := bl_grown (bl_grown ip.out hga (OwnB.low (own_empty _ _ rfl) (Nat.le_refl _))) hgb (OwnB.low hoa.out (Nat.le_refl _))
      have ob := hob.out.ok
      replace hbb : bb = L ++ x := by rw [hbb.out, hba.out]; rfl
      rw [← hbb] at hd
      have hbl : bb.length ≤ 1000000 := by rw [hbb, List.length_append]; omega
      clear hoa hob hga hgb hba hbb ip
      replace ox := Lib.hid (ox.out.ext jp)
      replace oy := Lib.hid (oy.out.ext jp)
      replace o1 := Lib.hid (o1.out.ext jp)
      replace k := Lib.hid (k.out.ext jp)
      clear jp
      refine (c_readN Ab cb bb _ ob hbl _ rfl E1 v1 r1 X1 S1 N1 T1 hd.out.1 hd.out.2.1 hd.out.2.2.2.1 hd.out.2.2.2.2.2.2 hd.out.2.2.1 hd.out.2.2.2.2.1 hd.out.2.2.2.2.2.1).mono ?_
      rintro e w6 ⟨⟨AS5, cS5, AN5, cN5, AT5, cT5, rfl, hH5⟩, hb⟩
      clear ob hbl hd
      replace ox := Lib.hid (ox.out.ext hb)
      replace oy := Lib.hid (oy.out.ext hb)
      replace o1 := Lib.hid (o1.out.ext hb)
      replace k := Lib.hid (k.out.ext hb)
      clear hb
      have hb := bl_alloc (Below.refl _ w6) (.cells #[.int .i64 v1, .slice AS5 S1.length cS5, .int .i64 r1, .slice AN5 N1.length cN5, .slice AT5 T1.length cT5] 75)
      have f5 := blk_new w6 #[.int .i64 v1, .slice AS5 S1.length cS5, .int .i64 r1, .slice AN5 N1.length cN5, .slice AT5 T1.length cT5] 75
      have h5 := lt_blk f5
      replace hH5 := Lib.hid (hH5.ext hb)
      replace ox := Lib.hid (ox.out.ext hb)
      replace oy := Lib.hid (oy.out.ext hb)
      replace o1 := Lib.hid (o1.out.ext hb)
      replace k := Lib.hid (k.out.ext hb)
      clear hb
      clear f5 h5 hH5
      go_wp2_with fail
      refine (c_readN A2 c2 y _ oy.out (by omega) _ rfl 0 v2 r2 (L2.length : Int) S2 N2 T2 hz.out hv2.out hr2.out hn.out hS2.out hN2.out hT2.out).mono ?_
      rintro e w8 ⟨⟨AS6, cS6, AN6, cN6, AT6, cT6, rfl, hH6⟩, hb⟩
      replace ox := Lib.hid (ox.out.ext hb)
      replace oy := Lib.hid (oy.out.ext hb)
      replace o1 := Lib.hid (o1.out.ext hb)
      replace k := Lib.hid (k.out.ext hb)
      clear hb
      have hb := bl_alloc (Below.refl _ w8) (.cells #[.int .i64 v2, .slice AS6 S2.length cS6, .int .i64 r2, .slice AN6 N2.length cN6, .slice AT6 T2.length cT6] 75)
      have f6 := blk_new w8 #[.int .i64 v2, .slice AS6 S2.length cS6, .int .i64 r2, .slice AN6 N2.length cN6, .slice AT6 T2.length cT6] 75
      replace hH6 := Lib.hid (hH6.ext hb)
      replace ox := Lib.hid (ox.out.ext hb)
      replace oy := Lib.hid (oy.out.ext hb)
      replace o1 := Lib.hid (o1.out.ext hb)
      replace k := Lib.hid (k.out.ext hb)
      clear hb
      obtain ⟨cg, fz, h6⟩ := blk_facts f6
      replace f6 := Lib.hid f6
      go_wp2_with fail
      refine (c_write v2 r2 AS6 cS6 S2 AN6 cN6 N2 AT6 cT6 T2 0 L2 _ hH6.out hwE.out hwL.out).mono ?_; rintro e w9 ⟨⟨A7, c7, rfl, o7⟩, hb⟩
      clear cg fz h6 f6 hH6
      replace o7 := Lib.hid o7.ok
      replace ox := Lib.hid (ox.out.ext hb)
      replace oy := Lib.hid (oy.out.ext hb)
      replace o1 := Lib.hid (o1.out.ext hb)
      replace k := Lib.hid (k.out.ext hb)
      clear hb
      obtain ⟨ady, rfl⟩ := ok_ad oy.out hyp
      have hcy := oy.out.2.1
      have hle3 : L2.length ≤ c2 := by omega
      go_wp2_with fail
      refine (c_sameN A7 c7 L2 (some ady) c2 (y.take L2.length) _ _ _ rfl (by rw [List.length_take]; omega) o7.out (oy.out.take _) true (by rw [hL2.out]; simp)).mono ?_; rintro e w10 ⟨rfl, rfl⟩
      go_wp2_with fail
      go_ret
      exact ⟨ret_bool (by simp), k.out.1⟩
    · have hl1 : (writeL v S r N T).length ≤ 100000 := writeL_len
      have hE : writeE v S r N T = 1 := if_neg (by rw [hr]; decide)
      obtain ⟨L, hL⟩ : ∃ z, writeL v S r N T = z := ⟨_, rfl⟩
      rw [hL] at hl1
      replace hE := Lib.hid hE; replace hL := Lib.hid hL; replace hr := Lib.hid hr
      obtain ⟨E1, v1, S1, r1, N1, T1, X1, hd⟩ : ∃ E1 v1 S1 r1 N1 T1 X1, Hid (readE (L ++ x) = E1 ∧ readV (L ++ x) = v1 ∧ readS (L ++ x) = S1 ∧ readR (L ++ x) = r1 ∧ readN (L ++ x) = N1 ∧ readT (L ++ x) = T1 ∧ readX (L ++ x) = X1) := ⟨_, _, _, _, _, _, _, rfl, rfl, rfl, rfl, rfl, rfl, rfl⟩
      obtain ⟨b1, b2, b3, b4, b5, b6⟩ := read_bad hz
      obtain ⟨E2, hE2⟩ : ∃ z, readE y = z := ⟨_, rfl⟩
      rw [hE2] at hz
      have hzA : (E2 == 0) = false := by rw [beq_eq_false_iff_ne]; exact hz
      have hzB : (E2 != 0) = true := by rw [bne_iff_ne]; exact hz
      obtain ⟨v2, hv2⟩ : ∃ z, readV y = z := ⟨_, rfl⟩
      obtain ⟨S2, hS2⟩ : ∃ z, readS y = z := ⟨_, rfl⟩
      obtain ⟨r2, hr2⟩ : ∃ z, readR y = z := ⟨_, rfl⟩
      obtain ⟨N2, hN2⟩ : ∃ z, readN y = z := ⟨_, rfl⟩
      obtain ⟨T2, hT2⟩ : ∃ z, readT y = z := ⟨_, rfl⟩
      have hT0 : T2.length = 0 := by rw [← hT2, b5]; rfl
      replace hE2 := Lib.hid hE2; replace b6 := Lib.hid b6; replace hv2 := Lib.hid hv2; replace hS2 := Lib.hid hS2; replace hr2 := Lib.hid hr2; replace hN2 := Lib.hid hN2; replace hT2 := Lib.hid hT2
      clear b1 b2 b3 b4 b5
      have k := Lib.hid (OneH.new v r AS cS S AN cN N AT cT T hH)
      have ga := bl_alloc (Below.refl _ w) (.cells #[.int .i64 v, .slice AS S.length cS, .int .i64 r, .slice AN N.length cN, .slice AT T.length cT] 75)
      replace ox := Lib.hid (ox.ext ga)
      replace oy := Lib.hid (oy.ext ga)
      clear ga
      replace hH := Lib.hid hH
      go_enter Try.func14, Try.ntmps14
      go_wp2_with fail
      refine (shown17 _).mono ?_; rintro e w1 ⟨rfl, hb⟩
      replace ox := Lib.hid (ox.out.ext hb)
      replace oy := Lib.hid (oy.out.ext hb)
      replace k := Lib.hid (k.out.ext hb)
      clear hb
      have ca := (blk_facts k.out.2.1).1
      go_wp2_with fail
      refine (few_any v r AS cS S AN cN N AT cT T 1048576 _ k.out.ha true hf.out).mono ?_; rintro e w2 ⟨rfl, hb⟩
      clear ca
      replace ox := Lib.hid (ox.out.ext hb)
      replace oy := Lib.hid (oy.out.ext hb)
      replace k := Lib.hid (k.out.ext hb)
      clear hb
      have ca := (blk_facts k.out.2.1).1
      go_wp2_with fail
      refine (c_write v r AS cS S AN cN N AT cT T 1 L _ k.out.ha hE.out hL.out).mono ?_; rintro e w4 ⟨⟨A3, c3, rfl, o1⟩, hb⟩
      clear ca
      replace o1 := Lib.hid o1.ok
      replace ox := Lib.hid (ox.out.ext hb)
      replace oy := Lib.hid (oy.out.ext hb)
      replace k := Lib.hid (k.out.ext hb)
      clear hb
      have ca := (blk_facts k.out.2.1).1
      go_wp2_with fail
      refine (rright_any v r AS cS S AN cN N AT cT T _ k.out.ha false hr.out).mono ?_; rintro e w5 ⟨rfl, hb⟩
      clear ca
      replace ox := Lib.hid (ox.out.ext hb)
      replace oy := Lib.hid (oy.out.ext hb)
      replace o1 := Lib.hid (o1.out.ext hb)
      replace k := Lib.hid (k.out.ext hb)
      clear hb
      have ip := Lib.hid (bl_alloc (Below.refl w5.heap.size w5) (.cells #[] 5))
      go_wp2_with (first | (at_builtin; refine append_any _ rfl (.tmp 44) (.tmp 45) 22 rfl w5.heap.size i0 Try.underlying22 hi hz0 hz1 hz2 (some ⟨w5.heap.size, 0, none⟩) 0 [] rfl (own_empty _ _ rfl) A3 c3 L rfl (o1.out.ext ip.out) (by simp; omega) ip.out.size ?_; intro Aa ca' ba wa hba hoa hga) | (at_builtin; refine append_any _ rfl (.tmp 46) (.tmp 47) 22 rfl w5.heap.size i0 Try.underlying22 hi hz0 hz1 hz2 Aa ca' ba rfl hoa.out A c x rfl (ox.out.ext (bl_grown ip.out hga (OwnB.low (own_empty _ _ rfl) (Nat.le_refl _)))) (by rw [hba.out]; simp; omega) (bl_grown ip.out hga (OwnB.low (own_empty _ _ rfl) (Nat.le_refl _))).size ?_; intro Ab cb bb wb hbb hob hgb))
      have jp := bl_grown (bl_grown ip.out hga (OwnB.low (own_empty _ _ rfl) (Nat.le_refl _))) hgb (OwnB.low hoa.out (Nat.le_refl _))
      have ob := hob.out.ok
      replace hbb : bb = L ++ x := by rw [hbb.out, hba.out]; rfl
      rw [← hbb] at hd
      have hbl : bb.length ≤ 1000000 := by rw [hbb, List.length_append]; omega
      clear hoa hob hga hgb hba hbb ip
      replace ox := Lib.hid (ox.out.ext jp)
      replace oy := Lib.hid (oy.out.ext jp)
      replace o1 := Lib.hid (o1.out.ext jp)
      replace k := Lib.hid (k.out.ext jp)
      clear jp
      refine (c_readN Ab cb bb _ ob hbl _ rfl E1 v1 r1 X1 S1 N1 T1 hd.out.1 hd.out.2.1 hd.out.2.2.2.1 hd.out.2.2.2.2.2.2 hd.out.2.2.1 hd.out.2.2.2.2.1 hd.out.2.2.2.2.2.1).mono ?_
      rintro e w6 ⟨⟨AS5, cS5, AN5, cN5, AT5, cT5, rfl, hH5⟩, hb⟩
      clear ob hbl hd
      replace ox := Lib.hid (ox.out.ext hb)
      replace oy := Lib.hid (oy.out.ext hb)
      replace o1 := Lib.hid (o1.out.ext hb)
      replace k := Lib.hid (k.out.ext hb)
      clear hb
      have hb := bl_alloc (Below.refl _ w6) (.cells #[.int .i64 v1, .slice AS5 S1.length cS5, .int .i64 r1, .slice AN5 N1.length cN5, .slice AT5 T1.length cT5] 75)
      have f5 := blk_new w6 #[.int .i64 v1, .slice AS5 S1.length cS5, .int .i64 r1, .slice AN5 N1.length cN5, .slice AT5 T1.length cT5] 75
      have h5 := lt_blk f5
      replace hH5 := Lib.hid (hH5.ext hb)
      replace ox := Lib.hid (ox.out.ext hb)
      replace oy := Lib.hid (oy.out.ext hb)
      replace o1 := Lib.hid (o1.out.ext hb)
      replace k := Lib.hid (k.out.ext hb)
      clear hb
      clear f5 h5 hH5
      go_wp2_with fail
      refine (c_readN A2 c2 y _ oy.out (by omega) _ rfl E2 v2 r2 0 S2 N2 T2 hE2.out hv2.out hr2.out b6.out hS2.out hN2.out hT2.out).mono ?_
      rintro e w8 ⟨⟨AS6, cS6, AN6, cN6, AT6, cT6, rfl, hH6⟩, hb⟩
      replace ox := Lib.hid (ox.out.ext hb)
      replace oy := Lib.hid (oy.out.ext hb)
      replace o1 := Lib.hid (o1.out.ext hb)
      replace k := Lib.hid (k.out.ext hb)
      clear hb
      have hb := bl_alloc (Below.refl _ w8) (.cells #[.int .i64 v2, .slice AS6 S2.length cS6, .int .i64 r2, .slice AN6 N2.length cN6, .slice AT6 T2.length cT6] 75)
      have f6 := blk_new w8 #[.int .i64 v2, .slice AS6 S2.length cS6, .int .i64 r2, .slice AN6 N2.length cN6, .slice AT6 T2.length cT6] 75
      replace hH6 := Lib.hid (hH6.ext hb)
      replace ox := Lib.hid (ox.out.ext hb)
      replace oy := Lib.hid (oy.out.ext hb)
      replace o1 := Lib.hid (o1.out.ext hb)
      replace k := Lib.hid (k.out.ext hb)
      clear hb
      obtain ⟨cg, fz, h6⟩ := blk_facts f6
      replace f6 := Lib.hid f6
      go_wp2_with fail
      go_ret
      have k1 := k.out.1
      rw [hT0] at k1
      exact ⟨ret_bool (by simp), k1⟩
  · by_cases hz : readE y = 0
    · have hl1 : (writeL v S r N T).length ≤ 100000 := writeL_len
      obtain ⟨hE, hLh, h38⟩ := writeL_right hr
      have hrd := read_put (more := x) hr
      rw [← hLh] at hrd
      obtain ⟨L, hL⟩ : ∃ z, writeL v S r N T = z := ⟨_, rfl⟩
      rw [hL] at hrd h38 hl1
      have hsm := Lib.hid (sameH_refl v S r N T)
      replace hE := Lib.hid hE; replace hL := Lib.hid hL; replace hr := Lib.hid hr; clear hLh
      have hd := Lib.hid hrd
      clear hrd
      obtain ⟨hrR, n, hn, hny, hnh⟩ := read_back hz
      have hw := writeL_right hrR
      rw [hw.2.1, hnh] at hw
      have hwl : ((y.take n).length : Int) = (n : Int) := by rw [List.length_take]; omega
      obtain ⟨v2, hv2⟩ : ∃ z, readV y = z := ⟨_, rfl⟩
      obtain ⟨S2, hS2⟩ : ∃ z, readS y = z := ⟨_, rfl⟩
      obtain ⟨r2, hr2⟩ : ∃ z, readR y = z := ⟨_, rfl⟩
      obtain ⟨N2, hN2⟩ : ∃ z, readN y = z := ⟨_, rfl⟩
      obtain ⟨T2, hT2⟩ : ∃ z, readT y = z := ⟨_, rfl⟩
      have hwL : writeL (readV y) (readS y) (readR y) (readN y) (readT y) = y.take n := by rw [(writeL_right hrR).2.1, hnh]
      have hwE := (writeL_right hrR).1
      have hw38 := (writeL_right hrR).2.2
      rw [hwL] at hw38
      rw [hv2, hS2, hr2, hN2, hT2] at hwL hwE
      obtain ⟨L2, hL2⟩ : ∃ z, y.take n = z := ⟨_, rfl⟩
      rw [hL2] at hwL hwl hw38
      have hnl : n = L2.length := by omega
      subst hnl
      have hyp : 0 < y.length := by omega
      have hle2 : (L2.length : Int) ≤ (y.length : Int) := by omega
      replace hz := Lib.hid hz; replace hn := Lib.hid hn; replace hv2 := Lib.hid hv2; replace hS2 := Lib.hid hS2; replace hr2 := Lib.hid hr2; replace hN2 := Lib.hid hN2; replace hT2 := Lib.hid hT2; replace hwL := Lib.hid hwL; replace hwE := Lib.hid hwE; replace hL2 := Lib.hid hL2
      clear hw hnh hrR hwl
      have k := Lib.hid (OneH.new v r AS cS S AN cN N AT cT T hH)
      have ga := bl_alloc (Below.refl _ w) (.cells #[.int .i64 v, .slice AS S.length cS, .int .i64 r, .slice AN N.length cN, .slice AT T.length cT] 75)
      replace ox := Lib.hid (ox.ext ga)
      replace oy := Lib.hid (oy.ext ga)
      clear ga
      replace hH := Lib.hid hH
      go_enter Try.func14, Try.ntmps14
      go_wp2_with fail
      refine (shown17 _).mono ?_; rintro e w1 ⟨rfl, hb⟩
      replace ox := Lib.hid (ox.out.ext hb)
      replace oy := Lib.hid (oy.out.ext hb)
      replace k := Lib.hid (k.out.ext hb)
      clear hb
      have ca := (blk_facts k.out.2.1).1
      go_wp2_with fail
      refine (few_any v r AS cS S AN cN N AT cT T 1048576 _ k.out.ha true hf.out).mono ?_; rintro e w2 ⟨rfl, hb⟩
      clear ca
      replace ox := Lib.hid (ox.out.ext hb)
      replace oy := Lib.hid (oy.out.ext hb)
      replace k := Lib.hid (k.out.ext hb)
      clear hb
      have ca := (blk_facts k.out.2.1).1
      go_wp2_with fail
      refine (c_write v r AS cS S AN cN N AT cT T 0 L _ k.out.ha hE.out hL.out).mono ?_; rintro e w4 ⟨⟨A3, c3, rfl, o1⟩, hb⟩
      clear ca
      replace o1 := Lib.hid o1.ok
      replace ox := Lib.hid (ox.out.ext hb)
      replace oy := Lib.hid (oy.out.ext hb)
      replace k := Lib.hid (k.out.ext hb)
      clear hb
      have ca := (blk_facts k.out.2.1).1
      go_wp2_with fail
      refine (rright_any v r AS cS S AN cN N AT cT T _ k.out.ha true hr.out).mono ?_; rintro e w5 ⟨rfl, hb⟩
      clear ca
      replace ox := Lib.hid (ox.out.ext hb)
      replace oy := Lib.hid (oy.out.ext hb)
      replace o1 := Lib.hid (o1.out.ext hb)
      replace k := Lib.hid (k.out.ext hb)
      clear hb
      have ip := Lib.hid (bl_alloc (Below.refl w5.heap.size w5) (.cells #[] 5))
      go_wp2_with (first | (at_builtin; refine append_any _ rfl (.tmp 44) (.tmp 45) 22 rfl w5.heap.size i0 Try.underlying22 hi hz0 hz1 hz2 (some ⟨w5.heap.size, 0, none⟩) 0 [] rfl (own_empty _ _ rfl) A3 c3 L rfl (o1.out.ext ip.out) (by simp; omega) ip.out.size ?_; intro Aa ca' ba wa hba hoa hga) | (at_builtin; refine append_any _ rfl (.tmp 46) (.tmp 47) 22 rfl w5.heap.size i0 Try.underlying22 hi hz0 hz1 hz2 Aa ca' ba rfl hoa.out A c x rfl (ox.out.ext (bl_grown ip.out hga (OwnB.low (own_empty _ _ rfl) (Nat.le_refl _)))) (by rw [hba.out]; simp; omega) (bl_grown ip.out hga (OwnB.low (own_empty _ _ rfl) (Nat.le_refl _))).size ?_; intro Ab cb bb wb hbb hob hgb))
      have jp := bl_grown (bl_grown ip.out hga (OwnB.low (own_empty _ _ rfl) (Nat.le_refl _))) hgb (OwnB.low hoa.out (Nat.le_refl _))
      have ob := hob.out.ok
      replace hbb : bb = L ++ x := by rw [hbb.out, hba.out]; rfl
      rw [← hbb] at hd
      have hbl : bb.length ≤ 1000000 := by rw [hbb, List.length_append]; omega
      clear hoa hob hga hgb hba hbb ip
      replace ox := Lib.hid (ox.out.ext jp)
      replace oy := Lib.hid (oy.out.ext jp)
      replace o1 := Lib.hid (o1.out.ext jp)
      replace k := Lib.hid (k.out.ext jp)
      clear jp
      refine (c_readN Ab cb bb _ ob hbl _ rfl 0 v r (L.length : Int) S N T hd.out.1 hd.out.2.1 hd.out.2.2.2.1 hd.out.2.2.2.2.2.2 hd.out.2.2.1 hd.out.2.2.2.2.1 hd.out.2.2.2.2.2.1).mono ?_
      rintro e w6 ⟨⟨AS5, cS5, AN5, cN5, AT5, cT5, rfl, hH5⟩, hb⟩
      clear ob hbl hd
      replace ox := Lib.hid (ox.out.ext hb)
      replace oy := Lib.hid (oy.out.ext hb)
      replace o1 := Lib.hid (o1.out.ext hb)
      replace k := Lib.hid (k.out.ext hb)
      clear hb
      have hb := bl_alloc (Below.refl _ w6) (.cells #[.int .i64 v, .slice AS5 S.length cS5, .int .i64 r, .slice AN5 N.length cN5, .slice AT5 T.length cT5] 75)
      have f5 := blk_new w6 #[.int .i64 v, .slice AS5 S.length cS5, .int .i64 r, .slice AN5 N.length cN5, .slice AT5 T.length cT5] 75
      have h5 := lt_blk f5
      replace hH5 := Lib.hid (hH5.ext hb)
      replace ox := Lib.hid (ox.out.ext hb)
      replace oy := Lib.hid (oy.out.ext hb)
      replace o1 := Lib.hid (o1.out.ext hb)
      replace k := Lib.hid (k.out.ext hb)
      clear hb
      have cg := (blk_facts f5).1
      have ca := (blk_facts k.out.2.1).1
      replace f5 := Lib.hid f5
      go_wp2_with fail
      refine (rsame_heads v r AS5 cS5 S AN5 cN5 N AT5 cT5 T v r AS cS S AN cN N AT cT T _ hH5.out k.out.ha true hsm.out).mono ?_; rintro e w7 ⟨rfl, hb⟩
      clear cg ca f5 h5 hH5
      replace ox := Lib.hid (ox.out.ext hb)
      replace oy := Lib.hid (oy.out.ext hb)
      replace o1 := Lib.hid (o1.out.ext hb)
      replace k := Lib.hid (k.out.ext hb)
      clear hb
      go_wp2_with fail
      refine (c_readN A2 c2 y _ oy.out (by omega) _ rfl 0 v2 r2 (L2.length : Int) S2 N2 T2 hz.out hv2.out hr2.out hn.out hS2.out hN2.out hT2.out).mono ?_
      rintro e w8 ⟨⟨AS6, cS6, AN6, cN6, AT6, cT6, rfl, hH6⟩, hb⟩
      replace ox := Lib.hid (ox.out.ext hb)
      replace oy := Lib.hid (oy.out.ext hb)
      replace o1 := Lib.hid (o1.out.ext hb)
      replace k := Lib.hid (k.out.ext hb)
      clear hb
      have hb := bl_alloc (Below.refl _ w8) (.cells #[.int .i64 v2, .slice AS6 S2.length cS6, .int .i64 r2, .slice AN6 N2.length cN6, .slice AT6 T2.length cT6] 75)
      have f6 := blk_new w8 #[.int .i64 v2, .slice AS6 S2.length cS6, .int .i64 r2, .slice AN6 N2.length cN6, .slice AT6 T2.length cT6] 75
      replace hH6 := Lib.hid (hH6.ext hb)
      replace ox := Lib.hid (ox.out.ext hb)
      replace oy := Lib.hid (oy.out.ext hb)
      replace o1 := Lib.hid (o1.out.ext hb)
      replace k := Lib.hid (k.out.ext hb)
      clear hb
      obtain ⟨cg, fz, h6⟩ := blk_facts f6
      replace f6 := Lib.hid f6
      go_wp2_with fail
      refine (c_write v2 r2 AS6 cS6 S2 AN6 cN6 N2 AT6 cT6 T2 0 L2 _ hH6.out hwE.out hwL.out).mono ?_; rintro e w9 ⟨⟨A7, c7, rfl, o7⟩, hb⟩
      clear cg fz h6 f6 hH6
      replace o7 := Lib.hid o7.ok
      replace ox := Lib.hid (ox.out.ext hb)
      replace oy := Lib.hid (oy.out.ext hb)
      replace o1 := Lib.hid (o1.out.ext hb)
      replace k := Lib.hid (k.out.ext hb)
      clear hb
      obtain ⟨ady, rfl⟩ := ok_ad oy.out hyp
      have hcy := oy.out.2.1
      have hle3 : L2.length ≤ c2 := by omega
      go_wp2_with fail
      refine (c_sameN A7 c7 L2 (some ady) c2 (y.take L2.length) _ _ _ rfl (by rw [List.length_take]; omega) o7.out (oy.out.take _) true (by rw [hL2.out]; simp)).mono ?_; rintro e w10 ⟨rfl, rfl⟩
      go_wp2_with fail
      go_ret
      exact ⟨ret_bool (by simp), k.out.1⟩
    · have hl1 : (writeL v S r N T).length ≤ 100000 := writeL_len
      obtain ⟨hE, hLh, h38⟩ := writeL_right hr
      have hrd := read_put (more := x) hr
      rw [← hLh] at hrd
      obtain ⟨L, hL⟩ : ∃ z, writeL v S r N T = z := ⟨_, rfl⟩
      rw [hL] at hrd h38 hl1
      have hsm := Lib.hid (sameH_refl v S r N T)
      replace hE := Lib.hid hE; replace hL := Lib.hid hL; replace hr := Lib.hid hr; clear hLh
      have hd := Lib.hid hrd
      clear hrd
      obtain ⟨b1, b2, b3, b4, b5, b6⟩ := read_bad hz
      obtain ⟨E2, hE2⟩ : ∃ z, readE y = z := ⟨_, rfl⟩
      rw [hE2] at hz
      have hzA : (E2 == 0) = false := by rw [beq_eq_false_iff_ne]; exact hz
      have hzB : (E2 != 0) = true := by rw [bne_iff_ne]; exact hz
      obtain ⟨v2, hv2⟩ : ∃ z, readV y = z := ⟨_, rfl⟩
      obtain ⟨S2, hS2⟩ : ∃ z, readS y = z := ⟨_, rfl⟩
      obtain ⟨r2, hr2⟩ : ∃ z, readR y = z := ⟨_, rfl⟩
      obtain ⟨N2, hN2⟩ : ∃ z, readN y = z := ⟨_, rfl⟩
      obtain ⟨T2, hT2⟩ : ∃ z, readT y = z := ⟨_, rfl⟩
      have hT0 : T2.length = 0 := by rw [← hT2, b5]; rfl
      replace hE2 := Lib.hid hE2; replace b6 := Lib.hid b6; replace hv2 := Lib.hid hv2; replace hS2 := Lib.hid hS2; replace hr2 := Lib.hid hr2; replace hN2 := Lib.hid hN2; replace hT2 := Lib.hid hT2
      clear b1 b2 b3 b4 b5
      have k := Lib.hid (OneH.new v r AS cS S AN cN N AT cT T hH)
      have ga := bl_alloc (Below.refl _ w) (.cells #[.int .i64 v, .slice AS S.length cS, .int .i64 r, .slice AN N.length cN, .slice AT T.length cT] 75)
      replace ox := Lib.hid (ox.ext ga)
      replace oy := Lib.hid (oy.ext ga)
      clear ga
      replace hH := Lib.hid hH
      go_enter Try.func14, Try.ntmps14
      go_wp2_with fail
      refine (shown17 _).mono ?_; rintro e w1 ⟨rfl, hb⟩
      replace ox := Lib.hid (ox.out.ext hb)
      replace oy := Lib.hid (oy.out.ext hb)
      replace k := Lib.hid (k.out.ext hb)
      clear hb
      have ca := (blk_facts k.out.2.1).1
      go_wp2_with fail
      refine (few_any v r AS cS S AN cN N AT cT T 1048576 _ k.out.ha true hf.out).mono ?_; rintro e w2 ⟨rfl, hb⟩
      clear ca
      replace ox := Lib.hid (ox.out.ext hb)
      replace oy := Lib.hid (oy.out.ext hb)
      replace k := Lib.hid (k.out.ext hb)
      clear hb
      have ca := (blk_facts k.out.2.1).1
      go_wp2_with fail
      refine (c_write v r AS cS S AN cN N AT cT T 0 L _ k.out.ha hE.out hL.out).mono ?_; rintro e w4 ⟨⟨A3, c3, rfl, o1⟩, hb⟩
      clear ca
      replace o1 := Lib.hid o1.ok
      replace ox := Lib.hid (ox.out.ext hb)
      replace oy := Lib.hid (oy.out.ext hb)
      replace k := Lib.hid (k.out.ext hb)
      clear hb
      have ca := (blk_facts k.out.2.1).1
      go_wp2_with fail
      refine (rright_any v r AS cS S AN cN N AT cT T _ k.out.ha true hr.out).mono ?_; rintro e w5 ⟨rfl, hb⟩
      clear ca
      replace ox := Lib.hid (ox.out.ext hb)
      replace oy := Lib.hid (oy.out.ext hb)
      replace o1 := Lib.hid (o1.out.ext hb)
      replace k := Lib.hid (k.out.ext hb)
      clear hb
      have ip := Lib.hid (bl_alloc (Below.refl w5.heap.size w5) (.cells #[] 5))
      go_wp2_with (first | (at_builtin; refine append_any _ rfl (.tmp 44) (.tmp 45) 22 rfl w5.heap.size i0 Try.underlying22 hi hz0 hz1 hz2 (some ⟨w5.heap.size, 0, none⟩) 0 [] rfl (own_empty _ _ rfl) A3 c3 L rfl (o1.out.ext ip.out) (by simp; omega) ip.out.size ?_; intro Aa ca' ba wa hba hoa hga) | (at_builtin; refine append_any _ rfl (.tmp 46) (.tmp 47) 22 rfl w5.heap.size i0 Try.underlying22 hi hz0 hz1 hz2 Aa ca' ba rfl hoa.out A c x rfl (ox.out.ext (bl_grown ip.out hga (OwnB.low (own_empty _ _ rfl) (Nat.le_refl _)))) (by rw [hba.out]; simp; omega) (bl_grown ip.out hga (OwnB.low (own_empty _ _ rfl) (Nat.le_refl _))).size ?_; intro Ab cb bb wb hbb hob hgb))
      have jp := bl_grown (bl_grown ip.out hga (OwnB.low (own_empty _ _ rfl) (Nat.le_refl _))) hgb (OwnB.low hoa.out (Nat.le_refl _))
      have ob := hob.out.ok
      replace hbb : bb = L ++ x := by rw [hbb.out, hba.out]; rfl
      rw [← hbb] at hd
      have hbl : bb.length ≤ 1000000 := by rw [hbb, List.length_append]; omega
      clear hoa hob hga hgb hba hbb ip
      replace ox := Lib.hid (ox.out.ext jp)
      replace oy := Lib.hid (oy.out.ext jp)
      replace o1 := Lib.hid (o1.out.ext jp)
      replace k := Lib.hid (k.out.ext jp)
      clear jp
      refine (c_readN Ab cb bb _ ob hbl _ rfl 0 v r (L.length : Int) S N T hd.out.1 hd.out.2.1 hd.out.2.2.2.1 hd.out.2.2.2.2.2.2 hd.out.2.2.1 hd.out.2.2.2.2.1 hd.out.2.2.2.2.2.1).mono ?_
      rintro e w6 ⟨⟨AS5, cS5, AN5, cN5, AT5, cT5, rfl, hH5⟩, hb⟩
      clear ob hbl hd
      replace ox := Lib.hid (ox.out.ext hb)
      replace oy := Lib.hid (oy.out.ext hb)
      replace o1 := Lib.hid (o1.out.ext hb)
      replace k := Lib.hid (k.out.ext hb)
      clear hb
      have hb := bl_alloc (Below.refl _ w6) (.cells #[.int .i64 v, .slice AS5 S.length cS5, .int .i64 r, .slice AN5 N.length cN5, .slice AT5 T.length cT5] 75)
      have f5 := blk_new w6 #[.int .i64 v, .slice AS5 S.length cS5, .int .i64 r, .slice AN5 N.length cN5, .slice AT5 T.length cT5] 75
      have h5 := lt_blk f5
      replace hH5 := Lib.hid (hH5.ext hb)
      replace ox := Lib.hid (ox.out.ext hb)
      replace oy := Lib.hid (oy.out.ext hb)
      replace o1 := Lib.hid (o1.out.ext hb)
      replace k := Lib.hid (k.out.ext hb)
      clear hb
      have cg := (blk_facts f5).1
      have ca := (blk_facts k.out.2.1).1
      replace f5 := Lib.hid f5
      go_wp2_with fail
      refine (rsame_heads v r AS5 cS5 S AN5 cN5 N AT5 cT5 T v r AS cS S AN cN N AT cT T _ hH5.out k.out.ha true hsm.out).mono ?_; rintro e w7 ⟨rfl, hb⟩
      clear cg ca f5 h5 hH5
      replace ox := Lib.hid (ox.out.ext hb)
      replace oy := Lib.hid (oy.out.ext hb)
      replace o1 := Lib.hid (o1.out.ext hb)
      replace k := Lib.hid (k.out.ext hb)
      clear hb
      go_wp2_with fail
      refine (c_readN A2 c2 y _ oy.out (by omega) _ rfl E2 v2 r2 0 S2 N2 T2 hE2.out hv2.out hr2.out b6.out hS2.out hN2.out hT2.out).mono ?_
      rintro e w8 ⟨⟨AS6, cS6, AN6, cN6, AT6, cT6, rfl, hH6⟩, hb⟩
      replace ox := Lib.hid (ox.out.ext hb)
      replace oy := Lib.hid (oy.out.ext hb)
      replace o1 := Lib.hid (o1.out.ext hb)
      replace k := Lib.hid (k.out.ext hb)
      clear hb
      have hb := bl_alloc (Below.refl _ w8) (.cells #[.int .i64 v2, .slice AS6 S2.length cS6, .int .i64 r2, .slice AN6 N2.length cN6, .slice AT6 T2.length cT6] 75)
      have f6 := blk_new w8 #[.int .i64 v2, .slice AS6 S2.length cS6, .int .i64 r2, .slice AN6 N2.length cN6, .slice AT6 T2.length cT6] 75
      replace hH6 := Lib.hid (hH6.ext hb)
      replace ox := Lib.hid (ox.out.ext hb)
      replace oy := Lib.hid (oy.out.ext hb)
      replace o1 := Lib.hid (o1.out.ext hb)
      replace k := Lib.hid (k.out.ext hb)
      clear hb
      obtain ⟨cg, fz, h6⟩ := blk_facts f6
      replace f6 := Lib.hid f6
      go_wp2_with fail
      go_ret
      have k1 := k.out.1
      rw [hT0] at k1
      exact ⟨ret_bool (by simp), k1⟩
end Go.Proofs.Ytlcclaicodghcaa
