import Derived.Test.YtlcclaicodghcaaS
namespace Go.Proofs.Ytlcclaicodghcaa
open Go.RowKit

set_option maxRecDepth 20000 in
set_option maxHeartbeats 4000000 in
theorem nums_any (n m at_ : Int) (A : Option Addr) (c : Nat) (b : List UInt8) (w : World) (ob : OkB w A c b) (hn : -9223372036854775808 ≤ n) (hn' : n ≤ 9223372036854775807) :
    Calls Try.prog 3 #[.agg #[.int .i64 n, .int .i64 m, .slice A b.length c, .int .i64 at_]] w fun e w' => e = .returned (.bool true) ∧ Below w.heap.size w w' := by
  have g := Lib.hid (bl_alloc (Below.refl _ w) (.cells #[.int .i64 n, .int .i64 m, .slice A b.length c, .int .i64 at_] 24))
  replace ob := ob.ext (bl_alloc (Below.refl _ w) (.cells #[.int .i64 n, .int .i64 m, .slice A b.length c, .int .i64 at_] 24))
  obtain ⟨L1, hL1⟩ : ∃ x, numL n m = x := ⟨_, rfl⟩
  replace hL1 := Lib.hid hL1
  obtain ⟨E1, hE1⟩ : ∃ x, numE n m = x := ⟨_, rfl⟩
  replace hE1 := Lib.hid hE1
  obtain ⟨N2, hN2⟩ : ∃ x, tnN b at_ m = x := ⟨_, rfl⟩
  replace hN2 := Lib.hid hN2
  obtain ⟨X2, hX2⟩ : ∃ x, tnX b at_ m = x := ⟨_, rfl⟩
  replace hX2 := Lib.hid hX2
  obtain ⟨E2, hE2⟩ : ∃ x, tnE b at_ m = x := ⟨_, rfl⟩
  replace hE2 := Lib.hid hE2
  obtain ⟨L3, hL3⟩ : ∃ x, lenL n = x := ⟨_, rfl⟩
  replace hL3 := Lib.hid hL3
  obtain ⟨E3, hE3⟩ : ∃ x, lenE n = x := ⟨_, rfl⟩
  replace hE3 := Lib.hid hE3
  obtain ⟨N4, hN4⟩ : ∃ x, tlN b at_ = x := ⟨_, rfl⟩
  replace hN4 := Lib.hid hN4
  obtain ⟨X4, hX4⟩ : ∃ x, tlX b at_ = x := ⟨_, rfl⟩
  replace hX4 := Lib.hid hX4
  obtain ⟨E4, hE4⟩ : ∃ x, tlE b at_ = x := ⟨_, rfl⟩
  replace hE4 := Lib.hid hE4
  have s1 := Lib.hid (show (L1 == L1) = true by simp)
  have s3 := Lib.hid (show (L3 == L3) = true by simp)
  replace hn := Lib.hid hn
  replace hn' := Lib.hid hn'
  by_cases h5 : (500 : Int) < b.length
  · go_enter Try.func3, Try.ntmps3
    go_wp2_with (go_at_call 19; refine (shown_any _).mono ?_; rintro e w1 ⟨rfl, hb⟩)
    go_ret
    exact ⟨rfl, bl_then g.out hb⟩
  · go_enter Try.func3, Try.ntmps3
    go_wp2_with fail
    refine (shown_any _).mono ?_; rintro e w1 ⟨rfl, hb⟩; replace ob := ob.ext hb; replace g := Lib.hid (bl_then g.out hb); clear hb
    go_wp2_with fail
    refine (c_num n m E1 L1 _ hn.out hn'.out hE1.out hL1.out).mono ?_; rintro e w2 ⟨⟨Ao1, co1, rfl, o1⟩, hb⟩; replace ob := ob.ext hb; replace g := Lib.hid (bl_then g.out hb); clear hb; replace o1 := o1.ok
    go_wp2_with fail
    refine (c_rnum n m E1 L1 _ hn.out hn'.out hE1.out hL1.out).mono ?_; rintro e w3 ⟨⟨Ao2, co2, rfl, o2⟩, hb⟩; replace ob := ob.ext hb; replace o1 := o1.ext hb; replace g := Lib.hid (bl_then g.out hb); clear hb; replace o2 := o2.ok
    go_wp2_with fail
    refine (c_takeNum A c b at_ m N2 X2 E2 _ ob hN2.out hX2.out hE2.out).mono ?_; rintro e w4 ⟨rfl, rfl⟩
    go_wp2_with fail
    refine (c_rtakeNum A c b at_ m N2 X2 E2 _ ob hN2.out hX2.out hE2.out).mono ?_; rintro e w5 ⟨rfl, rfl⟩
    go_wp2_with fail
    refine (c_same _ _ L1 _ _ L1 _ o1 o2 true s1.out).mono ?_; rintro e w6 ⟨rfl, rfl⟩
    clear o1 o2
    go_wp2_with fail
    refine (c_len n E3 L3 _ hE3.out hL3.out).mono ?_; rintro e w7 ⟨⟨Ao3, co3, rfl, o3⟩, hb⟩; replace ob := ob.ext hb; replace g := Lib.hid (bl_then g.out hb); clear hb; replace o3 := o3.ok
    go_wp2_with fail
    refine (c_rlen n E3 L3 _ hE3.out hL3.out).mono ?_; rintro e w8 ⟨⟨Ao4, co4, rfl, o4⟩, hb⟩; replace ob := ob.ext hb; replace o3 := o3.ext hb; replace g := Lib.hid (bl_then g.out hb); clear hb; replace o4 := o4.ok
    go_wp2_with fail
    refine (c_takeLen A c b at_ N4 X4 E4 _ ob hN4.out hX4.out hE4.out).mono ?_; rintro e w9 ⟨rfl, rfl⟩
    go_wp2_with fail
    refine (c_rtakeLen A c b at_ N4 X4 E4 _ ob hN4.out hX4.out hE4.out).mono ?_; rintro e w10 ⟨rfl, rfl⟩
    go_wp2_with fail
    refine (c_same _ _ L3 _ _ L3 _ o3 o4 true s3.out).mono ?_; rintro e w11 ⟨rfl, rfl⟩
    go_wp2_with fail
    go_ret
    exact ⟨ret_bool (by simp), g.out⟩
end Go.Proofs.Ytlcclaicodghcaa
