import Derived.Test.YtlcclaicodghcaaS
namespace Go.Proofs.Ytlcclaicodghcaa
open Go.RowKit

set_option maxRecDepth 20000 in
set_option maxHeartbeats 4000000 in
theorem rows_any (A : Option Addr) (c : Nat) (b : List UInt8) (at_ most : Int) (is : Bool) (s : ByteArray) (w : World) (ob : OkB w A c b) :
    Calls Try.prog 9 #[.agg #[.slice A b.length c, .int .i64 at_, .int .i64 most, .bool is, .string s]] w fun e w' => e = .returned (.bool true) ∧ Below w.heap.size w w' := by
  have g := Lib.hid (bl_alloc (Below.refl _ w) (.cells #[.slice A b.length c, .int .i64 at_, .int .i64 most, .bool is, .string s] 61))
  replace ob := ob.ext (bl_alloc (Below.refl _ w) (.cells #[.slice A b.length c, .int .i64 at_, .int .i64 most, .bool is, .string s] 61))
  obtain ⟨L1, hL1⟩ : ∃ x, rowL b = x := ⟨_, rfl⟩
  replace hL1 := Lib.hid hL1
  obtain ⟨E1, hE1⟩ : ∃ x, rowE b = x := ⟨_, rfl⟩
  replace hE1 := Lib.hid hE1
  obtain ⟨L2, hL2⟩ : ∃ x, trL b at_ most = x := ⟨_, rfl⟩
  replace hL2 := Lib.hid hL2
  obtain ⟨X2, hX2⟩ : ∃ x, trX b at_ most = x := ⟨_, rfl⟩
  replace hX2 := Lib.hid hX2
  obtain ⟨E2, hE2⟩ : ∃ x, trE b at_ most = x := ⟨_, rfl⟩
  replace hE2 := Lib.hid hE2
  obtain ⟨V3, hV3⟩ : ∃ x, toV b at_ = x := ⟨_, rfl⟩
  replace hV3 := Lib.hid hV3
  obtain ⟨X3, hX3⟩ : ∃ x, toX b at_ = x := ⟨_, rfl⟩
  replace hX3 := Lib.hid hX3
  obtain ⟨E3, hE3⟩ : ∃ x, toE b at_ = x := ⟨_, rfl⟩
  replace hE3 := Lib.hid hE3
  obtain ⟨L4, hL4⟩ : ∃ x, byL s.data.toList = x := ⟨_, rfl⟩
  replace hL4 := Lib.hid hL4
  obtain ⟨E4, hE4⟩ : ∃ x, byE s.data.toList = x := ⟨_, rfl⟩
  replace hE4 := Lib.hid hE4
  obtain ⟨L5, hL5⟩ : ∃ x, optL is b = x := ⟨_, rfl⟩
  replace hL5 := Lib.hid hL5
  obtain ⟨t6, ht6⟩ : ∃ x, strOf (txt b) = x := ⟨_, rfl⟩
  replace ht6 := Lib.hid ht6
  have s1 := Lib.hid (show (L1 == L1) = true by simp)
  have s2 := Lib.hid (show (L2 == L2) = true by simp)
  have s4 := Lib.hid (show (L4 == L4) = true by simp)
  have s5 := Lib.hid (show (L5 == L5) = true by simp)
  have h5 : (500 : Int) < b.length ∨ ((b.length : Int) ≤ 500 ∧ (300 : Int) < s.size) ∨ ((b.length : Int) ≤ 500 ∧ (s.size : Int) ≤ 300) := by omega
  rcases h5 with h5 | ⟨h5, h6⟩ | ⟨h5, h6⟩
  · go_enter Try.func9, Try.ntmps9
    go_wp2_with (go_at_call 19; refine (shown_any _).mono ?_; rintro e w1 ⟨rfl, hb⟩)
    go_ret
    exact ⟨rfl, bl_then g.out hb⟩
  · go_enter Try.func9, Try.ntmps9
    go_wp2_with (go_at_call 19; refine (shown_any _).mono ?_; rintro e w1 ⟨rfl, hb⟩)
    go_ret
    exact ⟨rfl, bl_then g.out hb⟩
  · have b9 := Lib.hid (show b.length ≤ 1000000 by omega)
    have s9 := Lib.hid (show s.size ≤ 1000000 by omega)
    go_enter Try.func9, Try.ntmps9
    go_wp2_with fail
    refine (shown_any _).mono ?_; rintro e w1 ⟨rfl, hb⟩; replace ob := ob.ext hb; replace g := Lib.hid (bl_then g.out hb); clear hb
    go_wp2_with fail
    refine (c_row A c b E1 L1 _ ob hE1.out hL1.out).mono ?_; rintro e w2 ⟨⟨Ao1, co1, rfl, o1⟩, hb⟩; replace ob := ob.ext hb; replace g := Lib.hid (bl_then g.out hb); clear hb; replace o1 := o1.ok
    go_wp2_with fail
    refine (c_rrow A c b E1 L1 _ ob hE1.out hL1.out).mono ?_; rintro e w3 ⟨⟨Ao2, co2, rfl, o2⟩, hb⟩; replace ob := ob.ext hb; replace o1 := o1.ext hb; replace g := Lib.hid (bl_then g.out hb); clear hb; replace o2 := o2.ok
    go_wp2_with fail
    refine (c_takeRow A c b at_ most X2 E2 L2 _ ob hL2.out hX2.out hE2.out).mono ?_; rintro e w4 ⟨⟨Ao3, co3, rfl, o3⟩, hb⟩; replace ob := ob.ext hb; replace o1 := o1.ext hb; replace o2 := o2.ext hb; replace g := Lib.hid (bl_then g.out hb); clear hb; replace o3 := o3.ok
    go_wp2_with fail
    refine (c_rtakeRow A c b at_ most X2 E2 L2 _ ob hL2.out hX2.out hE2.out).mono ?_; rintro e w5 ⟨⟨Ao4, co4, rfl, o4⟩, hb⟩; replace ob := ob.ext hb; replace o1 := o1.ext hb; replace o2 := o2.ext hb; replace o3 := o3.ext hb; replace g := Lib.hid (bl_then g.out hb); clear hb; replace o4 := o4.ok
    go_wp2_with fail
    refine (c_same _ _ L1 _ _ L1 _ o1 o2 true s1.out).mono ?_; rintro e w6 ⟨rfl, rfl⟩
    go_wp2_with fail
    refine (c_same _ _ L2 _ _ L2 _ o3 o4 true s2.out).mono ?_; rintro e w7 ⟨rfl, rfl⟩
    clear o1 o2 o3 o4
    go_wp2_with fail
    refine (c_takeOpt A c b at_ V3 X3 E3 _ ob hV3.out hX3.out hE3.out).mono ?_; rintro e w8 ⟨rfl, rfl⟩
    go_wp2_with fail
    refine (c_rtakeOpt A c b at_ V3 X3 E3 _ ob hV3.out hX3.out hE3.out).mono ?_; rintro e w9 ⟨rfl, rfl⟩
    go_wp2_with fail
    refine (c_bytes s E4 L4 _ s9.out hE4.out hL4.out).mono ?_; rintro e w10 ⟨⟨Ao5, co5, rfl, o5⟩, hb⟩; replace ob := ob.ext hb; replace g := Lib.hid (bl_then g.out hb); clear hb; replace o5 := o5.ok
    go_wp2_with fail
    refine (c_rbytes s E4 L4 _ s9.out hE4.out hL4.out).mono ?_; rintro e w11 ⟨⟨Ao6, co6, rfl, o6⟩, hb⟩; replace ob := ob.ext hb; replace o5 := o5.ext hb; replace g := Lib.hid (bl_then g.out hb); clear hb; replace o6 := o6.ok
    go_wp2_with fail
    refine (c_opt is A c b L5 _ ob b9.out hL5.out).mono ?_; rintro e w12 ⟨⟨Ao7, co7, rfl, o7⟩, hb⟩; replace ob := ob.ext hb; replace o5 := o5.ext hb; replace o6 := o6.ext hb; replace g := Lib.hid (bl_then g.out hb); clear hb; replace o7 := o7.ok
    go_wp2_with fail
    refine (c_ropt is A c b L5 _ ob b9.out hL5.out).mono ?_; rintro e w13 ⟨⟨Ao8, co8, rfl, o8⟩, hb⟩; replace ob := ob.ext hb; replace o5 := o5.ext hb; replace o6 := o6.ext hb; replace o7 := o7.ext hb; replace g := Lib.hid (bl_then g.out hb); clear hb; replace o8 := o8.ok
    go_wp2_with fail
    refine (c_same _ _ L5 _ _ L5 _ o7 o8 true s5.out).mono ?_; rintro e w14 ⟨rfl, rfl⟩
    clear o7 o8
    go_wp2_with fail
    refine (c_text A c b t6 _ ob b9.out ht6.out).mono ?_; rintro e w15 ⟨rfl, hb⟩; replace ob := ob.ext hb; replace o5 := o5.ext hb; replace o6 := o6.ext hb; replace g := Lib.hid (bl_then g.out hb); clear hb
    go_wp2_with fail
    refine (c_rtextS A c b t6 _ ob b9.out ht6.out).mono ?_; rintro e w16 ⟨rfl, hb⟩; replace ob := ob.ext hb; replace o5 := o5.ext hb; replace o6 := o6.ext hb; replace g := Lib.hid (bl_then g.out hb); clear hb
    go_wp2_with fail
    refine (c_same _ _ L4 _ _ L4 _ o5 o6 true s4.out).mono ?_; rintro e w17 ⟨rfl, rfl⟩
    go_wp2_with fail
    go_ret
    exact ⟨ret_bool (by simp), g.out⟩
end Go.Proofs.Ytlcclaicodghcaa
