import Derived.Test.YtlcclaicodghcaaWCuts
namespace Go.Proofs.Ytlcclaicodghcaa
open Go.RowKit

theorem tlE_in {b : List UInt8} {at_ : Int} (h : 0 ≤ at_ ∧ at_ ≤ b.length) : ¬ tlE b at_ = 1 := by
  unfold tlE; rw [if_pos h]
  split
  · decide
  · split
    · decide
    · split
      · decide
      · split <;> decide
theorem tlE_out {b : List UInt8} {at_ : Int} (h : ¬ (0 ≤ at_ ∧ at_ ≤ b.length)) : tlE b at_ = 1 := by unfold tlE; rw [if_neg h]
theorem toE_in {b : List UInt8} {at_ : Int} (h : 0 ≤ at_ ∧ at_ ≤ b.length) : ¬ toE b at_ = 1 := by
  unfold toE; rw [if_pos h]
  split
  · decide
  · split <;> decide
theorem toE_out {b : List UInt8} {at_ : Int} (h : ¬ (0 ≤ at_ ∧ at_ ≤ b.length)) : toE b at_ = 1 := by unfold toE; rw [if_neg h]
theorem tr_big {x : List UInt8} (h : x.length ≤ 300) : trE (rowL x) 0 ((x.length : Int) - 1) = 4 ∧ trL (rowL x) 0 ((x.length : Int) - 1) = [] ∧ trX (rowL x) 0 ((x.length : Int) - 1) = 0 := by
  obtain ⟨h1, _⟩ := tr_row (b := rowL x) (x := x) (more := []) (T := 0) (most := (x.length : Int) - 1) (Nat.zero_le _) (by omega) (by simp)
  rw [if_pos (by omega)] at h1
  have hE : trE (rowL x) 0 ((x.length : Int) - 1) = 4 := h1
  exact ⟨hE, by unfold trL; rw [if_neg (by omega)], by unfold trX; rw [if_neg (by omega)]⟩

set_option maxRecDepth 20000 in
set_option maxHeartbeats 4000000 in
theorem bounds_any (A : Option Addr) (c : Nat) (x : List UInt8) (at_ : Int) (w : World) (ob : OkB w A c x) :
    Calls Try.prog 8 #[.slice A x.length c, .int .i64 at_] w fun e w' => e = .returned (.bool true) ∧ Below w.heap.size w w' := by
  have g := Lib.hid (Below.refl w.heap.size w)
  obtain ⟨L3, hL3⟩ : ∃ z, rowL x = z := ⟨_, rfl⟩
  obtain ⟨E5, hE5⟩ : ∃ z, tlE L3 at_ = z := ⟨_, rfl⟩
  obtain ⟨N5, hN5⟩ : ∃ z, tlN L3 at_ = z := ⟨_, rfl⟩
  obtain ⟨X5, hX5⟩ : ∃ z, tlX L3 at_ = z := ⟨_, rfl⟩
  obtain ⟨E6, hE6⟩ : ∃ z, toE L3 at_ = z := ⟨_, rfl⟩
  obtain ⟨V6, hV6⟩ : ∃ z, toV L3 at_ = z := ⟨_, rfl⟩
  obtain ⟨X6, hX6⟩ : ∃ z, toX L3 at_ = z := ⟨_, rfl⟩
  have h5 : (300 : Int) < x.length ∨ (x.length : Int) ≤ 300 := by omega
  rcases h5 with h5 | h5
  · go_enter Try.func8, Try.ntmps8
    go_wp2_with (go_at_call 19; refine (shown_any _).mono ?_; rintro e w1 ⟨rfl, hb⟩)
    go_ret
    exact ⟨rfl, bl_then g.out hb⟩
  · have hE3 := Lib.hid (rowE_ok (x := x) (by omega))
    have r1 := Lib.hid (tr_big (x := x) (by omega)); rw [hL3] at r1
    have r2 := Lib.hid (row_back (x := x) (more := []) (by omega)); rw [List.append_nil, hL3] at r2
    have hd : at_ < 0 ∨ (0 ≤ at_ ∧ (L3.length : Int) < at_) ∨ (0 ≤ at_ ∧ at_ ≤ L3.length) := by omega
    rcases hd with hd | ⟨hd, hd2⟩ | ⟨hd, hd2⟩
    · have k5 : E5 = 1 := by rw [← hE5]; exact tlE_out (by omega)
      have k6 : E6 = 1 := by rw [← hE6]; exact toE_out (by omega)
      subst k5 k6
      replace hE5 := Lib.hid hE5; replace hN5 := Lib.hid hN5; replace hX5 := Lib.hid hX5; replace hE6 := Lib.hid hE6; replace hV6 := Lib.hid hV6; replace hX6 := Lib.hid hX6
      go_enter Try.func8, Try.ntmps8
      go_wp2_with fail
      refine (shown_any _).mono ?_; rintro e w1 ⟨rfl, hb⟩; replace ob := ob.ext hb; replace g := Lib.hid (bl_then g.out hb); clear hb
      go_wp2_with fail
      refine (c_row A c x 0 L3 _ ob hE3.out hL3).mono ?_; rintro e w2 ⟨⟨Ao3, co3, rfl, o3⟩, hb⟩; replace ob := ob.ext hb; replace g := Lib.hid (bl_then g.out hb); clear hb; replace o3 := o3.ok
      go_wp2_with fail
      refine (c_takeRow _ _ L3 0 _ 0 4 [] _ o3 r1.out.2.1 r1.out.2.2 r1.out.1).mono ?_; rintro e w3 ⟨⟨Ao4, co4, rfl, o4⟩, hb⟩; replace ob := ob.ext hb; replace o3 := o3.ext hb; replace g := Lib.hid (bl_then g.out hb); clear hb; replace o4 := o4.ok
      go_wp2_with fail
      refine (c_takeRow _ _ L3 0 _ L3.length 0 x _ o3 r2.out.2.1 r2.out.2.2 r2.out.1).mono ?_; rintro e w4 ⟨⟨Ao5, co5, rfl, o5⟩, hb⟩; replace ob := ob.ext hb; replace o3 := o3.ext hb; replace o4 := o4.ext hb; replace g := Lib.hid (bl_then g.out hb); clear hb; replace o5 := o5.ok
      clear o4 o5
      go_wp2_with fail
      refine (c_takeLen _ _ L3 at_ N5 X5 _ _ o3 hN5.out hX5.out hE5.out).mono ?_; rintro e w5 ⟨rfl, rfl⟩
      go_wp2_with fail
      refine (c_takeOpt _ _ L3 at_ V6 X6 _ _ o3 hV6.out hX6.out hE6.out).mono ?_; rintro e w6 ⟨rfl, rfl⟩
      go_wp2_with fail
      go_ret
      exact ⟨ret_bool (by simp_all), g.out⟩
    · have k5 : E5 = 1 := by rw [← hE5]; exact tlE_out (by omega)
      have k6 : E6 = 1 := by rw [← hE6]; exact toE_out (by omega)
      subst k5 k6
      replace hE5 := Lib.hid hE5; replace hN5 := Lib.hid hN5; replace hX5 := Lib.hid hX5; replace hE6 := Lib.hid hE6; replace hV6 := Lib.hid hV6; replace hX6 := Lib.hid hX6
      go_enter Try.func8, Try.ntmps8
      go_wp2_with fail
      refine (shown_any _).mono ?_; rintro e w1 ⟨rfl, hb⟩; replace ob := ob.ext hb; replace g := Lib.hid (bl_then g.out hb); clear hb
      go_wp2_with fail
      refine (c_row A c x 0 L3 _ ob hE3.out hL3).mono ?_; rintro e w2 ⟨⟨Ao3, co3, rfl, o3⟩, hb⟩; replace ob := ob.ext hb; replace g := Lib.hid (bl_then g.out hb); clear hb; replace o3 := o3.ok
      go_wp2_with fail
      refine (c_takeRow _ _ L3 0 _ 0 4 [] _ o3 r1.out.2.1 r1.out.2.2 r1.out.1).mono ?_; rintro e w3 ⟨⟨Ao4, co4, rfl, o4⟩, hb⟩; replace ob := ob.ext hb; replace o3 := o3.ext hb; replace g := Lib.hid (bl_then g.out hb); clear hb; replace o4 := o4.ok
      go_wp2_with fail
      refine (c_takeRow _ _ L3 0 _ L3.length 0 x _ o3 r2.out.2.1 r2.out.2.2 r2.out.1).mono ?_; rintro e w4 ⟨⟨Ao5, co5, rfl, o5⟩, hb⟩; replace ob := ob.ext hb; replace o3 := o3.ext hb; replace o4 := o4.ext hb; replace g := Lib.hid (bl_then g.out hb); clear hb; replace o5 := o5.ok
      clear o4 o5
      go_wp2_with fail
      refine (c_takeLen _ _ L3 at_ N5 X5 _ _ o3 hN5.out hX5.out hE5.out).mono ?_; rintro e w5 ⟨rfl, rfl⟩
      go_wp2_with fail
      refine (c_takeOpt _ _ L3 at_ V6 X6 _ _ o3 hV6.out hX6.out hE6.out).mono ?_; rintro e w6 ⟨rfl, rfl⟩
      go_wp2_with fail
      go_ret
      exact ⟨ret_bool (by simp_all), g.out⟩
    · have k5 : ¬ E5 = 1 := by rw [← hE5]; exact tlE_in ⟨hd, hd2⟩
      have k6 : ¬ E6 = 1 := by rw [← hE6]; exact toE_in ⟨hd, hd2⟩
      have k7 : (E5 == 1) = false := by simp [k5]
      have k8 : (E6 == 1) = false := by simp [k6]
      replace hE5 := Lib.hid hE5; replace hN5 := Lib.hid hN5; replace hX5 := Lib.hid hX5; replace hE6 := Lib.hid hE6; replace hV6 := Lib.hid hV6; replace hX6 := Lib.hid hX6
      go_enter Try.func8, Try.ntmps8
      go_wp2_with fail
      refine (shown_any _).mono ?_; rintro e w1 ⟨rfl, hb⟩; replace ob := ob.ext hb; replace g := Lib.hid (bl_then g.out hb); clear hb
      go_wp2_with fail
      refine (c_row A c x 0 L3 _ ob hE3.out hL3).mono ?_; rintro e w2 ⟨⟨Ao3, co3, rfl, o3⟩, hb⟩; replace ob := ob.ext hb; replace g := Lib.hid (bl_then g.out hb); clear hb; replace o3 := o3.ok
      go_wp2_with fail
      refine (c_takeRow _ _ L3 0 _ 0 4 [] _ o3 r1.out.2.1 r1.out.2.2 r1.out.1).mono ?_; rintro e w3 ⟨⟨Ao4, co4, rfl, o4⟩, hb⟩; replace ob := ob.ext hb; replace o3 := o3.ext hb; replace g := Lib.hid (bl_then g.out hb); clear hb; replace o4 := o4.ok
      go_wp2_with fail
      refine (c_takeRow _ _ L3 0 _ L3.length 0 x _ o3 r2.out.2.1 r2.out.2.2 r2.out.1).mono ?_; rintro e w4 ⟨⟨Ao5, co5, rfl, o5⟩, hb⟩; replace ob := ob.ext hb; replace o3 := o3.ext hb; replace o4 := o4.ext hb; replace g := Lib.hid (bl_then g.out hb); clear hb; replace o5 := o5.ok
      clear o4 o5
      go_wp2_with fail
      refine (c_takeLen _ _ L3 at_ N5 X5 _ _ o3 hN5.out hX5.out hE5.out).mono ?_; rintro e w5 ⟨rfl, rfl⟩
      go_wp2_with fail
      refine (c_takeOpt _ _ L3 at_ V6 X6 _ _ o3 hV6.out hX6.out hE6.out).mono ?_; rintro e w6 ⟨rfl, rfl⟩
      go_wp2_with fail
      go_ret
      exact ⟨ret_bool (by simp_all), g.out⟩
end Go.Proofs.Ytlcclaicodghcaa
