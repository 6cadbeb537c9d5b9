import Derived.Test.YtlcclaicodghcaaWCuts
namespace Go.Proofs.Ytlcclaicodghcaa
open Go.RowKit

theorem beg_iff {a b : List UInt8} : begB a b = true ↔ ∃ t, a = b ++ t := by
  unfold begB
  constructor
  · intro h
    simp only [Bool.and_eq_true, decide_eq_true_eq, beq_iff_eq] at h
    exact ⟨a.drop b.length, by conv => lhs; rw [← List.take_append_drop b.length a, h.2]⟩
  · rintro ⟨t, rfl⟩
    simp
theorem beg_rows {x y : List UInt8} (hx : x.length ≤ 300) (hy : y.length ≤ 300) : begB (rowL x) (rowL y) = (x == y) := by
  rw [Bool.eq_iff_iff, beg_iff, beq_iff_eq]
  constructor
  · rintro ⟨t, h⟩
    obtain ⟨e1, h1⟩ := tr_row (b := rowL x) (x := x) (more := []) (T := 0) (most := 300) (Nat.zero_le _) (by omega) (by simp)
    obtain ⟨e2, h2⟩ := tr_row (b := rowL x) (x := y) (more := t) (T := 0) (most := 300) (Nat.zero_le _) (by omega) (by simpa using h)
    rw [if_neg (by omega)] at e1 e2
    rw [← (h1 e1).1, (h2 e2).1]
  · rintro rfl; exact ⟨[], by simp⟩
theorem beg_lens {m n : Int} (hm : lenE m = 0) (hn : lenE n = 0) : begB (lenL m) (lenL n) = decide (m = n) := by
  rw [Bool.eq_iff_iff, beg_iff, decide_eq_true_eq]
  constructor
  · rintro ⟨t, h⟩
    obtain ⟨_, h1, _⟩ := tl_len (b := lenL m) (more := []) (T := 0) (Nat.zero_le _) (lenE_num hm).1 (lenE_num hm).2 (by simp)
    obtain ⟨_, h2, _⟩ := tl_len (b := lenL m) (more := t) (T := 0) (Nat.zero_le _) (lenE_num hn).1 (lenE_num hn).2 (by simpa using h)
    rw [← h1, h2]
  · rintro rfl; exact ⟨[], by simp⟩
theorem lenL_mono {m n : Int} (hm : lenE m = 0) (hn : lenE n = 0) (h : m ≤ n) : (lenL m).length ≤ (lenL n).length := by
  rw [lenL_length (lenE_num hm).1 (lenE_num hm).2, lenL_length (lenE_num hn).1 (lenE_num hn).2]
  unfold lenW; split <;> split <;> (try split) <;> (try split) <;> omega
theorem c_begins (A : Option Addr) (c : Nat) (a : List UInt8) (A' : Option Addr) (c' : Nat) (b : List UInt8) (w : World) (ha : OkB w A c a) (hb : OkB w A' c' b) (hn : 0 < a.length) (v : Bool) (hv : begB a b = v) :
    Calls Try.prog 30 #[.slice A a.length c, .slice A' b.length c'] w fun e w' => e = .returned (.bool v) ∧ w = w' := by
  obtain ⟨ad, rfl⟩ := ha.ad hn
  subst hv; exact begins_any _ c a A' c' b w ha hb (by simp)

set_option maxRecDepth 20000 in
set_option maxHeartbeats 4000000 in
theorem apart_any (m n : Int) (A : Option Addr) (c : Nat) (x : List UInt8) (A1 : Option Addr) (c1 : Nat) (y : List UInt8) (w : World) (ob : OkB w A c x) (oc : OkB w A1 c1 y) :
    Calls Try.prog 4 #[.agg #[.int .i64 m, .int .i64 n, .slice A x.length c, .slice A1 y.length c1]] w fun e w' => e = .returned (.bool true) ∧ Below w.heap.size w w' := by
  have g := Lib.hid (bl_alloc (Below.refl _ w) (.cells #[.int .i64 m, .int .i64 n, .slice A x.length c, .slice A1 y.length c1] 42))
  replace ob := ob.ext (bl_alloc (Below.refl _ w) (.cells #[.int .i64 m, .int .i64 n, .slice A x.length c, .slice A1 y.length c1] 42))
  replace oc := oc.ext (bl_alloc (Below.refl _ w) (.cells #[.int .i64 m, .int .i64 n, .slice A x.length c, .slice A1 y.length c1] 42))
  have d1 := lenL_le m
  have d2 := lenL_le n
  obtain ⟨L1, hL1⟩ : ∃ z, lenL m = z := ⟨_, rfl⟩
  obtain ⟨L2, hL2⟩ : ∃ z, lenL n = z := ⟨_, rfl⟩
  obtain ⟨L3, hL3⟩ : ∃ z, rowL x = z := ⟨_, rfl⟩
  obtain ⟨L4, hL4⟩ : ∃ z, rowL y = z := ⟨_, rfl⟩
  rw [hL1] at d1; rw [hL2] at d2
  have h5 : (300 : Int) < x.length ∨ ((x.length : Int) ≤ 300 ∧ (300 : Int) < y.length) ∨ ((x.length : Int) ≤ 300 ∧ (y.length : Int) ≤ 300) := by omega
  rcases h5 with h5 | ⟨h5, h6⟩ | ⟨h5, h6⟩
  · go_enter Try.func4, Try.ntmps4
    go_wp2_with (go_at_call 19; refine (shown_any _).mono ?_; rintro e w1 ⟨rfl, hb⟩)
    go_ret
    exact ⟨rfl, bl_then g.out hb⟩
  · go_enter Try.func4, Try.ntmps4
    go_wp2_with (go_at_call 19; refine (shown_any _).mono ?_; rintro e w1 ⟨rfl, hb⟩)
    go_ret
    exact ⟨rfl, bl_then g.out hb⟩
  · have hE3 := Lib.hid (rowE_ok (x := x) (by omega))
    have hE4 := Lib.hid (rowE_ok (x := y) (by omega))
    have p3 : 0 < L3.length := by rw [← hL3]; exact rowL_pos (by omega)
    obtain ⟨vs, hvs⟩ : ∃ v, (x == y) = v := ⟨_, rfl⟩
    have b3 := Lib.hid (beg_rows (x := x) (y := y) (by omega) (by omega)); rw [hvs, hL3, hL4] at b3
    replace hvs := Lib.hid hvs
    have e1 : lenE m = 0 ∨ lenE m = 1 := by unfold lenE; split <;> simp
    have e2 : lenE n = 0 ∨ lenE n = 1 := by unfold lenE; split <;> simp
    rcases e1 with e1 | e1 <;> rcases e2 with e2 | e2
    · have hd : m < n ∨ m = n ∨ n < m := by omega
      replace e1 := Lib.hid e1
      replace e2 := Lib.hid e2
      rcases hd with hd | hd | hd
      · have p1 : 0 < L1.length := by rw [← hL1]; exact lenL_pos e1.out
        have b1 := Lib.hid (beg_lens e1.out e2.out); rw [hL1, hL2] at b1
        have m1 := lenL_mono e1.out e2.out; rw [hL1, hL2] at m1
        have m2 := m1 (by omega); clear m1
        have m3 : ¬ n < m := by omega
        rw [decide_eq_false (by omega)] at b1
        go_enter Try.func4, Try.ntmps4
        go_wp2_with fail
        refine (shown_any _).mono ?_; rintro e w1 ⟨rfl, hb⟩; replace ob := ob.ext hb; replace oc := oc.ext hb; replace g := Lib.hid (bl_then g.out hb); clear hb
        go_wp2_with fail
        refine (c_len _ 0 L1 _ e1.out hL1).mono ?_; rintro e w2 ⟨⟨Ao1, co1, rfl, o1⟩, hb⟩; replace ob := ob.ext hb; replace oc := oc.ext hb; replace g := Lib.hid (bl_then g.out hb); clear hb; replace o1 := o1.ok
        go_wp2_with fail
        refine (c_len _ 0 L2 _ e2.out hL2).mono ?_; rintro e w3 ⟨⟨Ao2, co2, rfl, o2⟩, hb⟩; replace ob := ob.ext hb; replace oc := oc.ext hb; replace o1 := o1.ext hb; replace g := Lib.hid (bl_then g.out hb); clear hb; replace o2 := o2.ok
        go_wp2_with fail
        refine (c_row A c x 0 L3 _ ob hE3.out hL3).mono ?_; rintro e w4 ⟨⟨Ao3, co3, rfl, o3⟩, hb⟩; replace ob := ob.ext hb; replace oc := oc.ext hb; replace o1 := o1.ext hb; replace o2 := o2.ext hb; replace g := Lib.hid (bl_then g.out hb); clear hb; replace o3 := o3.ok
        go_wp2_with fail
        refine (c_row A1 c1 y 0 L4 _ oc hE4.out hL4).mono ?_; rintro e w5 ⟨⟨Ao4, co4, rfl, o4⟩, hb⟩; replace ob := ob.ext hb; replace oc := oc.ext hb; replace o1 := o1.ext hb; replace o2 := o2.ext hb; replace o3 := o3.ext hb; replace g := Lib.hid (bl_then g.out hb); clear hb; replace o4 := o4.ok
        go_wp2_with fail
        refine (c_begins _ _ L3 _ _ L4 _ o3 o4 p3 vs b3.out).mono ?_; rintro e w6 ⟨rfl, rfl⟩
        go_wp2_with fail
        refine (c_same _ _ x _ _ y _ ob oc vs hvs.out).mono ?_; rintro e w7 ⟨rfl, rfl⟩
        go_wp2_with fail
        refine (c_begins _ _ L1 _ _ L2 _ o1 o2 p1 _ b1.out).mono ?_; rintro e w8 ⟨rfl, rfl⟩
        go_wp2_with fail
        go_ret
        exact ⟨ret_bool (by simp <;> omega), g.out⟩
      · have p1 : 0 < L1.length := by rw [← hL1]; exact lenL_pos e1.out
        have b1 := Lib.hid (beg_lens e1.out e2.out); rw [hL1, hL2] at b1
        have m1 := lenL_mono e1.out e2.out; rw [hL1, hL2] at m1
        have m2 := m1 (by omega); clear m1
        subst hd
        rw [decide_eq_true rfl] at b1
        go_enter Try.func4, Try.ntmps4
        go_wp2_with fail
        refine (shown_any _).mono ?_; rintro e w1 ⟨rfl, hb⟩; replace ob := ob.ext hb; replace oc := oc.ext hb; replace g := Lib.hid (bl_then g.out hb); clear hb
        go_wp2_with fail
        refine (c_len _ 0 L1 _ e1.out hL1).mono ?_; rintro e w2 ⟨⟨Ao1, co1, rfl, o1⟩, hb⟩; replace ob := ob.ext hb; replace oc := oc.ext hb; replace g := Lib.hid (bl_then g.out hb); clear hb; replace o1 := o1.ok
        go_wp2_with fail
        refine (c_len _ 0 L2 _ e2.out hL2).mono ?_; rintro e w3 ⟨⟨Ao2, co2, rfl, o2⟩, hb⟩; replace ob := ob.ext hb; replace oc := oc.ext hb; replace o1 := o1.ext hb; replace g := Lib.hid (bl_then g.out hb); clear hb; replace o2 := o2.ok
        go_wp2_with fail
        refine (c_row A c x 0 L3 _ ob hE3.out hL3).mono ?_; rintro e w4 ⟨⟨Ao3, co3, rfl, o3⟩, hb⟩; replace ob := ob.ext hb; replace oc := oc.ext hb; replace o1 := o1.ext hb; replace o2 := o2.ext hb; replace g := Lib.hid (bl_then g.out hb); clear hb; replace o3 := o3.ok
        go_wp2_with fail
        refine (c_row A1 c1 y 0 L4 _ oc hE4.out hL4).mono ?_; rintro e w5 ⟨⟨Ao4, co4, rfl, o4⟩, hb⟩; replace ob := ob.ext hb; replace oc := oc.ext hb; replace o1 := o1.ext hb; replace o2 := o2.ext hb; replace o3 := o3.ext hb; replace g := Lib.hid (bl_then g.out hb); clear hb; replace o4 := o4.ok
        go_wp2_with fail
        refine (c_begins _ _ L3 _ _ L4 _ o3 o4 p3 vs b3.out).mono ?_; rintro e w6 ⟨rfl, rfl⟩
        go_wp2_with fail
        refine (c_same _ _ x _ _ y _ ob oc vs hvs.out).mono ?_; rintro e w7 ⟨rfl, rfl⟩
        go_wp2_with fail
        refine (c_begins _ _ L1 _ _ L2 _ o1 o2 p1 _ b1.out).mono ?_; rintro e w8 ⟨rfl, rfl⟩
        go_wp2_with fail
        go_ret
        exact ⟨ret_bool (by simp <;> omega), g.out⟩
      · have p1 : 0 < L1.length := by rw [← hL1]; exact lenL_pos e1.out
        have b1 := Lib.hid (beg_lens e1.out e2.out); rw [hL1, hL2] at b1
        have m1 := lenL_mono e1.out e2.out; rw [hL1, hL2] at m1
        clear m1; rw [decide_eq_false (by omega)] at b1
        go_enter Try.func4, Try.ntmps4
        go_wp2_with fail
        refine (shown_any _).mono ?_; rintro e w1 ⟨rfl, hb⟩; replace ob := ob.ext hb; replace oc := oc.ext hb; replace g := Lib.hid (bl_then g.out hb); clear hb
        go_wp2_with fail
        refine (c_len _ 0 L1 _ e1.out hL1).mono ?_; rintro e w2 ⟨⟨Ao1, co1, rfl, o1⟩, hb⟩; replace ob := ob.ext hb; replace oc := oc.ext hb; replace g := Lib.hid (bl_then g.out hb); clear hb; replace o1 := o1.ok
        go_wp2_with fail
        refine (c_len _ 0 L2 _ e2.out hL2).mono ?_; rintro e w3 ⟨⟨Ao2, co2, rfl, o2⟩, hb⟩; replace ob := ob.ext hb; replace oc := oc.ext hb; replace o1 := o1.ext hb; replace g := Lib.hid (bl_then g.out hb); clear hb; replace o2 := o2.ok
        go_wp2_with fail
        refine (c_row A c x 0 L3 _ ob hE3.out hL3).mono ?_; rintro e w4 ⟨⟨Ao3, co3, rfl, o3⟩, hb⟩; replace ob := ob.ext hb; replace oc := oc.ext hb; replace o1 := o1.ext hb; replace o2 := o2.ext hb; replace g := Lib.hid (bl_then g.out hb); clear hb; replace o3 := o3.ok
        go_wp2_with fail
        refine (c_row A1 c1 y 0 L4 _ oc hE4.out hL4).mono ?_; rintro e w5 ⟨⟨Ao4, co4, rfl, o4⟩, hb⟩; replace ob := ob.ext hb; replace oc := oc.ext hb; replace o1 := o1.ext hb; replace o2 := o2.ext hb; replace o3 := o3.ext hb; replace g := Lib.hid (bl_then g.out hb); clear hb; replace o4 := o4.ok
        go_wp2_with fail
        refine (c_begins _ _ L3 _ _ L4 _ o3 o4 p3 vs b3.out).mono ?_; rintro e w6 ⟨rfl, rfl⟩
        go_wp2_with fail
        refine (c_same _ _ x _ _ y _ ob oc vs hvs.out).mono ?_; rintro e w7 ⟨rfl, rfl⟩
        go_wp2_with fail
        refine (c_begins _ _ L1 _ _ L2 _ o1 o2 p1 _ b1.out).mono ?_; rintro e w8 ⟨rfl, rfl⟩
        go_wp2_with fail
        go_ret
        exact ⟨ret_bool (by simp <;> omega), g.out⟩
    · replace e1 := Lib.hid e1
      replace e2 := Lib.hid e2
      go_enter Try.func4, Try.ntmps4
      go_wp2_with fail
      refine (shown_any _).mono ?_; rintro e w1 ⟨rfl, hb⟩; replace ob := ob.ext hb; replace oc := oc.ext hb; replace g := Lib.hid (bl_then g.out hb); clear hb
      go_wp2_with fail
      refine (c_len _ 0 L1 _ e1.out hL1).mono ?_; rintro e w2 ⟨⟨Ao1, co1, rfl, o1⟩, hb⟩; replace ob := ob.ext hb; replace oc := oc.ext hb; replace g := Lib.hid (bl_then g.out hb); clear hb; replace o1 := o1.ok
      go_wp2_with fail
      refine (c_len _ 1 L2 _ e2.out hL2).mono ?_; rintro e w3 ⟨⟨Ao2, co2, rfl, o2⟩, hb⟩; replace ob := ob.ext hb; replace oc := oc.ext hb; replace o1 := o1.ext hb; replace g := Lib.hid (bl_then g.out hb); clear hb; replace o2 := o2.ok
      go_wp2_with fail
      refine (c_row A c x 0 L3 _ ob hE3.out hL3).mono ?_; rintro e w4 ⟨⟨Ao3, co3, rfl, o3⟩, hb⟩; replace ob := ob.ext hb; replace oc := oc.ext hb; replace o1 := o1.ext hb; replace o2 := o2.ext hb; replace g := Lib.hid (bl_then g.out hb); clear hb; replace o3 := o3.ok
      go_wp2_with fail
      refine (c_row A1 c1 y 0 L4 _ oc hE4.out hL4).mono ?_; rintro e w5 ⟨⟨Ao4, co4, rfl, o4⟩, hb⟩; replace ob := ob.ext hb; replace oc := oc.ext hb; replace o1 := o1.ext hb; replace o2 := o2.ext hb; replace o3 := o3.ext hb; replace g := Lib.hid (bl_then g.out hb); clear hb; replace o4 := o4.ok
      go_wp2_with fail
      refine (c_begins _ _ L3 _ _ L4 _ o3 o4 p3 vs b3.out).mono ?_; rintro e w6 ⟨rfl, rfl⟩
      go_wp2_with fail
      refine (c_same _ _ x _ _ y _ ob oc vs hvs.out).mono ?_; rintro e w7 ⟨rfl, rfl⟩
      go_wp2_with fail
      go_ret
      exact ⟨ret_bool (by simp <;> omega), g.out⟩
    · replace e1 := Lib.hid e1
      replace e2 := Lib.hid e2
      go_enter Try.func4, Try.ntmps4
      go_wp2_with fail
      refine (shown_any _).mono ?_; rintro e w1 ⟨rfl, hb⟩; replace ob := ob.ext hb; replace oc := oc.ext hb; replace g := Lib.hid (bl_then g.out hb); clear hb
      go_wp2_with fail
      refine (c_len _ 1 L1 _ e1.out hL1).mono ?_; rintro e w2 ⟨⟨Ao1, co1, rfl, o1⟩, hb⟩; replace ob := ob.ext hb; replace oc := oc.ext hb; replace g := Lib.hid (bl_then g.out hb); clear hb; replace o1 := o1.ok
      go_wp2_with fail
      refine (c_len _ 0 L2 _ e2.out hL2).mono ?_; rintro e w3 ⟨⟨Ao2, co2, rfl, o2⟩, hb⟩; replace ob := ob.ext hb; replace oc := oc.ext hb; replace o1 := o1.ext hb; replace g := Lib.hid (bl_then g.out hb); clear hb; replace o2 := o2.ok
      go_wp2_with fail
      refine (c_row A c x 0 L3 _ ob hE3.out hL3).mono ?_; rintro e w4 ⟨⟨Ao3, co3, rfl, o3⟩, hb⟩; replace ob := ob.ext hb; replace oc := oc.ext hb; replace o1 := o1.ext hb; replace o2 := o2.ext hb; replace g := Lib.hid (bl_then g.out hb); clear hb; replace o3 := o3.ok
      go_wp2_with fail
      refine (c_row A1 c1 y 0 L4 _ oc hE4.out hL4).mono ?_; rintro e w5 ⟨⟨Ao4, co4, rfl, o4⟩, hb⟩; replace ob := ob.ext hb; replace oc := oc.ext hb; replace o1 := o1.ext hb; replace o2 := o2.ext hb; replace o3 := o3.ext hb; replace g := Lib.hid (bl_then g.out hb); clear hb; replace o4 := o4.ok
      go_wp2_with fail
      refine (c_begins _ _ L3 _ _ L4 _ o3 o4 p3 vs b3.out).mono ?_; rintro e w6 ⟨rfl, rfl⟩
      go_wp2_with fail
      refine (c_same _ _ x _ _ y _ ob oc vs hvs.out).mono ?_; rintro e w7 ⟨rfl, rfl⟩
      go_wp2_with fail
      go_ret
      exact ⟨ret_bool (by simp <;> omega), g.out⟩
    · replace e1 := Lib.hid e1
      replace e2 := Lib.hid e2
      go_enter Try.func4, Try.ntmps4
      go_wp2_with fail
      refine (shown_any _).mono ?_; rintro e w1 ⟨rfl, hb⟩; replace ob := ob.ext hb; replace oc := oc.ext hb; replace g := Lib.hid (bl_then g.out hb); clear hb
      go_wp2_with fail
      refine (c_len _ 1 L1 _ e1.out hL1).mono ?_; rintro e w2 ⟨⟨Ao1, co1, rfl, o1⟩, hb⟩; replace ob := ob.ext hb; replace oc := oc.ext hb; replace g := Lib.hid (bl_then g.out hb); clear hb; replace o1 := o1.ok
      go_wp2_with fail
      refine (c_len _ 1 L2 _ e2.out hL2).mono ?_; rintro e w3 ⟨⟨Ao2, co2, rfl, o2⟩, hb⟩; replace ob := ob.ext hb; replace oc := oc.ext hb; replace o1 := o1.ext hb; replace g := Lib.hid (bl_then g.out hb); clear hb; replace o2 := o2.ok
      go_wp2_with fail
      refine (c_row A c x 0 L3 _ ob hE3.out hL3).mono ?_; rintro e w4 ⟨⟨Ao3, co3, rfl, o3⟩, hb⟩; replace ob := ob.ext hb; replace oc := oc.ext hb; replace o1 := o1.ext hb; replace o2 := o2.ext hb; replace g := Lib.hid (bl_then g.out hb); clear hb; replace o3 := o3.ok
      go_wp2_with fail
      refine (c_row A1 c1 y 0 L4 _ oc hE4.out hL4).mono ?_; rintro e w5 ⟨⟨Ao4, co4, rfl, o4⟩, hb⟩; replace ob := ob.ext hb; replace oc := oc.ext hb; replace o1 := o1.ext hb; replace o2 := o2.ext hb; replace o3 := o3.ext hb; replace g := Lib.hid (bl_then g.out hb); clear hb; replace o4 := o4.ok
      go_wp2_with fail
      refine (c_begins _ _ L3 _ _ L4 _ o3 o4 p3 vs b3.out).mono ?_; rintro e w6 ⟨rfl, rfl⟩
      go_wp2_with fail
      refine (c_same _ _ x _ _ y _ ob oc vs hvs.out).mono ?_; rintro e w7 ⟨rfl, rfl⟩
      go_wp2_with fail
      go_ret
      exact ⟨ret_bool (by simp <;> omega), g.out⟩
end Go.Proofs.Ytlcclaicodghcaa
