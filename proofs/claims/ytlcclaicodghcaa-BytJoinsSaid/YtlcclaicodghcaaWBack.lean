import Derived.Test.YtlcclaicodghcaaS
import Derived.Test.YtlcclaicodghcaaNc
namespace Go.Proofs.Ytlcclaicodghcaa
open Go.RowKit

theorem to_opt {is : Bool} {x more : List UInt8} : toE (optL is x ++ more) 0 = 0 ∧ toV (optL is x ++ more) 0 = is ∧ toX (optL is x ++ more) 0 = 1 := by
  have h1 : 0 < (optL is x ++ more).length := by unfold optL; cases is <;> simp
  have h2 : tlB (optL is x ++ more) 0 = if is then 1 else 0 := by unfold tlB optL; cases is <;> rfl
  have hE : toE (optL is x ++ more) 0 = 0 := by unfold toE; rw [if_pos (by omega), if_neg (by omega), h2]; cases is <;> rfl
  refine ⟨hE, ?_, by unfold toX; rw [if_pos hE]; rfl⟩
  unfold toV; rw [hE, h2]; cases is <;> rfl
theorem numE_num {n m : Int} (h : numE n m = 0) : okN n m := by
  unfold numE at h; split at h
  · assumption
  · cases h
theorem numE_len {n m : Int} (h : numE n m = 0) : ((numL n m).length : Int) = m := by
  have := numE_num h
  unfold numL; rw [if_pos this, numB_len]; unfold okN at this; omega
/-- A number put and taken. -/
theorem num_back {n m : Int} {more : List UInt8} (h : numE n m = 0) : tnE (numL n m ++ more) 0 m = 0 ∧ tnN (numL n m ++ more) 0 m = n ∧ tnX (numL n m ++ more) 0 m = m := by
  have h1 := numE_num h
  have h2 := h1
  unfold okN at h2
  obtain ⟨⟨h3, h4⟩, h5, h6⟩ := h2
  have := tn_num (b := numL n m ++ more) (more := more) (T := 0) (n := n.toNat) (w := m.toNat) (Nat.zero_le _) (by unfold numL; rw [if_pos h1]; rfl) (by omega) (by omega) (by omega)
  rw [show ((0 : Nat) : Int) = 0 from rfl, Int.toNat_of_nonneg (by omega), Int.toNat_of_nonneg (by omega)] at this
  exact ⟨this.1, this.2.1, by omega⟩
theorem lenE_num {n : Int} (h : lenE n = 0) : 0 ≤ n ∧ n ≤ 1073741823 := by
  unfold lenE at h; split at h
  · assumption
  · cases h
theorem lenL_le (n : Int) : (lenL n).length ≤ 4 := by
  by_cases h : lenE n = 0
  · rw [lenL_length (lenE_num h).1 (lenE_num h).2]; unfold lenW; split <;> (try split) <;> omega
  · unfold lenL; rw [if_neg h]; simp
theorem numL_le (n m : Int) : (numL n m).length ≤ 7 := by
  unfold numL; split
  · rename_i h; unfold okN at h; rw [numB_len]; omega
  · simp
/-- A length put and taken. -/
theorem len_back {n : Int} {more : List UInt8} (h : lenE n = 0) : tlE (lenL n ++ more) 0 = 0 ∧ tlN (lenL n ++ more) 0 = n ∧ tlX (lenL n ++ more) 0 = (lenL n).length := by
  obtain ⟨h1, h2⟩ := lenE_num h
  have := tl_len (b := lenL n ++ more) (T := 0) (Nat.zero_le _) h1 h2 rfl
  rw [show ((0 : Nat) : Int) = 0 from rfl] at this
  exact ⟨this.1, this.2.1, by omega⟩
/-- A row put and taken. -/
theorem row_back {x more : List UInt8} (h : x.length ≤ 1073741823) : trE (rowL x ++ more) 0 x.length = 0 ∧ trL (rowL x ++ more) 0 x.length = x ∧ trX (rowL x ++ more) 0 x.length = (rowL x).length := by
  obtain ⟨h1, h2⟩ := tr_row (b := rowL x ++ more) (T := 0) (most := x.length) (Nat.zero_le _) h rfl
  rw [if_neg (by omega)] at h1
  rw [show ((0 : Nat) : Int) = 0 from rfl] at h1 h2
  obtain ⟨h3, h4⟩ := h2 h1
  exact ⟨h1, h3, by omega⟩
theorem rowL_le (x : List UInt8) : (rowL x).length ≤ x.length + 4 := by
  unfold rowL; split
  · have := lenL_le x.length; simp only [List.length_append]; omega
  · simp
theorem optL_le (is : Bool) (x : List UInt8) : (optL is x).length ≤ x.length + 1 := by unfold optL; cases is <;> simp

set_option maxRecDepth 20000 in
set_option maxHeartbeats 4000000 in
theorem back_any (n m : Int) (A : Option Addr) (c : Nat) (x : List UInt8) (A1 : Option Addr) (c1 : Nat) (y : List UInt8) (w : World) (ob : OkB w A c x) (oc : OkB w A1 c1 y) (hn : -9223372036854775808 ≤ n) (hn' : n ≤ 9223372036854775807) :
    Calls Try.prog 10 #[.agg #[.int .i64 n, .int .i64 m, .slice A x.length c, .slice A1 y.length c1]] w fun e w' => e = .returned (.bool true) ∧ Below w.heap.size w w' := by
  have g := Lib.hid (bl_alloc (Below.refl _ w) (.cells #[.int .i64 n, .int .i64 m, .slice A x.length c, .slice A1 y.length c1] 71))
  replace ob := ob.ext (bl_alloc (Below.refl _ w) (.cells #[.int .i64 n, .int .i64 m, .slice A x.length c, .slice A1 y.length c1] 71))
  replace oc := oc.ext (bl_alloc (Below.refl _ w) (.cells #[.int .i64 n, .int .i64 m, .slice A x.length c, .slice A1 y.length c1] 71))
  have d1 := numL_le n m
  have d2 := lenL_le n
  have d3 := rowL_le x
  have d4 := optL_le ((x.length : Int) % 2 == 0) x
  obtain ⟨L1, hL1⟩ : ∃ z, numL n m = z := ⟨_, rfl⟩
  obtain ⟨L2, hL2⟩ : ∃ z, lenL n = z := ⟨_, rfl⟩
  obtain ⟨L3, hL3⟩ : ∃ z, rowL x = z := ⟨_, rfl⟩
  obtain ⟨L4, hL4⟩ : ∃ z, optL ((x.length : Int) % 2 == 0) x = z := ⟨_, rfl⟩
  rw [hL1] at d1; rw [hL2] at d2; rw [hL3] at d3; rw [hL4] at d4
  replace hn := Lib.hid hn
  replace hn' := Lib.hid hn'
  have h5 : (500 : Int) < x.length ∨ ((x.length : Int) ≤ 500 ∧ (100 : Int) < y.length) ∨ ((x.length : Int) ≤ 500 ∧ (y.length : Int) ≤ 100) := by omega
  rcases h5 with h5 | ⟨h5, h6⟩ | ⟨h5, h6⟩
  · go_enter Try.func10, Try.ntmps10
    go_wp2_with (go_at_call 19; refine (shown_any _).mono ?_; rintro e w1 ⟨rfl, hb⟩)
    go_ret
    exact ⟨rfl, bl_then g.out hb⟩
  · go_enter Try.func10, Try.ntmps10
    go_wp2_with (go_at_call 19; refine (shown_any _).mono ?_; rintro e w1 ⟨rfl, hb⟩)
    go_ret
    exact ⟨rfl, bl_then g.out hb⟩
  · obtain ⟨i0, hi, hz0, hz1, hz2⟩ := info_parts info5
    have hE3 := Lib.hid (rowE_ok (x := x) (by omega))
    have sx := Lib.hid (show (x == x) = true by simp)
    have e1 : numE n m = 0 ∨ numE n m = 1 := by unfold numE; split <;> simp
    have e2 : lenE n = 0 ∨ lenE n = 1 := by unfold lenE; split <;> simp
    rcases e1 with e1 | e1 <;> rcases e2 with e2 | e2
    · replace e1 := Lib.hid e1
      replace e2 := Lib.hid e2
      have f1 : (L1.length : Int) = m := by rw [← hL1]; exact numE_len e1.out
      go_enter Try.func10, Try.ntmps10
      go_wp2_with fail
      refine (shown_any _).mono ?_; rintro e w1 ⟨rfl, hb⟩; replace ob := ob.ext hb; replace oc := oc.ext hb; replace g := Lib.hid (bl_then g.out hb); clear hb
      go_wp2_with fail
      refine (c_num n m 0 L1 _ hn.out hn'.out e1.out hL1).mono ?_; rintro e w2 ⟨⟨Ao1, co1, rfl, o1⟩, hb⟩; replace ob := ob.ext hb; replace oc := oc.ext hb; replace g := Lib.hid (bl_then g.out hb); clear hb; replace o1 := o1.ok
      go_wp2_with fail
      refine (c_len n 0 L2 _ e2.out hL2).mono ?_; rintro e w3 ⟨⟨Ao2, co2, rfl, o2⟩, hb⟩; replace ob := ob.ext hb; replace oc := oc.ext hb; replace o1 := o1.ext hb; replace g := Lib.hid (bl_then g.out hb); clear hb; replace o2 := o2.ok
      go_wp2_with fail
      refine (c_row A c x 0 L3 _ ob hE3.out hL3).mono ?_; rintro e w4 ⟨⟨Ao3, co3, rfl, o3⟩, hb⟩; replace ob := ob.ext hb; replace oc := oc.ext hb; replace o1 := o1.ext hb; replace o2 := o2.ext hb; replace g := Lib.hid (bl_then g.out hb); clear hb; replace o3 := o3.ok
      have ip1 := Lib.hid (bl_alloc (Below.refl w4.heap.size w4) (.cells #[] 5))
      go_wp2_with (first | (at_builtin; refine append_any _ rfl (.tmp 65) (.tmp 66) 22 rfl w4.heap.size i0 Try.underlying22 hi hz0 hz1 hz2 (some ⟨w4.heap.size, 0, none⟩) 0 [] rfl (own_empty _ _ rfl) Ao1 co1 L1 rfl (o1.ext ip1.out) (by simp; omega) ip1.out.size ?_; intro Aap1 cap1 bap1 wap1 hbp1 hop1 hgp1) | (at_builtin; refine append_any _ rfl (.tmp 67) (.tmp 68) 22 rfl w4.heap.size i0 Try.underlying22 hi hz0 hz1 hz2 Aap1 cap1 bap1 rfl hop1.out A1 c1 y rfl (oc.ext (bl_grown ip1.out hgp1 (OwnB.low (own_empty _ _ rfl) (Nat.le_refl _)))) (by rw [hbp1.out]; simp; omega) (bl_grown ip1.out hgp1 (OwnB.low (own_empty _ _ rfl) (Nat.le_refl _))).size ?_; intro Ap1 cp1 bp1 Wp1 kp1 p1 gp1))
      have jp1 := bl_grown (bl_grown ip1.out hgp1 (OwnB.low (own_empty _ _ rfl) (Nat.le_refl _))) gp1 (OwnB.low hop1.out (Nat.le_refl _))
      replace p1 := p1.out.ok
      replace kp1 : bp1 = L1 ++ y := by rw [kp1.out, hbp1.out]; rfl
      clear hop1 hgp1 hbp1 gp1 ip1
      replace ob := ob.ext jp1; replace oc := oc.ext jp1; replace o1 := o1.ext jp1; replace o2 := o2.ext jp1; replace o3 := o3.ext jp1; replace g := Lib.hid (bl_then g.out jp1); clear jp1
      obtain ⟨q1, q2, q3⟩ := num_back (more := y) e1.out; rw [hL1, ← kp1] at q1 q2 q3
      go_wp2_with fail
      refine (c_takeNum Ap1 cp1 bp1 0 m n m 0 _ p1 q2 q3 q1).mono ?_; rintro e w5 ⟨rfl, rfl⟩
      clear p1
      have ip2 := Lib.hid (bl_alloc (Below.refl Wp1.heap.size Wp1) (.cells #[] 5))
      go_wp2_with (first | (at_builtin; refine append_any _ rfl (.tmp 96) (.tmp 97) 22 rfl Wp1.heap.size i0 Try.underlying22 hi hz0 hz1 hz2 (some ⟨Wp1.heap.size, 0, none⟩) 0 [] rfl (own_empty _ _ rfl) Ao2 co2 L2 rfl (o2.ext ip2.out) (by simp; omega) ip2.out.size ?_; intro Aap2 cap2 bap2 wap2 hbp2 hop2 hgp2) | (at_builtin; refine append_any _ rfl (.tmp 98) (.tmp 99) 22 rfl Wp1.heap.size i0 Try.underlying22 hi hz0 hz1 hz2 Aap2 cap2 bap2 rfl hop2.out A1 c1 y rfl (oc.ext (bl_grown ip2.out hgp2 (OwnB.low (own_empty _ _ rfl) (Nat.le_refl _)))) (by rw [hbp2.out]; simp; omega) (bl_grown ip2.out hgp2 (OwnB.low (own_empty _ _ rfl) (Nat.le_refl _))).size ?_; intro Ap2 cp2 bp2 Wp2 kp2 p2 gp2))
      have jp2 := bl_grown (bl_grown ip2.out hgp2 (OwnB.low (own_empty _ _ rfl) (Nat.le_refl _))) gp2 (OwnB.low hop2.out (Nat.le_refl _))
      replace p2 := p2.out.ok
      replace kp2 : bp2 = L2 ++ y := by rw [kp2.out, hbp2.out]; rfl
      clear hop2 hgp2 hbp2 gp2 ip2
      replace ob := ob.ext jp2; replace oc := oc.ext jp2; replace o1 := o1.ext jp2; replace o2 := o2.ext jp2; replace o3 := o3.ext jp2; replace g := Lib.hid (bl_then g.out jp2); clear jp2
      obtain ⟨q4, q5, q6⟩ := len_back (more := y) e2.out; rw [hL2, ← kp2] at q4 q5 q6
      go_wp2_with fail
      refine (c_takeLen Ap2 cp2 bp2 0 n L2.length 0 _ p2 q5 q6 q4).mono ?_; rintro e w6 ⟨rfl, rfl⟩
      clear p2
      have ip3 := Lib.hid (bl_alloc (Below.refl Wp2.heap.size Wp2) (.cells #[] 5))
      go_wp2_with (first | (at_builtin; refine append_any _ rfl (.tmp 119) (.tmp 120) 22 rfl Wp2.heap.size i0 Try.underlying22 hi hz0 hz1 hz2 (some ⟨Wp2.heap.size, 0, none⟩) 0 [] rfl (own_empty _ _ rfl) Ao3 co3 L3 rfl (o3.ext ip3.out) (by simp; omega) ip3.out.size ?_; intro Aap3 cap3 bap3 wap3 hbp3 hop3 hgp3) | (at_builtin; refine append_any _ rfl (.tmp 121) (.tmp 122) 22 rfl Wp2.heap.size i0 Try.underlying22 hi hz0 hz1 hz2 Aap3 cap3 bap3 rfl hop3.out A1 c1 y rfl (oc.ext (bl_grown ip3.out hgp3 (OwnB.low (own_empty _ _ rfl) (Nat.le_refl _)))) (by rw [hbp3.out]; simp; omega) (bl_grown ip3.out hgp3 (OwnB.low (own_empty _ _ rfl) (Nat.le_refl _))).size ?_; intro Ap3 cp3 bp3 Wp3 kp3 p3 gp3))
      have jp3 := bl_grown (bl_grown ip3.out hgp3 (OwnB.low (own_empty _ _ rfl) (Nat.le_refl _))) gp3 (OwnB.low hop3.out (Nat.le_refl _))
      replace p3 := p3.out.ok
      replace kp3 : bp3 = L3 ++ y := by rw [kp3.out, hbp3.out]; rfl
      clear hop3 hgp3 hbp3 gp3 ip3
      replace ob := ob.ext jp3; replace oc := oc.ext jp3; replace o1 := o1.ext jp3; replace o2 := o2.ext jp3; replace o3 := o3.ext jp3; replace g := Lib.hid (bl_then g.out jp3); clear jp3
      obtain ⟨q7, q8, q9⟩ := row_back (x := x) (more := y) (by omega); rw [hL3, ← kp3] at q7 q8 q9
      go_wp2_with fail
      refine (c_takeRow Ap3 cp3 bp3 0 x.length L3.length 0 x _ p3 q8 q9 q7).mono ?_; rintro e w7 ⟨⟨Ao4, co4, rfl, o4⟩, hb⟩; replace ob := ob.ext hb; replace oc := oc.ext hb; replace o1 := o1.ext hb; replace o2 := o2.ext hb; replace o3 := o3.ext hb; replace p3 := p3.ext hb; replace g := Lib.hid (bl_then g.out hb); clear hb; replace o4 := o4.ok
      go_wp2_with fail
      refine (c_opt _ A c x L4 _ ob (by omega) hL4).mono ?_; rintro e wx6 ⟨⟨A5, c5, rfl, o5⟩, hb⟩
      replace o5 := Lib.hid o5; replace hb := Lib.hid hb
      go_wp2_with (at_builtin; refine append_any _ rfl (.tmp 136) (.tmp 137) 22 rfl w7.heap.size i0 Try.underlying22 hi hz0 hz1 hz2 A5 c5 L4 rfl o5.out A1 c1 y rfl (oc.ext hb.out) (by omega) hb.out.size ?_; intro A6 c6 b6 wx7 k6 o6 g6)
      have j6 := bl_grown hb.out g6 (OwnB.low o5.out (Nat.le_refl _))
      replace o6 := o6.out.ok; clear o5 hb g6
      replace ob := ob.ext j6; replace oc := oc.ext j6; replace o1 := o1.ext j6; replace o2 := o2.ext j6; replace o3 := o3.ext j6; replace p3 := p3.ext j6; replace o4 := o4.ext j6; replace g := Lib.hid (bl_then g.out j6); clear j6
      obtain ⟨q10, q11, q12⟩ := to_opt (is := ((x.length : Int) % 2 == 0)) (x := x) (more := y); rw [hL4, ← k6.out] at q10 q11 q12
      go_wp2_with fail
      refine (c_takeOpt A6 c6 b6 0 _ 1 0 _ o6 q11 q12 q10).mono ?_; rintro e w8 ⟨rfl, rfl⟩
      go_wp2_with fail
      refine (c_same _ _ x _ _ x _ ob o4 true sx.out).mono ?_; rintro e w9 ⟨rfl, rfl⟩
      go_wp2_with fail
      go_ret
      exact ⟨ret_bool (by simp), g.out⟩
    · replace e1 := Lib.hid e1
      replace e2 := Lib.hid e2
      have f1 : (L1.length : Int) = m := by rw [← hL1]; exact numE_len e1.out
      go_enter Try.func10, Try.ntmps10
      go_wp2_with fail
      refine (shown_any _).mono ?_; rintro e w1 ⟨rfl, hb⟩; replace ob := ob.ext hb; replace oc := oc.ext hb; replace g := Lib.hid (bl_then g.out hb); clear hb
      go_wp2_with fail
      refine (c_num n m 0 L1 _ hn.out hn'.out e1.out hL1).mono ?_; rintro e w2 ⟨⟨Ao1, co1, rfl, o1⟩, hb⟩; replace ob := ob.ext hb; replace oc := oc.ext hb; replace g := Lib.hid (bl_then g.out hb); clear hb; replace o1 := o1.ok
      go_wp2_with fail
      refine (c_len n 1 L2 _ e2.out hL2).mono ?_; rintro e w3 ⟨⟨Ao2, co2, rfl, o2⟩, hb⟩; replace ob := ob.ext hb; replace oc := oc.ext hb; replace o1 := o1.ext hb; replace g := Lib.hid (bl_then g.out hb); clear hb; replace o2 := o2.ok
      go_wp2_with fail
      refine (c_row A c x 0 L3 _ ob hE3.out hL3).mono ?_; rintro e w4 ⟨⟨Ao3, co3, rfl, o3⟩, hb⟩; replace ob := ob.ext hb; replace oc := oc.ext hb; replace o1 := o1.ext hb; replace o2 := o2.ext hb; replace g := Lib.hid (bl_then g.out hb); clear hb; replace o3 := o3.ok
      have ip1 := Lib.hid (bl_alloc (Below.refl w4.heap.size w4) (.cells #[] 5))
      go_wp2_with (first | (at_builtin; refine append_any _ rfl (.tmp 65) (.tmp 66) 22 rfl w4.heap.size i0 Try.underlying22 hi hz0 hz1 hz2 (some ⟨w4.heap.size, 0, none⟩) 0 [] rfl (own_empty _ _ rfl) Ao1 co1 L1 rfl (o1.ext ip1.out) (by simp; omega) ip1.out.size ?_; intro Aap1 cap1 bap1 wap1 hbp1 hop1 hgp1) | (at_builtin; refine append_any _ rfl (.tmp 67) (.tmp 68) 22 rfl w4.heap.size i0 Try.underlying22 hi hz0 hz1 hz2 Aap1 cap1 bap1 rfl hop1.out A1 c1 y rfl (oc.ext (bl_grown ip1.out hgp1 (OwnB.low (own_empty _ _ rfl) (Nat.le_refl _)))) (by rw [hbp1.out]; simp; omega) (bl_grown ip1.out hgp1 (OwnB.low (own_empty _ _ rfl) (Nat.le_refl _))).size ?_; intro Ap1 cp1 bp1 Wp1 kp1 p1 gp1))
      have jp1 := bl_grown (bl_grown ip1.out hgp1 (OwnB.low (own_empty _ _ rfl) (Nat.le_refl _))) gp1 (OwnB.low hop1.out (Nat.le_refl _))
      replace p1 := p1.out.ok
      replace kp1 : bp1 = L1 ++ y := by rw [kp1.out, hbp1.out]; rfl
      clear hop1 hgp1 hbp1 gp1 ip1
      replace ob := ob.ext jp1; replace oc := oc.ext jp1; replace o1 := o1.ext jp1; replace o2 := o2.ext jp1; replace o3 := o3.ext jp1; replace g := Lib.hid (bl_then g.out jp1); clear jp1
      obtain ⟨q1, q2, q3⟩ := num_back (more := y) e1.out; rw [hL1, ← kp1] at q1 q2 q3
      go_wp2_with fail
      refine (c_takeNum Ap1 cp1 bp1 0 m n m 0 _ p1 q2 q3 q1).mono ?_; rintro e w5 ⟨rfl, rfl⟩
      clear p1
      have ip3 := Lib.hid (bl_alloc (Below.refl Wp1.heap.size Wp1) (.cells #[] 5))
      go_wp2_with (first | (at_builtin; refine append_any _ rfl (.tmp 119) (.tmp 120) 22 rfl Wp1.heap.size i0 Try.underlying22 hi hz0 hz1 hz2 (some ⟨Wp1.heap.size, 0, none⟩) 0 [] rfl (own_empty _ _ rfl) Ao3 co3 L3 rfl (o3.ext ip3.out) (by simp; omega) ip3.out.size ?_; intro Aap3 cap3 bap3 wap3 hbp3 hop3 hgp3) | (at_builtin; refine append_any _ rfl (.tmp 121) (.tmp 122) 22 rfl Wp1.heap.size i0 Try.underlying22 hi hz0 hz1 hz2 Aap3 cap3 bap3 rfl hop3.out A1 c1 y rfl (oc.ext (bl_grown ip3.out hgp3 (OwnB.low (own_empty _ _ rfl) (Nat.le_refl _)))) (by rw [hbp3.out]; simp; omega) (bl_grown ip3.out hgp3 (OwnB.low (own_empty _ _ rfl) (Nat.le_refl _))).size ?_; intro Ap3 cp3 bp3 Wp3 kp3 p3 gp3))
      have jp3 := bl_grown (bl_grown ip3.out hgp3 (OwnB.low (own_empty _ _ rfl) (Nat.le_refl _))) gp3 (OwnB.low hop3.out (Nat.le_refl _))
      replace p3 := p3.out.ok
      replace kp3 : bp3 = L3 ++ y := by rw [kp3.out, hbp3.out]; rfl
      clear hop3 hgp3 hbp3 gp3 ip3
      replace ob := ob.ext jp3; replace oc := oc.ext jp3; replace o1 := o1.ext jp3; replace o2 := o2.ext jp3; replace o3 := o3.ext jp3; replace g := Lib.hid (bl_then g.out jp3); clear jp3
      obtain ⟨q7, q8, q9⟩ := row_back (x := x) (more := y) (by omega); rw [hL3, ← kp3] at q7 q8 q9
      go_wp2_with fail
      refine (c_takeRow Ap3 cp3 bp3 0 x.length L3.length 0 x _ p3 q8 q9 q7).mono ?_; rintro e w6 ⟨⟨Ao4, co4, rfl, o4⟩, hb⟩; replace ob := ob.ext hb; replace oc := oc.ext hb; replace o1 := o1.ext hb; replace o2 := o2.ext hb; replace o3 := o3.ext hb; replace p3 := p3.ext hb; replace g := Lib.hid (bl_then g.out hb); clear hb; replace o4 := o4.ok
      go_wp2_with fail
      refine (c_opt _ A c x L4 _ ob (by omega) hL4).mono ?_; rintro e wx6 ⟨⟨A5, c5, rfl, o5⟩, hb⟩
      replace o5 := Lib.hid o5; replace hb := Lib.hid hb
      go_wp2_with (at_builtin; refine append_any _ rfl (.tmp 136) (.tmp 137) 22 rfl w6.heap.size i0 Try.underlying22 hi hz0 hz1 hz2 A5 c5 L4 rfl o5.out A1 c1 y rfl (oc.ext hb.out) (by omega) hb.out.size ?_; intro A6 c6 b6 wx7 k6 o6 g6)
      have j6 := bl_grown hb.out g6 (OwnB.low o5.out (Nat.le_refl _))
      replace o6 := o6.out.ok; clear o5 hb g6
      replace ob := ob.ext j6; replace oc := oc.ext j6; replace o1 := o1.ext j6; replace o2 := o2.ext j6; replace o3 := o3.ext j6; replace p3 := p3.ext j6; replace o4 := o4.ext j6; replace g := Lib.hid (bl_then g.out j6); clear j6
      obtain ⟨q10, q11, q12⟩ := to_opt (is := ((x.length : Int) % 2 == 0)) (x := x) (more := y); rw [hL4, ← k6.out] at q10 q11 q12
      go_wp2_with fail
      refine (c_takeOpt A6 c6 b6 0 _ 1 0 _ o6 q11 q12 q10).mono ?_; rintro e w7 ⟨rfl, rfl⟩
      go_wp2_with fail
      refine (c_same _ _ x _ _ x _ ob o4 true sx.out).mono ?_; rintro e w8 ⟨rfl, rfl⟩
      go_wp2_with fail
      go_ret
      exact ⟨ret_bool (by simp), g.out⟩
    · replace e1 := Lib.hid e1
      replace e2 := Lib.hid e2
      go_enter Try.func10, Try.ntmps10
      go_wp2_with fail
      refine (shown_any _).mono ?_; rintro e w1 ⟨rfl, hb⟩; replace ob := ob.ext hb; replace oc := oc.ext hb; replace g := Lib.hid (bl_then g.out hb); clear hb
      go_wp2_with fail
      refine (c_num n m 1 L1 _ hn.out hn'.out e1.out hL1).mono ?_; rintro e w2 ⟨⟨Ao1, co1, rfl, o1⟩, hb⟩; replace ob := ob.ext hb; replace oc := oc.ext hb; replace g := Lib.hid (bl_then g.out hb); clear hb; replace o1 := o1.ok
      go_wp2_with fail
      refine (c_len n 0 L2 _ e2.out hL2).mono ?_; rintro e w3 ⟨⟨Ao2, co2, rfl, o2⟩, hb⟩; replace ob := ob.ext hb; replace oc := oc.ext hb; replace o1 := o1.ext hb; replace g := Lib.hid (bl_then g.out hb); clear hb; replace o2 := o2.ok
      go_wp2_with fail
      refine (c_row A c x 0 L3 _ ob hE3.out hL3).mono ?_; rintro e w4 ⟨⟨Ao3, co3, rfl, o3⟩, hb⟩; replace ob := ob.ext hb; replace oc := oc.ext hb; replace o1 := o1.ext hb; replace o2 := o2.ext hb; replace g := Lib.hid (bl_then g.out hb); clear hb; replace o3 := o3.ok
      have ip2 := Lib.hid (bl_alloc (Below.refl w4.heap.size w4) (.cells #[] 5))
      go_wp2_with (first | (at_builtin; refine append_any _ rfl (.tmp 96) (.tmp 97) 22 rfl w4.heap.size i0 Try.underlying22 hi hz0 hz1 hz2 (some ⟨w4.heap.size, 0, none⟩) 0 [] rfl (own_empty _ _ rfl) Ao2 co2 L2 rfl (o2.ext ip2.out) (by simp; omega) ip2.out.size ?_; intro Aap2 cap2 bap2 wap2 hbp2 hop2 hgp2) | (at_builtin; refine append_any _ rfl (.tmp 98) (.tmp 99) 22 rfl w4.heap.size i0 Try.underlying22 hi hz0 hz1 hz2 Aap2 cap2 bap2 rfl hop2.out A1 c1 y rfl (oc.ext (bl_grown ip2.out hgp2 (OwnB.low (own_empty _ _ rfl) (Nat.le_refl _)))) (by rw [hbp2.out]; simp; omega) (bl_grown ip2.out hgp2 (OwnB.low (own_empty _ _ rfl) (Nat.le_refl _))).size ?_; intro Ap2 cp2 bp2 Wp2 kp2 p2 gp2))
      have jp2 := bl_grown (bl_grown ip2.out hgp2 (OwnB.low (own_empty _ _ rfl) (Nat.le_refl _))) gp2 (OwnB.low hop2.out (Nat.le_refl _))
      replace p2 := p2.out.ok
      replace kp2 : bp2 = L2 ++ y := by rw [kp2.out, hbp2.out]; rfl
      clear hop2 hgp2 hbp2 gp2 ip2
      replace ob := ob.ext jp2; replace oc := oc.ext jp2; replace o1 := o1.ext jp2; replace o2 := o2.ext jp2; replace o3 := o3.ext jp2; replace g := Lib.hid (bl_then g.out jp2); clear jp2
      obtain ⟨q4, q5, q6⟩ := len_back (more := y) e2.out; rw [hL2, ← kp2] at q4 q5 q6
      go_wp2_with fail
      refine (c_takeLen Ap2 cp2 bp2 0 n L2.length 0 _ p2 q5 q6 q4).mono ?_; rintro e w5 ⟨rfl, rfl⟩
      clear p2
      have ip3 := Lib.hid (bl_alloc (Below.refl Wp2.heap.size Wp2) (.cells #[] 5))
      go_wp2_with (first | (at_builtin; refine append_any _ rfl (.tmp 119) (.tmp 120) 22 rfl Wp2.heap.size i0 Try.underlying22 hi hz0 hz1 hz2 (some ⟨Wp2.heap.size, 0, none⟩) 0 [] rfl (own_empty _ _ rfl) Ao3 co3 L3 rfl (o3.ext ip3.out) (by simp; omega) ip3.out.size ?_; intro Aap3 cap3 bap3 wap3 hbp3 hop3 hgp3) | (at_builtin; refine append_any _ rfl (.tmp 121) (.tmp 122) 22 rfl Wp2.heap.size i0 Try.underlying22 hi hz0 hz1 hz2 Aap3 cap3 bap3 rfl hop3.out A1 c1 y rfl (oc.ext (bl_grown ip3.out hgp3 (OwnB.low (own_empty _ _ rfl) (Nat.le_refl _)))) (by rw [hbp3.out]; simp; omega) (bl_grown ip3.out hgp3 (OwnB.low (own_empty _ _ rfl) (Nat.le_refl _))).size ?_; intro Ap3 cp3 bp3 Wp3 kp3 p3 gp3))
      have jp3 := bl_grown (bl_grown ip3.out hgp3 (OwnB.low (own_empty _ _ rfl) (Nat.le_refl _))) gp3 (OwnB.low hop3.out (Nat.le_refl _))
      replace p3 := p3.out.ok
      replace kp3 : bp3 = L3 ++ y := by rw [kp3.out, hbp3.out]; rfl
      clear hop3 hgp3 hbp3 gp3 ip3
      replace ob := ob.ext jp3; replace oc := oc.ext jp3; replace o1 := o1.ext jp3; replace o2 := o2.ext jp3; replace o3 := o3.ext jp3; replace g := Lib.hid (bl_then g.out jp3); clear jp3
      obtain ⟨q7, q8, q9⟩ := row_back (x := x) (more := y) (by omega); rw [hL3, ← kp3] at q7 q8 q9
      go_wp2_with fail
      refine (c_takeRow Ap3 cp3 bp3 0 x.length L3.length 0 x _ p3 q8 q9 q7).mono ?_; rintro e w6 ⟨⟨Ao4, co4, rfl, o4⟩, hb⟩; replace ob := ob.ext hb; replace oc := oc.ext hb; replace o1 := o1.ext hb; replace o2 := o2.ext hb; replace o3 := o3.ext hb; replace p3 := p3.ext hb; replace g := Lib.hid (bl_then g.out hb); clear hb; replace o4 := o4.ok
      go_wp2_with fail
      refine (c_opt _ A c x L4 _ ob (by omega) hL4).mono ?_; rintro e wx6 ⟨⟨A5, c5, rfl, o5⟩, hb⟩
      replace o5 := Lib.hid o5; replace hb := Lib.hid hb
      go_wp2_with (at_builtin; refine append_any _ rfl (.tmp 136) (.tmp 137) 22 rfl w6.heap.size i0 Try.underlying22 hi hz0 hz1 hz2 A5 c5 L4 rfl o5.out A1 c1 y rfl (oc.ext hb.out) (by omega) hb.out.size ?_; intro A6 c6 b6 wx7 k6 o6 g6)
      have j6 := bl_grown hb.out g6 (OwnB.low o5.out (Nat.le_refl _))
      replace o6 := o6.out.ok; clear o5 hb g6
      replace ob := ob.ext j6; replace oc := oc.ext j6; replace o1 := o1.ext j6; replace o2 := o2.ext j6; replace o3 := o3.ext j6; replace p3 := p3.ext j6; replace o4 := o4.ext j6; replace g := Lib.hid (bl_then g.out j6); clear j6
      obtain ⟨q10, q11, q12⟩ := to_opt (is := ((x.length : Int) % 2 == 0)) (x := x) (more := y); rw [hL4, ← k6.out] at q10 q11 q12
      go_wp2_with fail
      refine (c_takeOpt A6 c6 b6 0 _ 1 0 _ o6 q11 q12 q10).mono ?_; rintro e w7 ⟨rfl, rfl⟩
      go_wp2_with fail
      refine (c_same _ _ x _ _ x _ ob o4 true sx.out).mono ?_; rintro e w8 ⟨rfl, rfl⟩
      go_wp2_with fail
      go_ret
      exact ⟨ret_bool (by simp), g.out⟩
    · replace e1 := Lib.hid e1
      replace e2 := Lib.hid e2
      go_enter Try.func10, Try.ntmps10
      go_wp2_with fail
      refine (shown_any _).mono ?_; rintro e w1 ⟨rfl, hb⟩; replace ob := ob.ext hb; replace oc := oc.ext hb; replace g := Lib.hid (bl_then g.out hb); clear hb
      go_wp2_with fail
      refine (c_num n m 1 L1 _ hn.out hn'.out e1.out hL1).mono ?_; rintro e w2 ⟨⟨Ao1, co1, rfl, o1⟩, hb⟩; replace ob := ob.ext hb; replace oc := oc.ext hb; replace g := Lib.hid (bl_then g.out hb); clear hb; replace o1 := o1.ok
      go_wp2_with fail
      refine (c_len n 1 L2 _ e2.out hL2).mono ?_; rintro e w3 ⟨⟨Ao2, co2, rfl, o2⟩, hb⟩; replace ob := ob.ext hb; replace oc := oc.ext hb; replace o1 := o1.ext hb; replace g := Lib.hid (bl_then g.out hb); clear hb; replace o2 := o2.ok
      go_wp2_with fail
      refine (c_row A c x 0 L3 _ ob hE3.out hL3).mono ?_; rintro e w4 ⟨⟨Ao3, co3, rfl, o3⟩, hb⟩; replace ob := ob.ext hb; replace oc := oc.ext hb; replace o1 := o1.ext hb; replace o2 := o2.ext hb; replace g := Lib.hid (bl_then g.out hb); clear hb; replace o3 := o3.ok
      have ip3 := Lib.hid (bl_alloc (Below.refl w4.heap.size w4) (.cells #[] 5))
      go_wp2_with (first | (at_builtin; refine append_any _ rfl (.tmp 119) (.tmp 120) 22 rfl w4.heap.size i0 Try.underlying22 hi hz0 hz1 hz2 (some ⟨w4.heap.size, 0, none⟩) 0 [] rfl (own_empty _ _ rfl) Ao3 co3 L3 rfl (o3.ext ip3.out) (by simp; omega) ip3.out.size ?_; intro Aap3 cap3 bap3 wap3 hbp3 hop3 hgp3) | (at_builtin; refine append_any _ rfl (.tmp 121) (.tmp 122) 22 rfl w4.heap.size i0 Try.underlying22 hi hz0 hz1 hz2 Aap3 cap3 bap3 rfl hop3.out A1 c1 y rfl (oc.ext (bl_grown ip3.out hgp3 (OwnB.low (own_empty _ _ rfl) (Nat.le_refl _)))) (by rw [hbp3.out]; simp; omega) (bl_grown ip3.out hgp3 (OwnB.low (own_empty _ _ rfl) (Nat.le_refl _))).size ?_; intro Ap3 cp3 bp3 Wp3 kp3 p3 gp3))
      have jp3 := bl_grown (bl_grown ip3.out hgp3 (OwnB.low (own_empty _ _ rfl) (Nat.le_refl _))) gp3 (OwnB.low hop3.out (Nat.le_refl _))
      replace p3 := p3.out.ok
      replace kp3 : bp3 = L3 ++ y := by rw [kp3.out, hbp3.out]; rfl
      clear hop3 hgp3 hbp3 gp3 ip3
      replace ob := ob.ext jp3; replace oc := oc.ext jp3; replace o1 := o1.ext jp3; replace o2 := o2.ext jp3; replace o3 := o3.ext jp3; replace g := Lib.hid (bl_then g.out jp3); clear jp3
      obtain ⟨q7, q8, q9⟩ := row_back (x := x) (more := y) (by omega); rw [hL3, ← kp3] at q7 q8 q9
      go_wp2_with fail
      refine (c_takeRow Ap3 cp3 bp3 0 x.length L3.length 0 x _ p3 q8 q9 q7).mono ?_; rintro e w5 ⟨⟨Ao4, co4, rfl, o4⟩, hb⟩; replace ob := ob.ext hb; replace oc := oc.ext hb; replace o1 := o1.ext hb; replace o2 := o2.ext hb; replace o3 := o3.ext hb; replace p3 := p3.ext hb; replace g := Lib.hid (bl_then g.out hb); clear hb; replace o4 := o4.ok
      go_wp2_with fail
      refine (c_opt _ A c x L4 _ ob (by omega) hL4).mono ?_; rintro e wx6 ⟨⟨A5, c5, rfl, o5⟩, hb⟩
      replace o5 := Lib.hid o5; replace hb := Lib.hid hb
      go_wp2_with (at_builtin; refine append_any _ rfl (.tmp 136) (.tmp 137) 22 rfl w5.heap.size i0 Try.underlying22 hi hz0 hz1 hz2 A5 c5 L4 rfl o5.out A1 c1 y rfl (oc.ext hb.out) (by omega) hb.out.size ?_; intro A6 c6 b6 wx7 k6 o6 g6)
      have j6 := bl_grown hb.out g6 (OwnB.low o5.out (Nat.le_refl _))
      replace o6 := o6.out.ok; clear o5 hb g6
      replace ob := ob.ext j6; replace oc := oc.ext j6; replace o1 := o1.ext j6; replace o2 := o2.ext j6; replace o3 := o3.ext j6; replace p3 := p3.ext j6; replace o4 := o4.ext j6; replace g := Lib.hid (bl_then g.out j6); clear j6
      obtain ⟨q10, q11, q12⟩ := to_opt (is := ((x.length : Int) % 2 == 0)) (x := x) (more := y); rw [hL4, ← k6.out] at q10 q11 q12
      go_wp2_with fail
      refine (c_takeOpt A6 c6 b6 0 _ 1 0 _ o6 q11 q12 q10).mono ?_; rintro e w6 ⟨rfl, rfl⟩
      go_wp2_with fail
      refine (c_same _ _ x _ _ x _ ob o4 true sx.out).mono ?_; rintro e w7 ⟨rfl, rfl⟩
      go_wp2_with fail
      go_ret
      exact ⟨ret_bool (by simp), g.out⟩
end Go.Proofs.Ytlcclaicodghcaa
