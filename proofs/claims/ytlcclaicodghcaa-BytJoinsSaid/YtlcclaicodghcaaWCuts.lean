import Derived.Test.YtlcclaicodghcaaWBack
namespace Go.Proofs.Ytlcclaicodghcaa
open Go.RowKit

theorem tn_cut {b : List UInt8} {m : Int} (h1 : 1 ≤ m ∧ m ≤ 7) (h : (b.length : Int) < m) : tnE b 0 m = 3 ∧ tnN b 0 m = 0 ∧ tnX b 0 m = 0 := by
  have hE : tnE b 0 m = 3 := by unfold tnE; rw [if_pos ⟨h1, by omega, by omega⟩, if_pos (by omega)]
  exact ⟨hE, by unfold tnN; rw [if_neg (by omega)], by unfold tnX; rw [if_neg (by omega)]⟩
theorem tl_cut3 {n : Int} {k : Nat} (h : lenE n = 0) (hk : k < (lenL n).length) : tlE ((lenL n).take k) 0 = 3 ∧ tlN ((lenL n).take k) 0 = 0 ∧ tlX ((lenL n).take k) 0 = 0 := by
  have hE := tl_cut (lenE_num h).1 (lenE_num h).2 hk
  exact ⟨hE, by unfold tlN; rw [if_neg (by omega)], by unfold tlX; rw [if_neg (by omega)]⟩
theorem tr_cut3 {x : List UInt8} {k : Nat} (hx : x.length ≤ 300) (hk : k < (rowL x).length) : trE ((rowL x).take k) 0 1000 = 3 ∧ trL ((rowL x).take k) 0 1000 = [] ∧ trX ((rowL x).take k) 0 1000 = 0 := by
  have hE := tr_cut (most := 1000) (by omega) (by omega) hk
  exact ⟨hE, by unfold trL; rw [if_neg (by omega)], by unfold trX; rw [if_neg (by omega)]⟩
theorem rowL_pos {x : List UInt8} (hx : x.length ≤ 300) : 0 < (rowL x).length := by
  rw [rowL_ok (by omega), List.length_append, lenL_length (by omega) (by omega)]; unfold lenW; split <;> (try split) <;> omega
theorem lenL_pos {n : Int} (h : lenE n = 0) : 0 < (lenL n).length := by
  rw [lenL_length (lenE_num h).1 (lenE_num h).2]; unfold lenW; split <;> (try split) <;> omega
theorem OkB.ad {w : World} {A : Option Addr} {c : Nat} {a : List UInt8} (h : OkB w A c a) (h0 : 0 < a.length) : ∃ ad, A = some ad := by
  obtain ⟨b, off, h1, _⟩ := h.some_ h0
  exact ⟨_, h1⟩

set_option maxRecDepth 20000 in
set_option maxHeartbeats 4000000 in
theorem cuts_any (n m : Int) (A : Option Addr) (c : Nat) (x : List UInt8) (cut : Int) (w : World) (ob : OkB w A c x) (hn : -9223372036854775808 ≤ n) (hn' : n ≤ 9223372036854775807) (hc : 0 ≤ cut) (hc' : cut ≤ 65535) :
    Calls Try.prog 6 #[.agg #[.int .i64 n, .int .i64 m, .slice A x.length c, .int .u16 cut]] w fun e w' => e = .returned (.bool true) ∧ Below w.heap.size w w' := by
  have g := Lib.hid (bl_alloc (Below.refl _ w) (.cells #[.int .i64 n, .int .i64 m, .slice A x.length c, .int .u16 cut] 50))
  replace ob := ob.ext (bl_alloc (Below.refl _ w) (.cells #[.int .i64 n, .int .i64 m, .slice A x.length c, .int .u16 cut] 50))
  have d1 := numL_le n m
  have d2 := lenL_le n
  have d3 := rowL_le x
  obtain ⟨L1, hL1⟩ : ∃ z, numL n m = z := ⟨_, rfl⟩
  obtain ⟨L2, hL2⟩ : ∃ z, lenL n = z := ⟨_, rfl⟩
  obtain ⟨L3, hL3⟩ : ∃ z, rowL x = z := ⟨_, rfl⟩
  rw [hL1] at d1; rw [hL2] at d2; rw [hL3] at d3
  replace hn := Lib.hid hn
  replace hn' := Lib.hid hn'
  have h5 : (300 : Int) < x.length ∨ (x.length : Int) ≤ 300 := by omega
  rcases h5 with h5 | h5
  · go_enter Try.func6, Try.ntmps6
    go_wp2_with (go_at_call 19; refine (shown_any _).mono ?_; rintro e w1 ⟨rfl, hb⟩)
    go_ret
    exact ⟨rfl, bl_then g.out hb⟩
  · have hE3 := Lib.hid (rowE_ok (x := x) (by omega))
    have p3 : 0 < L3.length := by rw [← hL3]; exact rowL_pos (by omega)
    obtain ⟨k, rfl⟩ : ∃ k : Nat, cut = (k : Int) := ⟨cut.toNat, by omega⟩
    have e1 : numE n m = 0 ∨ numE n m = 1 := by unfold numE; split <;> simp
    have e2 : lenE n = 0 ∨ lenE n = 1 := by unfold lenE; split <;> simp
    have r3 := Nat.mod_lt k p3
    obtain ⟨K3, hK3⟩ : ∃ z, k % L3.length = z := ⟨_, rfl⟩
    have u3 : (k : Int) % (L3.length : Int) = (K3 : Int) := by rw [← hK3]; simp
    rw [hK3] at r3; clear hK3
    have t3 : (L3.take K3).length = K3 := by simp; omega
    have tw3 := Lib.hid (tr_cut3 (x := x) (k := K3) (by omega) (by rw [hL3]; exact r3))
    rw [hL3] at tw3
    rcases e1 with e1 | e1 <;> rcases e2 with e2 | e2
    · replace e1 := Lib.hid e1
      replace e2 := Lib.hid e2
      have f1 : (L1.length : Int) = m := by rw [← hL1]; exact numE_len e1.out
      have f0 : 1 ≤ m ∧ m ≤ 7 := (numE_num e1.out).1
      have p1 : 0 < L1.length := by omega
      have r1 := Nat.mod_lt k p1
      obtain ⟨K1, hK1⟩ : ∃ z, k % L1.length = z := ⟨_, rfl⟩
      have u1 : (k : Int) % (L1.length : Int) = (K1 : Int) := by rw [← hK1]; simp
      rw [hK1] at r1; clear hK1
      have t1 : (L1.take K1).length = K1 := by simp; omega
      have tw1 := Lib.hid (tn_cut (b := L1.take K1) f0 (by omega))
      have p2 : 0 < L2.length := by rw [← hL2]; exact lenL_pos e2.out
      have r2 := Nat.mod_lt k p2
      obtain ⟨K2, hK2⟩ : ∃ z, k % L2.length = z := ⟨_, rfl⟩
      have u2 : (k : Int) % (L2.length : Int) = (K2 : Int) := by rw [← hK2]; simp
      rw [hK2] at r2; clear hK2
      have t2 : (L2.take K2).length = K2 := by simp; omega
      have tw2 := Lib.hid (tl_cut3 (k := K2) e2.out (by rw [hL2]; exact r2)); rw [hL2] at tw2
      replace hL1 := Lib.hid hL1; subst f1
      go_enter Try.func6, Try.ntmps6
      go_wp2_with fail
      refine (shown_any _).mono ?_; rintro e w1 ⟨rfl, hb⟩; replace ob := ob.ext hb; replace g := Lib.hid (bl_then g.out hb); clear hb
      go_wp2_with fail
      refine (c_num n _ 0 L1 _ hn.out hn'.out e1.out hL1.out).mono ?_; rintro e w2 ⟨⟨Ao1, co1, rfl, o1⟩, hb⟩; replace ob := ob.ext hb; replace g := Lib.hid (bl_then g.out hb); clear hb; replace o1 := o1.ok
      go_wp2_with fail
      refine (c_len n 0 L2 _ e2.out hL2).mono ?_; rintro e w3 ⟨⟨Ao2, co2, rfl, o2⟩, hb⟩; replace ob := ob.ext hb; replace o1 := o1.ext hb; replace g := Lib.hid (bl_then g.out hb); clear hb; replace o2 := o2.ok
      go_wp2_with fail
      refine (c_row A c x 0 L3 _ ob hE3.out hL3).mono ?_; rintro e w4 ⟨⟨Ao3, co3, rfl, o3⟩, hb⟩; replace ob := ob.ext hb; replace o1 := o1.ext hb; replace o2 := o2.ext hb; replace g := Lib.hid (bl_then g.out hb); clear hb; replace o3 := o3.ok
      obtain ⟨ad1, rfl⟩ := o1.ad p1
      have z1 := o1.2.1
      have n1 : ((L1.length : Int) == 0) = false := by rw [beq_eq_false_iff_ne]; omega
      have q1 := Lib.hid (c_takeNum _ co1 _ 0 _ 0 0 3 _ (o1.take K1) tw1.out.2.1 tw1.out.2.2 tw1.out.1); rw [t1] at q1
      obtain ⟨ad2, rfl⟩ := o2.ad p2
      have z2 := o2.2.1
      have n2 : ((L2.length : Int) == 0) = false := by rw [beq_eq_false_iff_ne]; omega
      have q2 := Lib.hid (c_takeLen _ co2 _ 0 0 0 3 _ (o2.take K2) tw2.out.2.1 tw2.out.2.2 tw2.out.1); rw [t2] at q2
      obtain ⟨ad3, rfl⟩ := o3.ad p3
      have z3 := o3.2.1
      have n3 : ((L3.length : Int) == 0) = false := by rw [beq_eq_false_iff_ne]; omega
      have q3 := Lib.hid (c_takeRow _ co3 _ 0 1000 0 3 [] _ (o3.take K3) tw3.out.2.1 tw3.out.2.2 tw3.out.1); rw [t3] at q3
      go_wp2_with fail
      refine q1.out.mono ?_; rintro e w1 ⟨rfl, rfl⟩
      go_wp2_with fail
      refine q2.out.mono ?_; rintro e w1 ⟨rfl, rfl⟩
      go_wp2_with fail
      refine q3.out.mono ?_; rintro e w9 ⟨⟨A9, c9, rfl, o9⟩, hb⟩; replace g := Lib.hid (bl_then g.out hb); clear hb o9
      go_wp2_with fail
      go_ret
      exact ⟨ret_bool (by simp), g.out⟩
    · replace e1 := Lib.hid e1
      replace e2 := Lib.hid e2
      have f1 : (L1.length : Int) = m := by rw [← hL1]; exact numE_len e1.out
      have f0 : 1 ≤ m ∧ m ≤ 7 := (numE_num e1.out).1
      have p1 : 0 < L1.length := by omega
      have r1 := Nat.mod_lt k p1
      obtain ⟨K1, hK1⟩ : ∃ z, k % L1.length = z := ⟨_, rfl⟩
      have u1 : (k : Int) % (L1.length : Int) = (K1 : Int) := by rw [← hK1]; simp
      rw [hK1] at r1; clear hK1
      have t1 : (L1.take K1).length = K1 := by simp; omega
      have tw1 := Lib.hid (tn_cut (b := L1.take K1) f0 (by omega))
      replace hL1 := Lib.hid hL1; subst f1
      go_enter Try.func6, Try.ntmps6
      go_wp2_with fail
      refine (shown_any _).mono ?_; rintro e w1 ⟨rfl, hb⟩; replace ob := ob.ext hb; replace g := Lib.hid (bl_then g.out hb); clear hb
      go_wp2_with fail
      refine (c_num n _ 0 L1 _ hn.out hn'.out e1.out hL1.out).mono ?_; rintro e w2 ⟨⟨Ao1, co1, rfl, o1⟩, hb⟩; replace ob := ob.ext hb; replace g := Lib.hid (bl_then g.out hb); clear hb; replace o1 := o1.ok
      go_wp2_with fail
      refine (c_len n 1 L2 _ e2.out hL2).mono ?_; rintro e w3 ⟨⟨Ao2, co2, rfl, o2⟩, hb⟩; replace ob := ob.ext hb; replace o1 := o1.ext hb; replace g := Lib.hid (bl_then g.out hb); clear hb; replace o2 := o2.ok
      go_wp2_with fail
      refine (c_row A c x 0 L3 _ ob hE3.out hL3).mono ?_; rintro e w4 ⟨⟨Ao3, co3, rfl, o3⟩, hb⟩; replace ob := ob.ext hb; replace o1 := o1.ext hb; replace o2 := o2.ext hb; replace g := Lib.hid (bl_then g.out hb); clear hb; replace o3 := o3.ok
      obtain ⟨ad1, rfl⟩ := o1.ad p1
      have z1 := o1.2.1
      have n1 : ((L1.length : Int) == 0) = false := by rw [beq_eq_false_iff_ne]; omega
      have q1 := Lib.hid (c_takeNum _ co1 _ 0 _ 0 0 3 _ (o1.take K1) tw1.out.2.1 tw1.out.2.2 tw1.out.1); rw [t1] at q1
      obtain ⟨ad3, rfl⟩ := o3.ad p3
      have z3 := o3.2.1
      have n3 : ((L3.length : Int) == 0) = false := by rw [beq_eq_false_iff_ne]; omega
      have q3 := Lib.hid (c_takeRow _ co3 _ 0 1000 0 3 [] _ (o3.take K3) tw3.out.2.1 tw3.out.2.2 tw3.out.1); rw [t3] at q3
      go_wp2_with fail
      refine q1.out.mono ?_; rintro e w1 ⟨rfl, rfl⟩
      go_wp2_with fail
      refine q3.out.mono ?_; rintro e w9 ⟨⟨A9, c9, rfl, o9⟩, hb⟩; replace g := Lib.hid (bl_then g.out hb); clear hb o9
      go_wp2_with fail
      go_ret
      exact ⟨ret_bool (by simp), g.out⟩
    · replace e1 := Lib.hid e1
      replace e2 := Lib.hid e2
      have p2 : 0 < L2.length := by rw [← hL2]; exact lenL_pos e2.out
      have r2 := Nat.mod_lt k p2
      obtain ⟨K2, hK2⟩ : ∃ z, k % L2.length = z := ⟨_, rfl⟩
      have u2 : (k : Int) % (L2.length : Int) = (K2 : Int) := by rw [← hK2]; simp
      rw [hK2] at r2; clear hK2
      have t2 : (L2.take K2).length = K2 := by simp; omega
      have tw2 := Lib.hid (tl_cut3 (k := K2) e2.out (by rw [hL2]; exact r2)); rw [hL2] at tw2
      replace hL1 := Lib.hid hL1
      go_enter Try.func6, Try.ntmps6
      go_wp2_with fail
      refine (shown_any _).mono ?_; rintro e w1 ⟨rfl, hb⟩; replace ob := ob.ext hb; replace g := Lib.hid (bl_then g.out hb); clear hb
      go_wp2_with fail
      refine (c_num n _ 1 L1 _ hn.out hn'.out e1.out hL1.out).mono ?_; rintro e w2 ⟨⟨Ao1, co1, rfl, o1⟩, hb⟩; replace ob := ob.ext hb; replace g := Lib.hid (bl_then g.out hb); clear hb; replace o1 := o1.ok
      go_wp2_with fail
      refine (c_len n 0 L2 _ e2.out hL2).mono ?_; rintro e w3 ⟨⟨Ao2, co2, rfl, o2⟩, hb⟩; replace ob := ob.ext hb; replace o1 := o1.ext hb; replace g := Lib.hid (bl_then g.out hb); clear hb; replace o2 := o2.ok
      go_wp2_with fail
      refine (c_row A c x 0 L3 _ ob hE3.out hL3).mono ?_; rintro e w4 ⟨⟨Ao3, co3, rfl, o3⟩, hb⟩; replace ob := ob.ext hb; replace o1 := o1.ext hb; replace o2 := o2.ext hb; replace g := Lib.hid (bl_then g.out hb); clear hb; replace o3 := o3.ok
      obtain ⟨ad2, rfl⟩ := o2.ad p2
      have z2 := o2.2.1
      have n2 : ((L2.length : Int) == 0) = false := by rw [beq_eq_false_iff_ne]; omega
      have q2 := Lib.hid (c_takeLen _ co2 _ 0 0 0 3 _ (o2.take K2) tw2.out.2.1 tw2.out.2.2 tw2.out.1); rw [t2] at q2
      obtain ⟨ad3, rfl⟩ := o3.ad p3
      have z3 := o3.2.1
      have n3 : ((L3.length : Int) == 0) = false := by rw [beq_eq_false_iff_ne]; omega
      have q3 := Lib.hid (c_takeRow _ co3 _ 0 1000 0 3 [] _ (o3.take K3) tw3.out.2.1 tw3.out.2.2 tw3.out.1); rw [t3] at q3
      go_wp2_with fail
      refine q2.out.mono ?_; rintro e w1 ⟨rfl, rfl⟩
      go_wp2_with fail
      refine q3.out.mono ?_; rintro e w9 ⟨⟨A9, c9, rfl, o9⟩, hb⟩; replace g := Lib.hid (bl_then g.out hb); clear hb o9
      go_wp2_with fail
      go_ret
      exact ⟨ret_bool (by simp), g.out⟩
    · replace e1 := Lib.hid e1
      replace e2 := Lib.hid e2
      replace hL1 := Lib.hid hL1
      go_enter Try.func6, Try.ntmps6
      go_wp2_with fail
      refine (shown_any _).mono ?_; rintro e w1 ⟨rfl, hb⟩; replace ob := ob.ext hb; replace g := Lib.hid (bl_then g.out hb); clear hb
      go_wp2_with fail
      refine (c_num n _ 1 L1 _ hn.out hn'.out e1.out hL1.out).mono ?_; rintro e w2 ⟨⟨Ao1, co1, rfl, o1⟩, hb⟩; replace ob := ob.ext hb; replace g := Lib.hid (bl_then g.out hb); clear hb; replace o1 := o1.ok
      go_wp2_with fail
      refine (c_len n 1 L2 _ e2.out hL2).mono ?_; rintro e w3 ⟨⟨Ao2, co2, rfl, o2⟩, hb⟩; replace ob := ob.ext hb; replace o1 := o1.ext hb; replace g := Lib.hid (bl_then g.out hb); clear hb; replace o2 := o2.ok
      go_wp2_with fail
      refine (c_row A c x 0 L3 _ ob hE3.out hL3).mono ?_; rintro e w4 ⟨⟨Ao3, co3, rfl, o3⟩, hb⟩; replace ob := ob.ext hb; replace o1 := o1.ext hb; replace o2 := o2.ext hb; replace g := Lib.hid (bl_then g.out hb); clear hb; replace o3 := o3.ok
      obtain ⟨ad3, rfl⟩ := o3.ad p3
      have z3 := o3.2.1
      have n3 : ((L3.length : Int) == 0) = false := by rw [beq_eq_false_iff_ne]; omega
      have q3 := Lib.hid (c_takeRow _ co3 _ 0 1000 0 3 [] _ (o3.take K3) tw3.out.2.1 tw3.out.2.2 tw3.out.1); rw [t3] at q3
      go_wp2_with fail
      refine q3.out.mono ?_; rintro e w9 ⟨⟨A9, c9, rfl, o9⟩, hb⟩; replace g := Lib.hid (bl_then g.out hb); clear hb o9
      go_wp2_with fail
      go_ret
      exact ⟨ret_bool (by simp), g.out⟩
end Go.Proofs.Ytlcclaicodghcaa
