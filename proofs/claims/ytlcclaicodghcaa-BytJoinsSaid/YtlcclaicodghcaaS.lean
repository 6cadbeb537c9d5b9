import Derived.Test.YtlcclaicodghcaaM
namespace Go.Proofs.Ytlcclaicodghcaa
open Go.RowKit

theorem c_text (A : Option Addr) (c : Nat) (x : List UInt8) (t : ByteArray) (w : World) (hok : OkB w A c x) (hx : x.length ≤ 1000000) (ht : strOf (txt x) = t) :
    Calls Try.prog 31 #[.slice A x.length c] w fun e w' => e = .returned (.string t) ∧ Below w.heap.size w w' := by
  subst ht; exact text_any A c x w hok hx
theorem c_rtextS (A : Option Addr) (c : Nat) (x : List UInt8) (t : ByteArray) (w : World) (hok : OkB w A c x) (hx : x.length ≤ 1000000) (ht : strOf (txt x) = t) :
    Calls Try.prog 41 #[.slice A x.length c] w fun e w' => e = .returned (.string t) ∧ Below w.heap.size w w' := c_rtext A c x _ t w hok hx rfl ht
theorem c_bytes (s : ByteArray) (E : Int) (L : List UInt8) (w : World) (hs : s.size ≤ 1000000) (hE : byE s.data.toList = E) (hL : byL s.data.toList = L) :
    Calls Try.prog 32 #[.string s] w fun e w' => (∃ A c, e = .returned (.tuple #[.slice A L.length c, .int .i64 E]) ∧ OwnB w' w.heap.size A c L) ∧ Below w.heap.size w w' := by
  subst hE hL; exact bytes_any s w hs
theorem c_rbytes (s : ByteArray) (E : Int) (L : List UInt8) (w : World) (hs : s.size ≤ 1000000) (hE : byE s.data.toList = E) (hL : byL s.data.toList = L) :
    Calls Try.prog 38 #[.string s] w fun e w' => (∃ A c, e = .returned (.tuple #[.slice A L.length c, .int .i64 E]) ∧ OwnB w' w.heap.size A c L) ∧ Below w.heap.size w w' := by
  subst hE hL
  have e : strOf s.data.toList = s := by apply ByteArray.ext; simp [strOf]
  have := rbytes_any s.data.toList w (by rw [Array.length_toList]; exact hs)
  rwa [e] at this

set_option maxRecDepth 20000 in
set_option maxHeartbeats 2000000 in
theorem shown_any (w : World) : Calls Try.prog 19 #[] w fun e w' => e = .returned (.bool true) ∧ Below w.heap.size w w' := by
  obtain ⟨La, hLa⟩ : ∃ L : List UInt8, L = [37] := ⟨_, rfl⟩
  obtain ⟨Lb, hLb⟩ : ∃ L : List UInt8, L = [123, 189] := ⟨_, rfl⟩
  obtain ⟨Lc, hLc⟩ : ∃ L : List UInt8, L = [157, 127, 62, 125] := ⟨_, rfl⟩
  obtain ⟨Lr, hLr⟩ : ∃ L : List UInt8, L = [2, 1, 2] := ⟨_, rfl⟩
  have ea := Lib.hid (show lenE 37 = 0 from rfl)
  have eb := Lib.hid (show lenE 15293 = 0 from rfl)
  have ec := Lib.hid (show lenE 494878333 = 0 from rfl)
  have la := Lib.hid (show lenL 37 = La by rw [hLa]; rfl)
  have lb := Lib.hid (show lenL 15293 = Lb by rw [hLb]; decide)
  have lc := Lib.hid (show lenL 494878333 = Lc by rw [hLc]; decide)
  have er := Lib.hid (show rowE [1, 2] = 0 from rfl)
  have lr := Lib.hid (show rowL [1, 2] = Lr by rw [hLr]; rfl)
  have tn := Lib.hid (show tlN Lc 0 = 494878333 by rw [hLc]; decide)
  have tx := Lib.hid (show tlX Lc 0 = 4 by rw [hLc]; decide)
  have te := Lib.hid (show tlE Lc 0 = 0 by rw [hLc]; decide)
  have ta := Lib.hid (show strOf (txt La) = ⟨#[50, 53]⟩ by rw [hLa]; rfl)
  have tb := Lib.hid (show strOf (txt Lb) = ⟨#[55, 98, 98, 100]⟩ by rw [hLb]; rfl)
  have tc := Lib.hid (show strOf (txt Lc) = ⟨#[57, 100, 55, 102, 51, 101, 55, 100]⟩ by rw [hLc]; rfl)
  have tr := Lib.hid (show strOf (txt Lr) = ⟨#[48, 50, 48, 49, 48, 50]⟩ by rw [hLr]; rfl)
  have be := Lib.hid (show byE [57, 100, 55, 102, 51, 101, 55, 100] = 0 by decide)
  have bl := Lib.hid (show byL [57, 100, 55, 102, 51, 101, 55, 100] = Lc by rw [hLc]; decide)
  have na := Lib.hid (show La.length ≤ 1000000 by rw [hLa]; decide)
  have nb := Lib.hid (show Lb.length ≤ 1000000 by rw [hLb]; decide)
  have nc := Lib.hid (show Lc.length ≤ 1000000 by rw [hLc]; decide)
  have nr := Lib.hid (show Lr.length ≤ 1000000 by rw [hLr]; decide)
  have sm := Lib.hid (show (Lc == Lc) = true by simp)
  have g := Lib.hid (Below.refl w.heap.size w)
  clear hLa hLb hLc hLr
  go_enter Try.func19, Try.ntmps19
  go_wp2_with fail
  refine (c_len 37 0 La _ ea.out la.out).mono ?_; rintro e w1 ⟨⟨A1, c1, rfl, o1⟩, hb⟩; replace o1 := o1.ok; replace g := Lib.hid (bl_then g.out hb); clear hb
  go_wp2_with fail
  refine (c_len 15293 0 Lb _ eb.out lb.out).mono ?_; rintro e w2 ⟨⟨A2, c2, rfl, o2⟩, hb⟩; replace o1 := o1.ext hb; replace o2 := o2.ok; replace g := Lib.hid (bl_then g.out hb); clear hb
  go_wp2_with fail
  refine (c_len 494878333 0 Lc _ ec.out lc.out).mono ?_; rintro e w3 ⟨⟨A3, c3, rfl, o3⟩, hb⟩; replace o1 := o1.ext hb; replace o2 := o2.ext hb; replace o3 := o3.ok; replace g := Lib.hid (bl_then g.out hb); clear hb
  go_wp2_with fail
  have a4 := own_two w3 _ rfl 1 2
  refine (c_row _ 2 [1, 2] 0 Lr _ a4.ok er.out lr.out).mono ?_; rintro e w4 ⟨⟨A4, c4, rfl, o4⟩, hb⟩
  replace hb := bl_then (bl_alloc (Below.refl _ w3) (.cells #[.int .u8 1, .int .u8 2] 5)) hb
  replace o1 := o1.ext hb; replace o2 := o2.ext hb; replace o3 := o3.ext hb; replace o4 := o4.ok; replace g := Lib.hid (bl_then g.out hb); clear hb a4
  go_wp2_with fail
  refine (c_takeLen A3 c3 Lc 0 494878333 4 0 _ o3 tn.out tx.out te.out).mono ?_; rintro e w5 ⟨rfl, rfl⟩
  go_wp2_with fail
  refine (c_bytes _ 0 Lc _ (by decide) be.out bl.out).mono ?_; rintro e w6 ⟨⟨A6, c6, rfl, o6⟩, hb⟩
  replace o1 := o1.ext hb; replace o2 := o2.ext hb; replace o3 := o3.ext hb; replace o4 := o4.ext hb; replace o6 := o6.ok; replace g := Lib.hid (bl_then g.out hb); clear hb
  go_wp2_with fail
  refine (c_text A1 c1 La _ _ o1 na.out ta.out).mono ?_; rintro e w7 ⟨rfl, hb⟩
  replace o2 := o2.ext hb; replace o3 := o3.ext hb; replace o4 := o4.ext hb; replace o6 := o6.ext hb; replace g := Lib.hid (bl_then g.out hb); clear hb o1
  go_wp2_with fail
  refine (c_text A2 c2 Lb _ _ o2 nb.out tb.out).mono ?_; rintro e w8 ⟨rfl, hb⟩
  replace o3 := o3.ext hb; replace o4 := o4.ext hb; replace o6 := o6.ext hb; replace g := Lib.hid (bl_then g.out hb); clear hb o2
  go_wp2_with fail
  refine (c_text A3 c3 Lc _ _ o3 nc.out tc.out).mono ?_; rintro e w9 ⟨rfl, hb⟩
  replace o3 := o3.ext hb; replace o4 := o4.ext hb; replace o6 := o6.ext hb; replace g := Lib.hid (bl_then g.out hb); clear hb
  go_wp2_with fail
  refine (c_text A4 c4 Lr _ _ o4 nr.out tr.out).mono ?_; rintro e w10 ⟨rfl, hb⟩
  replace o3 := o3.ext hb; replace o6 := o6.ext hb; replace g := Lib.hid (bl_then g.out hb); clear hb o4
  go_wp2_with (go_at_call 24; refine (c_same A6 c6 Lc A3 c3 Lc _ o6 o3 true sm.out).mono ?_; rintro e w11 ⟨rfl, rfl⟩)
  go_ret
  exact ⟨rfl, g.out⟩
end Go.Proofs.Ytlcclaicodghcaa
