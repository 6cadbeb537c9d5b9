import Derived.Test.YtkfalgdhpojejaaK
import Derived.Test.YtkfalgdhpojejaaE
import Derived.Test.YtkfalgdhpojejaaF
namespace Go.Proofs.Ytkfalgdhpojejaa
open Go.RowKit

set_option maxHeartbeats 400000 in
theorem may_any (AB : Option Addr) (cb : Nat) (AP : Option Addr) (cp : Nat) (f m : Int) (w : World) (B : List (List UInt8)) (P : List PutD) (hB : RBB w AB B) (hP : RP w AP P) (hlB : B.length ≤ 140737488351232) (hlP : P.length ≤ 140737488351232) :
    Calls Try.prog 22 #[.agg #[.slice AB B.length cb, .slice AP P.length cp, .int .i64 f], .int .i64 m] w fun e w' => e = .returned (.bool (smallD B P m && rightD B P)) ∧ Below w.heap.size w w' := by
  have Hb0 := Lib.hid (bl_alloc (Below.refl w.heap.size w) (.cells #[.slice AB B.length cb, .slice AP P.length cp, .int .i64 f] 25))
  have HC := Lib.hid (small_any AB cb AP cp f m _ B P (hB.ext Hb0.out) (hP.ext Hb0.out) hlB hlP)
  have HB := Lib.hid hB
  have HP := Lib.hid hP
  clear hB hP
  cases h : smallD B P m
  · rw [h] at HC
    go_enter Try.func22, Try.ntmps22
    go_wp2_with (go_at_call 11; refine HC.out.mono ?_; rintro e w1 ⟨rfl, hb⟩; obtain ⟨hc1, hf1, hs1⟩ := bcell hb; have Hb1 := Lib.hid hb; clear hb)
    go_ret
    exact ⟨rfl, bl_then Hb0.out Hb1.out⟩
  · rw [h] at HC
    go_enter Try.func22, Try.ntmps22
    go_wp2_with (first | (go_at_call 11; refine HC.out.mono ?_; rintro e w1 ⟨rfl, hb⟩; obtain ⟨hc1, hf1, hs1⟩ := bcell hb; have Hb1 := Lib.hid hb; clear hb) | (go_at_call 14; refine (rright_any AB cb AP cp f _ B P (HB.out.ext (bl_then Hb0.out Hb1.out)) (HP.out.ext (bl_then Hb0.out Hb1.out)) hlB hlP).mono ?_; rintro e w2 ⟨rfl, hb⟩; have Hb2 := Lib.hid hb; clear hb))
    go_ret
    exact ⟨ret_bool (by simp), bl_then (bl_then Hb0.out Hb1.out) Hb2.out⟩

/-- The block that is read. -/
def readTo (B : List (List UInt8)) (P : List PutD) (at_ : Int) : Nat → List UInt8
  | 0 => B.getD at_.toNat []
  | k + 1 => if (P.getD k (0, [])).1 = at_ then (P.getD k (0, [])).2 else readTo B P at_ k
def readE (B : List (List UInt8)) (f at_ : Int) : Int := if 0 ≤ at_ ∧ at_ < B.length then (if f = 0 then 13 else 0) else 1
def readB (B : List (List UInt8)) (P : List PutD) (f at_ : Int) : List UInt8 := if readE B f at_ = 0 then readTo B P at_ P.length else []
theorem readTo_succ {B : List (List UInt8)} {P : List PutD} {at_ : Int} {k : Nat} (hk : k < P.length) : readTo B P at_ (k + 1) = if P[k].1 = at_ then P[k].2 else readTo B P at_ k := by
  rw [readTo, show P.getD k (0, []) = P[k] by simp [hk]]

set_option maxHeartbeats 1000000 in
theorem rread_any (φ : Nat → Prop) (AB : Option Addr) (cb : Nat) (AP : Option Addr) (cp : Nat) (f at_ : Int) (w : World) (B : List (List UInt8)) (P : List PutD) (hB : RBBF φ w AB B) (hP : RPF φ w AP P) (hlB : B.length ≤ 140737488351232) (hlP : P.length ≤ 140737488351232) :
    Calls Try.prog 20 #[.agg #[.slice AB B.length cb, .slice AP P.length cp, .int .i64 f], .int .i64 at_] w fun e w' =>
      (∃ v, e = .returned (.tuple #[v, .int .i64 (readE B f at_)]) ∧ VBF φ w' v (readB B P f at_)) ∧ Below w.heap.size w w' := by
  have HB := Lib.hid hB
  have HP := Lib.hid hP
  have Hb0 := Lib.hid (bl_alloc (Below.refl w.heap.size w) (.cells #[.slice AB B.length cb, .slice AP P.length cp, .int .i64 f] 25))
  clear hB hP
  by_cases h1 : 0 ≤ at_ ∧ at_ < B.length
  · cases h2 : f == 0
    case' true =>
      have hE : readE B f at_ = 13 := by unfold readE; rw [if_pos h1, if_pos (eq_of_beq h2)]
      have hB : readB B P f at_ = [] := by unfold readB; rw [hE]; rfl
      rw [hE, hB]
      obtain ⟨h3, h4⟩ := h1
      clear hE hB
      go_enter Try.func20, Try.ntmps20
      go_wp2_with fail
      go_ret2
      exact ⟨⟨_, rfl, none, 0, rfl, Nat.le_refl _, Nat.zero_le _, .inl rfl⟩, Hb0.out⟩
    case' false =>
      have hE : readE B f at_ = 0 := by unfold readE; rw [if_pos h1, if_neg (ne_of_beq_false h2)]
      have hB : readB B P f at_ = readTo B P at_ P.length := by unfold readB; rw [hE]; rfl
      rw [hE, hB]
      obtain ⟨h3, h4⟩ := h1
      clear hE hB
      have hat : at_.toNat < B.length := by omega
      have hx : ∃ b off, AB = some ⟨b, off, none⟩ ∧ ∃ A' c', w.cell? ⟨b, off + at_.toNat, none⟩ = some (.slice A' B[at_.toNat].length c') ∧ VBF φ w (.slice A' B[at_.toNat].length c') B[at_.toNat] := by
        rcases HB.out with rfl | ⟨b, off, _, e1, e2⟩
        · simp at hat
        · obtain ⟨v, e3, A', c', rfl, e4⟩ := e2 _ hat
          exact ⟨b, off, e1, A', c', e3, A', c', rfl, e4⟩
      obtain ⟨b, off, rfl, A', c', hv, hR⟩ := hx
      have HR : Hid (VBF φ w (.slice A' B[at_.toNat].length c') (readTo B P at_ 0)) := by
        show VBF _ _ _ _
        rw [readTo, show B.getD at_.toNat [] = B[at_.toNat] by simp [hat]]; exact hR
      replace hv := cell_ext Hb0.out hv
      clear hR
      go_enter Try.func20, Try.ntmps20
      go_wp2_with fail
      go_loop [6, 7] (fun v i => ∃ k : Nat, k ≤ P.length ∧ i = .int .i64 k ∧ ∃ A n c, v = .slice A n c ∧ Hid (VBF φ w (.slice A n c) (readTo B P at_ k))) (fun _ i => P.length - (intOf i).toNat)
      case atStart => exact ⟨0, Nat.zero_le _, rfl, _, _, _, rfl, HR⟩
      case round =>
        obtain ⟨k, hk, rfl, A, n, c, rfl, Hr⟩ := hrel
        by_cases hlt : k < P.length
        · obtain ⟨b', off', rfl, hv0, A2, c2, hv1, hR⟩ := HP.out.some_ hlt
          have HR2 := Lib.hid hR
          replace hv0 := cell_ext Hb0.out hv0
          replace hv1 := cell_ext Hb0.out hv1
          clear hR
          cases h5 : P[k].1 == at_
          · have H5 := Lib.hid (ne_of_beq_false h5)
            go_wp2_with fail
            go_round
            case rel => exact ⟨k + 1, by omega, by go_num, _, _, _, rfl, by rw [readTo_succ hlt, if_neg H5.out]; exact Hr⟩
            case measure => simp [intOf]; omega
          · have H5 := Lib.hid (eq_of_beq h5)
            go_wp2_with fail
            go_round
            case rel => exact ⟨k + 1, by omega, by go_num, _, _, _, rfl, by rw [readTo_succ hlt, if_pos H5.out]; exact HR2.out⟩
            case measure => simp [intOf]; omega
        · have HE : Hid (k = P.length) := by show _ = _; omega
          have HV : Hid (VBF φ w (.slice A n c) (readTo B P at_ P.length)) := by rw [← HE.out]; exact Hr
          go_wp2_with fail
          go_ret2
          exact ⟨⟨_, rfl, VBF.kept HV.out (Kept.below _ Hb0.out)⟩, Hb0.out⟩
  · have hE : readE B f at_ = 1 := by unfold readE; rw [if_neg h1]
    have hB : readB B P f at_ = [] := by unfold readB; rw [hE]; rfl
    rw [hE, hB]
    have hd : at_ < 0 ∨ (0 ≤ at_ ∧ B.length ≤ at_) := by omega
    clear h1 hE hB
    rcases hd with hd | ⟨hd, hd'⟩
    all_goals
      go_enter Try.func20, Try.ntmps20
      go_wp2_with fail
      go_ret2
      exact ⟨⟨_, rfl, none, 0, rfl, Nat.le_refl _, Nat.zero_le _, .inl rfl⟩, Hb0.out⟩
end Go.Proofs.Ytkfalgdhpojejaa
