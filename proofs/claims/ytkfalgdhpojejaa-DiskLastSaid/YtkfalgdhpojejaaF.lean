import Derived.Test.YtkfalgdhpojejaaD
import Derived.Test.YtkfalgdhpojejaaB
namespace Go.Proofs.Ytkfalgdhpojejaa
open Go.RowKit

/-- Are two disks the same? -/
def sameD (B : List (List UInt8)) (P : List PutD) (f : Int) (B' : List (List UInt8)) (P' : List PutD) (f' : Int) : Bool :=
  decide (B = B') && (decide (P = P') && (max f (-1) == max f' (-1)))

set_option maxHeartbeats 1000000 in
theorem dsame_any (AB : Option Addr) (cb : Nat) (AP : Option Addr) (cp : Nat) (f : Int) (AB' : Option Addr) (cb' : Nat) (AP' : Option Addr) (cp' : Nat) (f' : Int) (w : World) (B : List (List UInt8)) (P : List PutD) (B' : List (List UInt8)) (P' : List PutD)
    (hB : RBB w AB B) (hP : RP w AP P) (hB' : RBB w AB' B') (hP' : RP w AP' P') (hlB : B.length ≤ 140737488351232) (hlP : P.length ≤ 140737488351232) :
    Calls Try.prog 18 #[.agg #[.slice AB B.length cb, .slice AP P.length cp, .int .i64 f], .agg #[.slice AB' B'.length cb', .slice AP' P'.length cp', .int .i64 f']] w fun e w' => e = .returned (.bool (sameD B P f B' P' f')) ∧ Below w.heap.size w w' := by
  have hb0 := bl_alloc (bl_alloc (Below.refl w.heap.size w) (.cells #[.slice AB B.length cb, .slice AP P.length cp, .int .i64 f] 25)) (.cells #[.slice AB' B'.length cb', .slice AP' P'.length cp', .int .i64 f'] 25)
  have HC := Lib.hid (equal39_any AB cb B AB' cb' B' _ hlB (hB.ext hb0) (hB'.ext hb0))
  have HC' := Lib.hid (equal40_any AP cp P AP' cp' P' _ hlP (hP.ext hb0) (hP'.ext hb0))
  have Hb0 := Lib.hid hb0
  clear hB hP hB' hP' hb0
  have Hs : Hid (sameD B P f B' P' f' = (decide (B = B') && (decide (P = P') && (max f (-1) == max f' (-1))))) := rfl
  generalize decide (B = B') = x at HC Hs
  generalize decide (P = P') = y at HC' Hs
  cases x
  · go_enter Try.func18, Try.ntmps18
    go_wp2_with (go_at_call 39; refine HC.out.mono ?_; rintro e w' ⟨rfl, rfl⟩)
    go_ret
    exact ⟨ret_bool (by rw [Hs]; rfl), Hb0.out⟩
  · cases y
    · go_enter Try.func18, Try.ntmps18
      go_wp2_with (first | (go_at_call 39; refine HC.out.mono ?_; rintro e w' ⟨rfl, rfl⟩) | (go_at_call 40; refine HC'.out.mono ?_; rintro e w' ⟨rfl, hb⟩; have Hb := Lib.hid hb; clear hb))
      go_ret
      exact ⟨ret_bool (by rw [Hs]; rfl), bl_then Hb0.out Hb.out⟩
    · go_enter Try.func18, Try.ntmps18
      go_wp2_with (first | (go_at_call 39; refine HC.out.mono ?_; rintro e w' ⟨rfl, rfl⟩) | (go_at_call 40; refine HC'.out.mono ?_; rintro e w' ⟨rfl, hb⟩; obtain ⟨hc, hf, hsz⟩ := bcell hb; have Hb := Lib.hid hb; clear hb hf))
      all_goals
        go_ret
        refine ⟨ret_bool ?_, bl_then Hb0.out Hb.out⟩
        rw [Hs]
        rw [Bool.true_and, Bool.true_and, Bool.eq_iff_iff]
        simp only [beq_iff_eq, true_iff]
        omega

/-- A callee that leaves the world alone, met behind draws of the round's and of the region's. -/
theorem quiet2 {P : Program} {f : FuncId} {args : Array Value} {w : World} {n m : Nat} {v : Value}
    (h : Calls P f args (w.drewN (n + m)) fun e w' => e = .returned v ∧ w' = w.drewN (n + m)) : Calls P f args (w.drewN (n + m)) fun e w'' => e = .returned v ∧ ∃ k, w'' = w.drewN (n + k) :=
  h.mono fun _ _ ⟨he, hm⟩ => ⟨he, m, hm⟩

theorem same_any' (A : Option Addr) (c : Nat) (x : List UInt8) (A' : Option Addr) (c' : Nat) (y : List UInt8) (w : World) (b : Bool) (hx : RB w A x) (hy : RB w A' y) (hb : (x == y) = b) :
    Calls Try.prog 21 #[.slice A x.length c, .slice A' y.length c'] w fun e w' => e = .returned (.bool b) ∧ w' = w :=
  (same_any A c x A' c' y w hx hy).mono fun _ _ h => ⟨by rw [h.1, hb], h.2.symm⟩

set_option maxHeartbeats 2000000 in
theorem rsame_any (AB : Option Addr) (cb : Nat) (AP : Option Addr) (cp : Nat) (f : Int) (AB' : Option Addr) (cb' : Nat) (AP' : Option Addr) (cp' : Nat) (f' : Int) (w : World) (B : List (List UInt8)) (P : List PutD) (B' : List (List UInt8)) (P' : List PutD)
    (hB : RBB w AB B) (hP : RP w AP P) (hB' : RBB w AB' B') (hP' : RP w AP' P') (hlB : B.length ≤ 140737488351232) (hlP : P.length ≤ 140737488351232) :
    Calls Try.prog 15 #[.agg #[.slice AB B.length cb, .slice AP P.length cp, .int .i64 f], .agg #[.slice AB' B'.length cb', .slice AP' P'.length cp', .int .i64 f']] w fun e w' => e = .returned (.bool (sameD B P f B' P' f')) ∧ Below w.heap.size w w' := by
  have HB := Lib.hid hB
  have HP := Lib.hid hP
  have HB' := Lib.hid hB'
  have HP' := Lib.hid hP'
  have Hb0 := Lib.hid (bl_alloc (bl_alloc (Below.refl w.heap.size w) (.cells #[.slice AB B.length cb, .slice AP P.length cp, .int .i64 f] 25)) (.cells #[.slice AB' B'.length cb', .slice AP' P'.length cp', .int .i64 f'] 25))
  clear hB hP hB' hP'
  cases h1 : ((B.length : Int) != (B'.length : Int))
  case' true =>
    have Hs : Hid (sameD B P f B' P' f' = false) := by
      show _ = _
      unfold sameD; rw [decide_eq_false (by rintro rfl; simp at h1)]; rfl
    go_enter Try.func15, Try.ntmps15
    go_wp2_with fail
    go_ret
    exact ⟨ret_bool (by rw [Hs.out]), Hb0.out⟩
  case' false =>
    have Hl1 : Hid (B.length = B'.length) := by show _ = _; simp at h1; omega
    cases h2 : ((P.length : Int) != (P'.length : Int))
    case' true =>
      have Hs : Hid (sameD B P f B' P' f' = false) := by
        show _ = _
        unfold sameD; rw [decide_eq_false (p := P = P') (by rintro rfl; simp at h2)]; simp
      go_enter Try.func15, Try.ntmps15
      go_wp2_with fail
      go_ret
      exact ⟨ret_bool (by rw [Hs.out]), Hb0.out⟩
    case' false =>
      have Hl2 : Hid (P.length = P'.length) := by show _ = _; simp at h2; omega
      cases h3 : (f != f')
      case' true =>
        cases h4 : decide (0 ≤ f)
        case' true =>
          have Hs : Hid (sameD B P f B' P' f' = false) := by
            show _ = _
            have e1 := of_decide_eq_true h4
            have e2 : ¬ f = f' := by simpa using h3
            have : (max f (-1) == max f' (-1)) = false := by rw [beq_eq_false_iff_ne]; omega
            unfold sameD; rw [this]; simp
          have h4' := of_decide_eq_true h4
          clear h4
          go_enter Try.func15, Try.ntmps15
          go_wp2_with fail
          go_ret
          exact ⟨ret_bool (by rw [Hs.out]), Hb0.out⟩
        case' false =>
          cases h5 : decide (0 ≤ f')
          case' true =>
            have Hs : Hid (sameD B P f B' P' f' = false) := by
              show _ = _
              have e1 := of_decide_eq_true h5
              have e2 : ¬ f = f' := by simpa using h3
              have : (max f (-1) == max f' (-1)) = false := by rw [beq_eq_false_iff_ne]; omega
              unfold sameD; rw [this]; simp
            have h4' := of_decide_eq_false h4
            have h5' := of_decide_eq_true h5
            clear h4 h5
            go_enter Try.func15, Try.ntmps15
            go_wp2_with fail
            go_ret
            exact ⟨ret_bool (by rw [Hs.out]), Hb0.out⟩
          case' false =>
            have Hf : Hid ((max f (-1) == max f' (-1)) = true) := by
              show _ = _
              have e1 := of_decide_eq_false h4
              have e2 := of_decide_eq_false h5
              rw [beq_iff_eq]; omega
            have h4' := of_decide_eq_false h4
            have h5' := of_decide_eq_false h5
            clear h4 h5
      case' false =>
        have Hf : Hid ((max f (-1) == max f' (-1)) = true) := by
          show _ = _
          have : f = f' := by simpa using h3
          rw [this]; simp
      all_goals
        have Hs : Hid (sameD B P f B' P' f' = (decide (B = B') && decide (P = P'))) := by
          show _ = _
          unfold sameD; rw [Hf.out]; simp
        go_enter Try.func15, Try.ntmps15
        go_wp2_with fail
        go_loopw [5] (fun i wr => ∃ k : Nat, k ≤ B.length ∧ i = .int .i64 k ∧ Eqto B B' k ∧ ∃ n, wr = ((w.alloc (.cells #[.slice AB B.length cb, .slice AP P.length cp, .int .i64 f] 25)).alloc (.cells #[.slice AB' B'.length cb', .slice AP' P'.length cp', .int .i64 f'] 25)).drewN n) (fun i _ => B.length - (intOf i).toNat)
        case atStart => exact ⟨0, Nat.zero_le _, rfl, Eqto.zero _ _, 0, rfl⟩
        case round =>
          obtain ⟨k, hk, rfl, Hr, n, rfl⟩ := hrel
          by_cases hlt : k < B.length
          · have hlt' : k < B'.length := by have := Hl1.out; omega
            obtain ⟨b, off, rfl, A1, c1, hv1, hl1, hl2, hR1⟩ := HB.out.some_ hlt
            obtain ⟨b', off', rfl, A2, c2, hv2, hl3, hl4, hR2⟩ := HB'.out.some_ hlt'
            replace hv1 := cell_ext Hb0.out hv1
            replace hv2 := cell_ext Hb0.out hv2
            have HR1 := Lib.hid hR1
            have HR2 := Lib.hid hR2
            clear hR1 hR2 hl1 hl2 hl3 hl4
            cases he : B[k] == B'[k]
            · have He := Lib.hid he
              have Hq := Lib.hid (ne_at hlt hlt' (fun e => by rw [e] at he; simp at he))
              clear he
              go_wp2_with fail
              go_quiet ((go_at_call 21; exact quiet2 (same_any' _ _ _ _ _ _ _ false (HR1.out.ext (by repeat (first | exact Hb0.out | apply bl_drewN))) (HR2.out.ext (by repeat (first | exact Hb0.out | apply bl_drewN))) He.out)))
              go_wp2_with fail
              go_ret
              exact ⟨ret_bool (by rw [Hs.out, decide_eq_false Hq.out]; rfl), by repeat (first | exact Hb0.out | apply bl_drewN)⟩
            · have He := Lib.hid he
              have Hq := Lib.hid (eq_of_beq he)
              clear he
              go_wp2_with fail
              go_quiet ((go_at_call 21; exact quiet2 (same_any' _ _ _ _ _ _ _ true (HR1.out.ext (by repeat (first | exact Hb0.out | apply bl_drewN))) (HR2.out.ext (by repeat (first | exact Hb0.out | apply bl_drewN))) He.out)))
              go_wp2_with fail
              go_roundw
              case rel => exact ⟨k + 1, by omega, by go_num, Hr.succ hlt hlt' Hq.out, _, rfl⟩
              case measure => simp [intOf]; omega
          · have He := Lib.hid (Hr.eq Hl1.out (Nat.le_of_not_lt hlt))
            go_wp2_with fail
            go_loopw [6] (fun i wr => ∃ k : Nat, k ≤ P.length ∧ i = .int .i64 k ∧ Eqto P P' k ∧ ∃ n, wr = ((w.alloc (.cells #[.slice AB B.length cb, .slice AP P.length cp, .int .i64 f] 25)).alloc (.cells #[.slice AB' B'.length cb', .slice AP' P'.length cp', .int .i64 f'] 25)).drewN n) (fun i _ => P.length - (intOf i).toNat)
            case atStart => exact ⟨0, Nat.zero_le _, rfl, Eqto.zero _ _, n, rfl⟩
            case round =>
              obtain ⟨k, hk, rfl, Hr, n, rfl⟩ := hrel
              by_cases hlt : k < P.length
              · have hlt' : k < P'.length := by have := Hl2.out; omega
                obtain ⟨b, off, rfl, hv0, A1, c1, hv1, hl1, hl2, hR1⟩ := HP.out.some_ hlt
                obtain ⟨b', off', rfl, hv2, A2, c2, hv3, hl3, hl4, hR2⟩ := HP'.out.some_ hlt'
                replace hv0 := cell_ext Hb0.out hv0
                replace hv1 := cell_ext Hb0.out hv1
                replace hv2 := cell_ext Hb0.out hv2
                replace hv3 := cell_ext Hb0.out hv3
                have HR1 := Lib.hid hR1
                have HR2 := Lib.hid hR2
                clear hR1 hR2 hl1 hl2 hl3 hl4
                cases hi : P[k].1 != P'[k].1
                · cases he : P[k].2 == P'[k].2
                  · have He' := Lib.hid he
                    have Hq := Lib.hid (ne_at hlt hlt' (fun e => by rw [e] at he; simp at he))
                    clear he
                    go_wp2_with fail
                    go_quiet ((go_at_call 21; exact quiet2 (same_any' _ _ _ _ _ _ _ false (HR1.out.ext (by repeat (first | exact Hb0.out | apply bl_drewN))) (HR2.out.ext (by repeat (first | exact Hb0.out | apply bl_drewN))) He'.out)))
                    go_wp2_with fail
                    go_ret
                    exact ⟨ret_bool (by rw [Hs.out, decide_eq_false Hq.out, Bool.and_false]), by repeat (first | exact Hb0.out | apply bl_drewN)⟩
                  · have He' := Lib.hid he
                    have Hq : Hid (P[k] = P'[k]) := Prod.ext (by simpa using hi) (eq_of_beq he)
                    clear he
                    go_wp2_with fail
                    go_quiet ((go_at_call 21; exact quiet2 (same_any' _ _ _ _ _ _ _ true (HR1.out.ext (by repeat (first | exact Hb0.out | apply bl_drewN))) (HR2.out.ext (by repeat (first | exact Hb0.out | apply bl_drewN))) He'.out)))
                    go_wp2_with fail
                    go_roundw
                    case rel => exact ⟨k + 1, by omega, by go_num, Hr.succ hlt hlt' Hq.out, _, rfl⟩
                    case measure => simp [intOf]; omega
                · have Hq := Lib.hid (ne_at hlt hlt' (fun e => by rw [e] at hi; simp at hi))
                  go_wp2_with fail
                  go_quiet (fail)
                  go_wp2_with fail
                  go_ret
                  exact ⟨ret_bool (by rw [Hs.out, decide_eq_false Hq.out, Bool.and_false]), by repeat (first | exact Hb0.out | apply bl_drewN)⟩
              · have He' := Lib.hid (Hr.eq Hl2.out (Nat.le_of_not_lt hlt))
                go_wp2_with fail
                go_ret
                exact ⟨ret_bool (by rw [Hs.out, decide_eq_true He.out, decide_eq_true He'.out]; rfl), by repeat (first | exact Hb0.out | apply bl_drewN)⟩
end Go.Proofs.Ytkfalgdhpojejaa
