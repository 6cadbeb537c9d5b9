import Derived.Test.YtlcclaicodghcaaCx
import Derived.Test.YtlcclaicodghcaaPj
namespace Go.Proofs.Ytlcclaicodghcaa
open Go.RowKit

set_option maxRecDepth 20000 in
set_option maxHeartbeats 4000000 in
theorem kCovers_any (v r : Int) (AS : Option Addr) (cS : Nat) (S : List UInt8) (AN : Option Addr) (cN : Nat) (N : List UInt8) (AT : Option Addr) (cT : Nat) (T : List SectD) (w : World) (hH : OkH w AS cS S AN cN N AT T) : Calls Try.prog 15 #[.agg #[.int .i64 v, .slice AS S.length cS, .int .i64 r, .slice AN N.length cN, .slice AT T.length cT]] w fun e w' => e = .returned (.bool true) ∧ Below w.heap.size w w' := by
  cases hf : fewH S N T 20000
  · replace hf := Lib.hid hf
    have k := Lib.hid (OneH.new v r AS cS S AN cN N AT cT T hH)
    replace hH := Lib.hid hH
    go_enter Try.func15, Try.ntmps15
    go_wp2_with fail
    refine (shown17 _).mono ?_; rintro e w1 ⟨rfl, hb⟩
    replace k := Lib.hid (k.out.ext hb)
    clear hb
    have ca := (blk_facts k.out.2.1).1
    go_wp2_with fail
    refine (few_any v r AS cS S AN cN N AT cT T 20000 _ k.out.ha false hf.out).mono ?_; rintro e w2 ⟨rfl, hb⟩
    clear ca
    replace k := Lib.hid (k.out.ext hb)
    clear hb
    have ca := (blk_facts k.out.2.1).1
    go_wp2_with fail
    go_ret
    exact ⟨rfl, k.out.1⟩
  cases hr : rightH v S r N T
  · replace hf := Lib.hid hf; replace hr := Lib.hid hr
    have k := Lib.hid (OneH.new v r AS cS S AN cN N AT cT T hH)
    replace hH := Lib.hid hH
    go_enter Try.func15, Try.ntmps15
    go_wp2_with fail
    refine (shown17 _).mono ?_; rintro e w1 ⟨rfl, hb⟩
    replace k := Lib.hid (k.out.ext hb)
    clear hb
    have ca := (blk_facts k.out.2.1).1
    go_wp2_with fail
    refine (few_any v r AS cS S AN cN N AT cT T 20000 _ k.out.ha true hf.out).mono ?_; rintro e w2 ⟨rfl, hb⟩
    clear ca
    replace k := Lib.hid (k.out.ext hb)
    clear hb
    have ca := (blk_facts k.out.2.1).1
    go_wp2_with fail
    refine (rright_any v r AS cS S AN cN N AT cT T _ k.out.ha false hr.out).mono ?_; rintro e w3 ⟨rfl, hb⟩
    clear ca
    replace k := Lib.hid (k.out.ext hb)
    clear hb
    have ca := (blk_facts k.out.2.1).1
    go_wp2_with fail
    go_ret
    exact ⟨rfl, k.out.1⟩
  have hR := rightH_iff.1 hr
  have hEL := (writeL_right hr).1
  obtain ⟨L, hL⟩ : ∃ z, writeL v S r N T = z := ⟨_, rfl⟩
  have hn9 : L.length ≤ 100000 := by rw [← hL]; exact writeL_len
  have hl1 : ∀ s, s < T.length → 1 ≤ lenS T s := fun s h => by have h9 := okS_iff.1 (right_ok hR.2.2.2.2.2.2.2 h); rw [lenS_at h]; omega
  have hlI : ∀ s, (h : s < T.length) → T[s].2.2 = (lenS T s : Int) := fun s h => by have h9 := okS_iff.1 (right_ok hR.2.2.2.2.2.2.2 h); rw [lenS_at h]; omega
  have hl2 := lenS_le hR.2.2.2.2.2.2.2
  have hsl := startP_le T L.length hl2
  have h64 := hR.2.2.2.2.2.2.1
  have hrt := Lib.hid hR.2.2.2.2.2.2.2
  obtain ⟨mt, hmt⟩ : ∃ z, startP T L.length T.length + 32 = z := ⟨_, rfl⟩
  have hlp := piecesP_len T L.length hl2 T.length
  have hcs := cov_start (n0 := L.length) hl1
  have hcp := fun i s p a lf => cov_piece (T := T) (n0 := L.length) (i := i) (s := s) (p := p) (a := a) (lf := lf)
  have hct := fun i s p a lf => cov_lt (T := T) (n0 := L.length) (i := i) (s := s) (p := p) (a := a) (lf := lf)
  have hcf := fun i s p a lf => cov_full (T := T) (n0 := L.length) (i := i) (s := s) (p := p) (a := a) (lf := lf)
  have hcl := fun i s p a lf => cov_last (T := T) (n0 := L.length) (i := i) (s := s) (p := p) (a := a) (lf := lf) hl1
  have hce := fun i s p a lf => cov_end (T := T) (n0 := L.length) (i := i) (s := s) (p := p) (a := a) (lf := lf)
  obtain ⟨P, hP⟩ : ∃ z, piecesP T L.length T.length = z := ⟨_, rfl⟩
  have hcp' : ∀ i s p a lf, CovAt T L.length i s p a lf → (hi : i < P.length) → 1 ≤ lf ∧ a = startP T L.length s + p * 288 ∧ P[i] = (s, p, decide (lf ≤ 256), a, min lf 256 + 32) := by subst hP; exact hcp
  rw [hP] at hlp hct hcf hcl hce
  have hp9 : P.length ≤ 300000 := by omega
  replace hEL := Lib.hid hEL
  replace hL := Lib.hid hL
  replace hl1 := Lib.hid hl1
  replace hlI := Lib.hid hlI
  replace hl2 := Lib.hid hl2
  replace hsl := Lib.hid hsl
  replace hmt := Lib.hid hmt
  replace hP := Lib.hid hP
  replace hcs := Lib.hid hcs
  replace hcp' := Lib.hid hcp'
  replace hct := Lib.hid hct
  replace hcf := Lib.hid hcf
  replace hcl := Lib.hid hcl
  replace hce := Lib.hid hce
  replace hf := Lib.hid hf
  replace hr := Lib.hid hr
  clear hR hlp hcp
  by_cases hT0 : T.length = 0
  · have hc0 : Hid (CovAt T L.length 0 0 0 L.length 0) := by have h := hcs.out; rwa [show lenS T 0 = 0 by unfold lenS; rw [List.eq_nil_of_length_eq_zero hT0]; rfl] at h
    have hP0 : P.length = 0 := by rw [← hP.out, hT0]; rfl
    replace hT0 := Lib.hid hT0
    replace hP0 := Lib.hid hP0
    have hT0I : ¬ (0 : Int) < (T.length : Int) := by have h9 := hT0.out; omega
    clear hcs
    have k := Lib.hid (OneH.new v r AS cS S AN cN N AT cT T hH)
    replace hH := Lib.hid hH
    go_enter Try.func15, Try.ntmps15
    go_wp2_with fail
    refine (shown17 _).mono ?_; rintro e w1 ⟨rfl, hb⟩
    replace k := Lib.hid (k.out.ext hb)
    clear hb
    have ca := (blk_facts k.out.2.1).1
    go_wp2_with fail
    refine (few_any v r AS cS S AN cN N AT cT T 20000 _ k.out.ha true hf.out).mono ?_; rintro e w2 ⟨rfl, hb⟩
    clear ca
    replace k := Lib.hid (k.out.ext hb)
    clear hb
    have ca := (blk_facts k.out.2.1).1
    go_wp2_with fail
    refine (rright_any v r AS cS S AN cN N AT cT T _ k.out.ha true hr.out).mono ?_; rintro e w3 ⟨rfl, hb⟩
    clear ca
    replace k := Lib.hid (k.out.ext hb)
    clear hb
    have ca := (blk_facts k.out.2.1).1
    go_wp2_with fail
    refine (c_write v r AS cS S AN cN N AT cT T 0 L _ k.out.ha hEL.out hL.out).mono ?_; rintro e w4 ⟨⟨A3, c3, rfl, o3⟩, hb⟩
    clear o3
    clear ca
    replace k := Lib.hid (k.out.ext hb)
    clear hb
    have ca := (blk_facts k.out.2.1).1
    go_wp2_with fail
    refine (pieces_any v r AS cS S AN cN N AT cT T _ k.out.ha hr.out L.length (by rw [hL.out]) (by omega)).mono ?_; rw [hP.out]; rintro e w5 ⟨⟨A5, c5, rfl, o5⟩, hb⟩
    clear ca
    replace o5 := Lib.hid (OwnV.rp o5)
    replace k := Lib.hid (k.out.ext hb)
    clear hb
    have ca := (blk_facts k.out.2.1).1
    go_wp2_with fail
    go_loopw [7, 8, 9, 10, 11] (fun va vs vp vl vi wr => ∃ j s p a lf : Nat, j ≤ P.length ∧ vi = .int .i64 j ∧ vs = .int .i64 s ∧ vp = .int .i64 p ∧ va = .int .i64 a ∧ vl = .int .i64 lf ∧ Hid (CovAt T L.length j s p a lf) ∧ Hid (Below w5.heap.size w5 wr)) (fun _ _ _ _ vi _ => P.length - (intOf vi).toNat)
    case atStart => exact ⟨0, 0, 0, L.length, 0, Nat.zero_le _, rfl, rfl, rfl, rfl, rfl, hc0, Below.refl _ _⟩
    case round =>
      obtain ⟨j, s, p, a, lf, hj, rfl, rfl, rfl, rfl, rfl, hC, Hb⟩ := hrel
      have k1 := Lib.hid (k.out.ext Hb.out)
      have ca := (blk_facts k1.out.2.1).1
      by_cases hp : j < P.length
      · obtain ⟨bk, off, hA5, y0, y1, y2, y3, y4⟩ := (o5.out.ext Hb.out).some_ hp
        subst hA5
        have hs := hct.out j s p a lf hC.out hp
        obtain ⟨hlf, hae, hpe⟩ := hcp'.out j s p a lf hC.out hp
        have hlf9 : lf ≤ 1048576 := by have h9 := hl2.out s; have h8 := (hC.out.2.2.2.1 hs).2; omega
        have hp8 : p ≤ 1048576 := by have h9 := hl2.out s; have h8 := (hC.out.2.2.2.1 hs).2; omega
        have ha9 : a ≤ 1000000000 := by have h9 := hsl.out s; omega
        rw [hpe] at y0 y1 y2 y3 y4
        clear hpe hae
        by_cases hl : lf ≤ 256
        · have hd : decide (lf ≤ 256) = true := decide_eq_true hl
          have hmn : min lf 256 = lf := by omega
          have hmI : min (lf : Int) 256 = (lf : Int) := by omega
          have hlI2 : (lf : Int) ≤ 256 := by omega
          rw [hd] at y2; rw [hmn] at y4
          simp only at y0 y1 y2 y3 y4
          have hnl := fun l' hl' => hcl.out j s p a lf hC.out hp hl l' hl'
          obtain ⟨q, hq⟩ : ∃ q, lf + 32 = q := ⟨_, rfl⟩
          rw [hq] at y4 hnl
          replace hnl := Lib.hid hnl
          have hqI : (q : Int) - 32 = (lf : Int) := by omega
          have hq1 : 33 ≤ q := by omega
          have hq2 : q ≤ 288 := by omega
          replace hq := Lib.hid hq
          have ga := bl_alloc (Below.refl wr.heap.size wr) (.cells #[.int .i64 s, .int .i64 p, .bool true, .int .i64 a, .int .i64 q] 94)
          have Hb1 := Lib.hid (bl_then Hb.out ga)
          have k2 := Lib.hid (k1.out.ext ga)
          have h9 := hP0.out; omega
        · have h9 := hP0.out; omega
      · have hje : j = P.length := by omega
        obtain ⟨e1, e2⟩ := hce.out j s p a lf hC.out hje
        subst hje e1
        have hmtI : (a : Int) + 32 = (mt : Int) := by have h9 := hmt.out; omega
        have ha9 : a ≤ 1000000000 := by have h9 := hsl.out T.length; omega
        clear e2
        go_wp2_with fail
        refine (total_any v r AS cS S AN cN N AT cT T _ k1.out.ha h64 hrt.out L.length (by rw [hL.out]) (by omega) mt hmt.out).mono ?_; rintro e w7 ⟨rfl, hb⟩
        replace k1 := Lib.hid (k1.out.ext hb)
        clear hb ca
        go_wp2_with fail
        go_ret
        exact ⟨ret_bool (by simp), k1.out.1⟩
  · have hT1 : 0 < T.length := by omega
    have hc0 := hcs
    clear hcs
    have k := Lib.hid (OneH.new v r AS cS S AN cN N AT cT T hH)
    replace hH := Lib.hid hH
    go_enter Try.func15, Try.ntmps15
    go_wp2_with fail
    refine (shown17 _).mono ?_; rintro e w1 ⟨rfl, hb⟩
    replace k := Lib.hid (k.out.ext hb)
    clear hb
    have ca := (blk_facts k.out.2.1).1
    go_wp2_with fail
    refine (few_any v r AS cS S AN cN N AT cT T 20000 _ k.out.ha true hf.out).mono ?_; rintro e w2 ⟨rfl, hb⟩
    clear ca
    replace k := Lib.hid (k.out.ext hb)
    clear hb
    have ca := (blk_facts k.out.2.1).1
    go_wp2_with fail
    refine (rright_any v r AS cS S AN cN N AT cT T _ k.out.ha true hr.out).mono ?_; rintro e w3 ⟨rfl, hb⟩
    clear ca
    replace k := Lib.hid (k.out.ext hb)
    clear hb
    have ca := (blk_facts k.out.2.1).1
    go_wp2_with fail
    refine (c_write v r AS cS S AN cN N AT cT T 0 L _ k.out.ha hEL.out hL.out).mono ?_; rintro e w4 ⟨⟨A3, c3, rfl, o3⟩, hb⟩
    clear o3
    clear ca
    replace k := Lib.hid (k.out.ext hb)
    clear hb
    have ca := (blk_facts k.out.2.1).1
    go_wp2_with fail
    refine (pieces_any v r AS cS S AN cN N AT cT T _ k.out.ha hr.out L.length (by rw [hL.out]) (by omega)).mono ?_; rw [hP.out]; rintro e w5 ⟨⟨A5, c5, rfl, o5⟩, hb⟩
    clear ca
    replace o5 := Lib.hid (OwnV.rp o5)
    replace k := Lib.hid (k.out.ext hb)
    clear hb
    have ca := (blk_facts k.out.2.1).1
    obtain ⟨bt, ot, hAT, hcells⟩ := k.out.ha.2.2.1.some_ hT1
    subst hAT
    obtain ⟨-, -, t2⟩ := hcells 0 hT1
    rw [hlI.out 0 hT1] at t2
    obtain ⟨l0, hl0⟩ : ∃ z, lenS T 0 = z := ⟨_, rfl⟩
    rw [hl0] at t2 hc0
    clear hcells hl0
    go_wp2_with fail
    go_loopw [7, 8, 9, 10, 11] (fun va vs vp vl vi wr => ∃ j s p a lf : Nat, j ≤ P.length ∧ vi = .int .i64 j ∧ vs = .int .i64 s ∧ vp = .int .i64 p ∧ va = .int .i64 a ∧ vl = .int .i64 lf ∧ Hid (CovAt T L.length j s p a lf) ∧ Hid (Below w5.heap.size w5 wr)) (fun _ _ _ _ vi _ => P.length - (intOf vi).toNat)
    case atStart => exact ⟨0, 0, 0, L.length, l0, Nat.zero_le _, rfl, rfl, rfl, rfl, rfl, hc0, Below.refl _ _⟩
    case round =>
      obtain ⟨j, s, p, a, lf, hj, rfl, rfl, rfl, rfl, rfl, hC, Hb⟩ := hrel
      have k1 := Lib.hid (k.out.ext Hb.out)
      have ca := (blk_facts k1.out.2.1).1
      by_cases hp : j < P.length
      · obtain ⟨bk, off, hA5, y0, y1, y2, y3, y4⟩ := (o5.out.ext Hb.out).some_ hp
        subst hA5
        have hs := hct.out j s p a lf hC.out hp
        obtain ⟨hlf, hae, hpe⟩ := hcp'.out j s p a lf hC.out hp
        have hlf9 : lf ≤ 1048576 := by have h9 := hl2.out s; have h8 := (hC.out.2.2.2.1 hs).2; omega
        have hp8 : p ≤ 1048576 := by have h9 := hl2.out s; have h8 := (hC.out.2.2.2.1 hs).2; omega
        have ha9 : a ≤ 1000000000 := by have h9 := hsl.out s; omega
        rw [hpe] at y0 y1 y2 y3 y4
        clear hpe hae
        by_cases hl : lf ≤ 256
        · have hd : decide (lf ≤ 256) = true := decide_eq_true hl
          have hmn : min lf 256 = lf := by omega
          have hmI : min (lf : Int) 256 = (lf : Int) := by omega
          have hlI2 : (lf : Int) ≤ 256 := by omega
          rw [hd] at y2; rw [hmn] at y4
          simp only at y0 y1 y2 y3 y4
          have hnl := fun l' hl' => hcl.out j s p a lf hC.out hp hl l' hl'
          obtain ⟨q, hq⟩ : ∃ q, lf + 32 = q := ⟨_, rfl⟩
          rw [hq] at y4 hnl
          replace hnl := Lib.hid hnl
          have hqI : (q : Int) - 32 = (lf : Int) := by omega
          have hq1 : 33 ≤ q := by omega
          have hq2 : q ≤ 288 := by omega
          replace hq := Lib.hid hq
          have ga := bl_alloc (Below.refl wr.heap.size wr) (.cells #[.int .i64 s, .int .i64 p, .bool true, .int .i64 a, .int .i64 q] 94)
          have Hb1 := Lib.hid (bl_then Hb.out ga)
          have k2 := Lib.hid (k1.out.ext ga)
          have ca2 := (blk_facts k2.out.2.1).1
          replace ga := Lib.hid ga; clear hd hmn
          by_cases hs1 : s + 1 < T.length
          · obtain ⟨bq, oq, hq, hcells⟩ := k1.out.ha.2.2.1.some_ hs1
            cases hq
            obtain ⟨-, -, u2⟩ := hcells (s + 1) hs1
            rw [hlI.out (s + 1) hs1] at u2
            have hnx := Lib.hid (hnl.out (lenS T (s + 1)) (fun _ => rfl))
            obtain ⟨ln, hln⟩ : ∃ z, lenS T (s + 1) = z := ⟨_, rfl⟩
            rw [hln] at u2 hnx
            have u3 := cell_ext ga.out u2
            clear hcells hln
            go_wp2_with fail
            exact ⟨⟨j + 1, s + 1, 0, a + q, ln, by omega, congrArg (Value.int .i64) (by omega), congrArg (Value.int .i64) (by omega), rfl, congrArg (Value.int .i64) (by omega), congrArg (Value.int .i64) (by omega), hnx, Hb1⟩, by show P.length - ((j : Int) + 1).toNat < P.length - ((j : Int)).toNat; omega⟩
          · have hnx := Lib.hid (hnl.out 0 (fun k => absurd k hs1))
            go_wp2_with fail
            exact ⟨⟨j + 1, s + 1, 0, a + q, 0, by omega, congrArg (Value.int .i64) (by omega), congrArg (Value.int .i64) (by omega), rfl, congrArg (Value.int .i64) (by omega), congrArg (Value.int .i64) (by omega), hnx, Hb1⟩, by show P.length - ((j : Int) + 1).toNat < P.length - ((j : Int)).toNat; omega⟩
        · have hd : decide (lf ≤ 256) = false := decide_eq_false hl
          have hmn : min lf 256 = 256 := by omega
          have hmI : min (lf : Int) 256 = 256 := by omega
          have hlI2 : ¬ (lf : Int) ≤ 256 := by omega
          have hnx := Lib.hid (hcf.out j s p a lf hC.out hp (by omega))
          rw [hd] at y2; rw [hmn] at y4
          simp only at y0 y1 y2 y3 y4
          have ga := bl_alloc (Below.refl wr.heap.size wr) (.cells #[.int .i64 s, .int .i64 p, .bool false, .int .i64 a, .int .i64 288] 94)
          have Hb1 := Lib.hid (bl_then Hb.out ga)
          clear ga hd hmn
          go_wp2_with fail
          exact ⟨⟨j + 1, s, p + 1, a + 288, lf - 256, by omega, congrArg (Value.int .i64) (by omega), rfl, congrArg (Value.int .i64) (by omega), congrArg (Value.int .i64) (by omega), congrArg (Value.int .i64) (by omega), hnx, Hb1⟩, by show P.length - ((j : Int) + 1).toNat < P.length - ((j : Int)).toNat; omega⟩
      · have hje : j = P.length := by omega
        obtain ⟨e1, e2⟩ := hce.out j s p a lf hC.out hje
        subst hje e1
        have hmtI : (a : Int) + 32 = (mt : Int) := by have h9 := hmt.out; omega
        have ha9 : a ≤ 1000000000 := by have h9 := hsl.out T.length; omega
        clear e2
        go_wp2_with fail
        refine (total_any v r AS cS S AN cN N (some ⟨bt, ot, none⟩) cT T _ k1.out.ha h64 hrt.out L.length (by rw [hL.out]) (by omega) mt hmt.out).mono ?_; rintro e w7 ⟨rfl, hb⟩
        replace k1 := Lib.hid (k1.out.ext hb)
        clear hb ca
        go_wp2_with fail
        go_ret
        exact ⟨ret_bool (by simp), k1.out.1⟩
end Go.Proofs.Ytlcclaicodghcaa
