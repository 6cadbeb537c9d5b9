import Derived.Test.YtlcclaicodghcaaCh
import Derived.Test.YtlcclaicodghcaaPd
namespace Go.Proofs.Ytlcclaicodghcaa
open Go.RowKit

set_option maxHeartbeats 1000000 in
theorem sameSect_any (A : Option Addr) (c : Nat) (x : List UInt8) (ep ln : Int) (A' : Option Addr) (c' : Nat) (y : List UInt8) (ep' ln' : Int) (w : World) (hx : OkB w A c x) (hy : OkB w A' c' y) :
    Calls Try.prog 77 #[.agg #[.slice A x.length c, .int .i64 ep, .int .i64 ln], .agg #[.slice A' y.length c', .int .i64 ep', .int .i64 ln']] w fun e w' => e = .returned (.bool (decide (((x, ep, ln) : SectD) = (y, ep', ln')))) ∧ Below w.heap.size w w' := by
  have hs := sect_eq x ep ln y ep' ln'
  obtain ⟨v, hv⟩ : ∃ v, (x == y) = v := ⟨_, rfl⟩
  rw [hv] at hs
  have fin : ∀ {w'' : World}, Calls Try.prog 77 #[.agg #[.slice A x.length c, .int .i64 ep, .int .i64 ln], .agg #[.slice A' y.length c', .int .i64 ep', .int .i64 ln']] w (fun e w' => e = .returned (.bool (v && decide (ep = ep') && decide (ln = ln'))) ∧ Below w.heap.size w w') → w'' = w → Calls Try.prog 77 #[.agg #[.slice A x.length c, .int .i64 ep, .int .i64 ln], .agg #[.slice A' y.length c', .int .i64 ep', .int .i64 ln']] w fun e w' => e = .returned (.bool (decide (((x, ep, ln) : SectD) = (y, ep', ln')))) ∧ Below w.heap.size w w' := by
    intro _ h _; rw [hs]; exact h
  refine fin ?_ rfl
  clear fin hs
  by_cases e1 : ep = ep'
  · subst e1
    by_cases e2 : ln = ln'
    · subst e2
      have g := bl_alloc (bl_alloc (Below.refl w.heap.size w) (.cells #[.slice A x.length c, .int .i64 ep, .int .i64 ln] 98)) (.cells #[.slice A' y.length c', .int .i64 ep, .int .i64 ln] 98)
      replace hx := Lib.hid (hx.ext g); replace hy := Lib.hid (hy.ext g); replace g := Lib.hid g; replace hv := Lib.hid hv
      go_enter Try.func77, Try.ntmps77
      go_wp2_with fail
      refine (equal_any _ _ _ _ _ _ _ hx.out hy.out v hv.out).mono ?_; rintro e w1 ⟨rfl, rfl⟩
      cases v
      · go_wp2_with fail
        go_ret
        exact ⟨ret_bool (by simp), g.out⟩
      · go_wp2_with fail
        go_ret
        exact ⟨ret_bool (by simp), g.out⟩
    · have g := bl_alloc (bl_alloc (Below.refl w.heap.size w) (.cells #[.slice A x.length c, .int .i64 ep, .int .i64 ln] 98)) (.cells #[.slice A' y.length c', .int .i64 ep, .int .i64 ln'] 98)
      have f2 : (ln == ln') = false := by simp [e2]
      rw [decide_eq_false e2]
      replace e2 := Lib.hid e2
      replace hx := Lib.hid (hx.ext g); replace hy := Lib.hid (hy.ext g); replace g := Lib.hid g; replace hv := Lib.hid hv
      go_enter Try.func77, Try.ntmps77
      go_wp2_with fail
      refine (equal_any _ _ _ _ _ _ _ hx.out hy.out v hv.out).mono ?_; rintro e w1 ⟨rfl, rfl⟩
      cases v
      · go_wp2_with fail
        go_ret
        exact ⟨ret_bool (by simp), g.out⟩
      · go_wp2_with fail
        go_ret
        exact ⟨ret_bool (by simp), g.out⟩
  · have g := bl_alloc (bl_alloc (Below.refl w.heap.size w) (.cells #[.slice A x.length c, .int .i64 ep, .int .i64 ln] 98)) (.cells #[.slice A' y.length c', .int .i64 ep', .int .i64 ln'] 98)
    have f1 : (ep == ep') = false := by simp [e1]
    rw [decide_eq_false e1]
    replace e1 := Lib.hid e1
    replace hx := Lib.hid (hx.ext g); replace hy := Lib.hid (hy.ext g); replace g := Lib.hid g; replace hv := Lib.hid hv
    go_enter Try.func77, Try.ntmps77
    go_wp2_with fail
    refine (equal_any _ _ _ _ _ _ _ hx.out hy.out v hv.out).mono ?_; rintro e w1 ⟨rfl, rfl⟩
    cases v
    · go_wp2_with fail
      go_ret
      exact ⟨ret_bool (by simp), g.out⟩
    · go_wp2_with fail
      go_ret
      exact ⟨ret_bool (by simp), g.out⟩
set_option maxHeartbeats 2000000 in
theorem few_any (v r : Int) (AS : Option Addr) (cS : Nat) (S : List UInt8) (AN : Option Addr) (cN : Nat) (N : List UInt8) (AT : Option Addr) (cT : Nat) (T : List SectD) (most : Int) (w : World) (hH : OkH w AS cS S AN cN N AT T) (b : Bool) (hb : fewH S N T most = b) :
    Calls Try.prog 43 #[.agg #[.int .i64 v, .slice AS S.length cS, .int .i64 r, .slice AN N.length cN, .slice AT T.length cT], .int .i64 most] w fun e w' => e = .returned (.bool b) ∧ Below w.heap.size w w' := by
  have g0 := bl_alloc (Below.refl _ w) (.cells #[.int .i64 v, .slice AS S.length cS, .int .i64 r, .slice AN N.length cN, .slice AT T.length cT] 75)
  have hl := hH.2.2.2
  replace hH := Lib.hid (hH.ext g0)
  have G := Lib.hid g0
  replace hb := Lib.hid hb
  clear g0
  rcases Decidable.em (S.length ≤ 40 ∧ N.length ≤ 40 ∧ T.length ≤ 70) with hP | hP
  rotate_left
  · have Hbad := Lib.hid (fewH_out (most := most) hP)
    have hd : 40 < (S.length : Int) ∨ (¬ 40 < (S.length : Int) ∧ 40 < (N.length : Int)) ∨ (¬ 40 < (S.length : Int) ∧ ¬ 40 < (N.length : Int) ∧ 70 < (T.length : Int)) := by omega
    clear hP
    rcases hd with h1 | ⟨h1, h2⟩ | ⟨h1, h2, h3⟩
    all_goals (go_enter Try.func43, Try.ntmps43; go_wp2_with fail; go_ret)
    all_goals exact ⟨ret_bool (by rw [← hb.out, Hbad.out]), G.out⟩
  · obtain ⟨p1, p2, p3⟩ := hP
    have q1 : ¬ 40 < (S.length : Int) := by omega
    have q2 : ¬ 40 < (N.length : Int) := by omega
    have q3 : ¬ 70 < (T.length : Int) := by omega
    have HP := Lib.hid (show _ ∧ _ ∧ _ from ⟨p1, p2, p3⟩)
    clear p1 p2 p3
    go_enter Try.func43, Try.ntmps43
    go_wp2_with fail
    go_loopw [5] (fun i wr => ∃ k : Nat, k ≤ T.length ∧ i = .int .i64 k ∧ Hid (fewTo most T k = true) ∧ wr = (w.alloc (.cells #[.int .i64 v, .slice AS S.length cS, .int .i64 r, .slice AN N.length cN, .slice AT T.length cT] 75))) (fun i _ => T.length - (intOf i).toNat)
    case atStart => exact ⟨0, Nat.zero_le _, rfl, rfl, rfl⟩
    case round =>
      obtain ⟨k, hk, rfl, Hr, rfl⟩ := hrel
      by_cases hp : k < T.length
      · obtain ⟨bk, off, hA, hcells⟩ := hH.out.2.2.1.some_ hp
        subst hA
        obtain ⟨⟨A1, c1, y0, -⟩, y1, y2⟩ := hcells k hp
        obtain ⟨s, hs⟩ : ∃ s, T[k] = s := ⟨_, rfl⟩
        obtain ⟨id, ep, ln⟩ := s
        rw [hs] at y0 y1 y2
        have hgd := getD_at hp
        rw [hs] at hgd
        clear hcells
        have hd : 300 < (id.length : Int) ∨ (¬ 300 < (id.length : Int) ∧ most < ln ∧ ln ≤ 1048576) ∨ (¬ 300 < (id.length : Int) ∧ most < ln ∧ ¬ ln ≤ 1048576) ∨ (¬ 300 < (id.length : Int) ∧ ¬ most < ln) := by omega
        rcases hd with h1 | ⟨h1, h2, h3⟩ | ⟨h1, h2, h3⟩ | ⟨h1, h2⟩
        · have Hbad := Lib.hid (fewH_bad (S := S) (N := N) (most := most) hp (by rw [hgd, fewS, decide_eq_false (by show ¬ id.length ≤ 300; omega)]; rfl))
          clear hgd hs
          go_wp2_with fail
          go_ret
          exact ⟨ret_bool (by rw [← hb.out, Hbad.out]), G.out⟩
        · have Hbad := Lib.hid (fewH_bad (S := S) (N := N) (most := most) hp (by rw [hgd, fewS, decide_eq_true (show most < ln from h2), decide_eq_true (show ln ≤ 1048576 from h3)]; simp))
          clear hgd hs
          go_wp2_with fail
          go_ret
          exact ⟨ret_bool (by rw [← hb.out, Hbad.out]), G.out⟩
        · have Hnext : Hid (fewTo most T (k + 1) = true) := by
            show _ = _
            rw [fewTo, Hr.out, hgd, fewS, decide_eq_true (show id.length ≤ 300 by omega), decide_eq_false (show ¬ ln ≤ 1048576 from h3)]; simp
          clear hgd hs
          go_wp2_with fail
          exact ⟨⟨k + 1, by omega, congrArg (Value.int .i64) (by omega), Hnext, trivial⟩, by show T.length - ((k : Int) + 1).toNat < T.length - ((k : Int)).toNat; omega⟩
        · have Hnext : Hid (fewTo most T (k + 1) = true) := by
            show _ = _
            rw [fewTo, Hr.out, hgd, fewS, decide_eq_true (show id.length ≤ 300 by omega), decide_eq_false (show ¬ most < ln from h2)]; simp
          clear hgd hs
          go_wp2_with fail
          exact ⟨⟨k + 1, by omega, congrArg (Value.int .i64) (by omega), Hnext, trivial⟩, by show T.length - ((k : Int) + 1).toNat < T.length - ((k : Int)).toNat; omega⟩
      · have hke : k = T.length := by omega
        have Hfin := Lib.hid (fewH_iff (S := S) (N := N) (T := T) (most := most))
        go_wp2_with fail
        go_ret
        refine ⟨ret_bool ?_, G.out⟩
        obtain ⟨p1, p2, p3⟩ := HP.out
        rw [← hb.out]
        exact (Hfin.out.2 ⟨p1, p2, p3, by rw [← hke]; exact Hr.out⟩).symm
set_option maxRecDepth 20000 in
set_option maxHeartbeats 2000000 in
theorem equalFunc_any (AT : Option Addr) (cT : Nat) (T : List SectD) (AT' : Option Addr) (cT' : Nat) (T' : List SectD) (w : World) (hT : RT w AT T) (hT' : RT w AT' T') (hl : T.length ≤ 140737488351232) (b : Bool) (hb : decide (T = T') = b) :
    Calls Try.prog 76 #[.slice AT T.length cT, .slice AT' T'.length cT', .func (.func 77) #[] #[]] w fun e w' => e = .returned (.bool b) ∧ Below w.heap.size w w' := by
  replace hT := Lib.hid hT
  replace hT' := Lib.hid hT'
  replace hb := Lib.hid hb
  by_cases hlen : T.length = T'.length
  · have Hlen := Lib.hid hlen
    have hn : ((T.length : Int) != (T'.length : Int)) = false := by simp [hlen]
    clear hlen
    go_enter Try.func76, Try.ntmps76
    go_wp2_with fail
    go_loopw [17] (fun i wr => ∃ k : Nat, k ≤ T.length ∧ i = .int .i64 k ∧ Hid (Eqt T T' k) ∧ Hid (Below w.heap.size w wr)) (fun i _ => T.length - (intOf i).toNat)
    case atStart => exact ⟨0, Nat.zero_le _, rfl, Eqt.zero _ _, Below.refl _ _⟩
    case round =>
      obtain ⟨k, hk, rfl, Hr, Hb⟩ := hrel
      by_cases hp : k < T.length
      · have hp' : k < T'.length := by have := Hlen.out; omega
        obtain ⟨bk, off, hA, hcells⟩ := (hT.out.ext Hb.out).some_ hp
        subst hA
        obtain ⟨⟨A1, c1, y0, ok1⟩, y1, y2⟩ := hcells k hp
        obtain ⟨bk', off', hA', hcells'⟩ := (hT'.out.ext Hb.out).some_ hp'
        subst hA'
        obtain ⟨⟨A2, c2, z0, ok2⟩, z1, z2⟩ := hcells' k hp'
        obtain ⟨s, hs⟩ : ∃ s, T[k] = s := ⟨_, rfl⟩
        obtain ⟨s', hs'⟩ : ∃ s, T'[k] = s := ⟨_, rfl⟩
        obtain ⟨x, ep, ln⟩ := s
        obtain ⟨y, ep', ln'⟩ := s'
        rw [hs] at y0 y1 y2 ok1
        rw [hs'] at z0 z1 z2 ok2
        clear hcells hcells'
        have hg := bl_alloc (bl_alloc (Below.refl wr.heap.size wr) (.cells #[.slice A1 x.length c1, .int .i64 ep, .int .i64 ln] 98)) (.cells #[.slice A2 y.length c2, .int .i64 ep', .int .i64 ln'] 98)
        have ga := bl_alloc (Below.refl wr.heap.size wr) (.cells #[.slice A1 x.length c1, .int .i64 ep, .int .i64 ln] 98)
        replace z0 := cell_ext ga z0
        replace z1 := cell_ext ga z1
        replace z2 := cell_ext ga z2
        clear ga
        replace ok1 := Lib.hid (ok1.ext hg)
        replace ok2 := Lib.hid (ok2.ext hg)
        have Hg := Lib.hid (bl_then Hb.out hg)
        clear hg
        obtain ⟨d, hd⟩ : ∃ d, decide (((x, ep, ln) : SectD) = (y, ep', ln')) = d := ⟨_, rfl⟩
        have HC := Lib.hid (fun W h1 h2 => sameSect_any A1 c1 x ep ln A2 c2 y ep' ln' W h1 h2)
        rw [hd] at HC
        replace hd := Lib.hid hd
        replace hs := Lib.hid hs
        replace hs' := Lib.hid hs'
        go_wp2_with fail
        refine (HC.out _ ok1.out ok2.out).mono ?_; rintro e w1 ⟨rfl, hb1⟩
        replace hb1 := Lib.hid hb1
        cases d
        · go_wp2_with fail
          go_ret
          refine ⟨ret_bool ?_, bl_then Hg.out hb1.out⟩
          rw [← hb.out]
          exact (decide_eq_false (ne_get hp hp' (by rw [hs.out, hs'.out]; exact of_decide_eq_false hd.out))).symm
        · go_wp2_with fail
          exact ⟨⟨k + 1, by omega, congrArg (Value.int .i64) (by omega), Hr.out.succ hp hp' (by rw [hs.out, hs'.out]; exact of_decide_eq_true hd.out), bl_then Hg.out hb1.out⟩, by show T.length - ((k : Int) + 1).toNat < T.length - ((k : Int)).toNat; omega⟩
      · go_wp2_with fail
        go_ret
        refine ⟨ret_bool ?_, Hb.out⟩
        rw [← hb.out]
        exact (decide_eq_true (Hr.out.eq Hlen.out (by omega))).symm
  · have hn : ((T.length : Int) != (T'.length : Int)) = true := by rw [bne_iff_ne]; omega
    have Hs : Hid (decide (T = T') = false) := decide_eq_false (by rintro rfl; exact hlen rfl)
    clear hlen
    go_enter Try.func76, Try.ntmps76
    go_wp2_with fail
    go_ret
    exact ⟨ret_bool (by rw [← hb.out, Hs.out]), Below.refl _ _⟩
end Go.Proofs.Ytlcclaicodghcaa
