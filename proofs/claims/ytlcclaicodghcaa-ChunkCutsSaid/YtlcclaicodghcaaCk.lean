import Derived.Test.YtlcclaicodghcaaCj
namespace Go.Proofs.Ytlcclaicodghcaa
open Go.RowKit

set_option maxRecDepth 20000 in
set_option maxHeartbeats 8000000 in
theorem rsame_heads (v r : Int) (AS : Option Addr) (cS : Nat) (S : List UInt8) (AN : Option Addr) (cN : Nat) (N : List UInt8) (AT : Option Addr) (cT : Nat) (T : List SectD) (v' r' : Int) (AS' : Option Addr) (cS' : Nat) (S' : List UInt8) (AN' : Option Addr) (cN' : Nat) (N' : List UInt8) (AT' : Option Addr) (cT' : Nat) (T' : List SectD) (w : World) (hH : OkH w AS cS S AN cN N AT T) (hH' : OkH w AS' cS' S' AN' cN' N' AT' T') (b : Bool) (hb : sameH v S r N T v' S' r' N' T' = b) :
    Calls Try.prog 49 #[.agg #[.int .i64 v, .slice AS S.length cS, .int .i64 r, .slice AN N.length cN, .slice AT T.length cT], .agg #[.int .i64 v', .slice AS' S'.length cS', .int .i64 r', .slice AN' N'.length cN', .slice AT' T'.length cT']] w fun e w' => e = .returned (.bool b) ∧ Below w.heap.size w w' := by
  have hl := hH.2.2.2
  obtain ⟨bS, hS⟩ : ∃ d, (S == S') = d := ⟨_, rfl⟩
  obtain ⟨bN, hN⟩ : ∃ d, (N == N') = d := ⟨_, rfl⟩
  obtain ⟨bT, hT⟩ : ∃ d, decide (T = T') = d := ⟨_, rfl⟩
  unfold sameH at hb
  rw [hS, hN, hT] at hb
  replace hS := Lib.hid hS; replace hN := Lib.hid hN
  by_cases e1 : v = v'
  rotate_left
  · rw [decide_eq_false e1] at hb
    have f1 : (v != v') = true := by simp [e1]
    replace e1 := Lib.hid e1
    replace hT := Lib.hid hT
    have g := bl_alloc (bl_alloc (Below.refl w.heap.size w) (.cells #[.int .i64 v, .slice AS S.length cS, .int .i64 r, .slice AN N.length cN, .slice AT T.length cT] 75)) (.cells #[.int .i64 v', .slice AS' S'.length cS', .int .i64 r', .slice AN' N'.length cN', .slice AT' T'.length cT'] 75)
    replace hH := Lib.hid (hH.ext g); replace hH' := Lib.hid (hH'.ext g)
    replace g := Lib.hid g
    replace hb := Lib.hid hb
    go_enter Try.func49, Try.ntmps49
    go_wp2_with fail
    go_ret
    exact ⟨ret_bool (by rw [← hb.out]; simp), g.out⟩
  subst e1
  have f1 : (v != v) = false := by simp
  by_cases e2 : r = r'
  rotate_left
  · rw [decide_eq_false e2] at hb
    have f2 : (r != r') = true := by simp [e2]
    replace e2 := Lib.hid e2
    replace hT := Lib.hid hT
    have g := bl_alloc (bl_alloc (Below.refl w.heap.size w) (.cells #[.int .i64 v, .slice AS S.length cS, .int .i64 r, .slice AN N.length cN, .slice AT T.length cT] 75)) (.cells #[.int .i64 v, .slice AS' S'.length cS', .int .i64 r', .slice AN' N'.length cN', .slice AT' T'.length cT'] 75)
    replace hH := Lib.hid (hH.ext g); replace hH' := Lib.hid (hH'.ext g)
    replace g := Lib.hid g
    replace hb := Lib.hid hb
    go_enter Try.func49, Try.ntmps49
    go_wp2_with fail
    go_ret
    exact ⟨ret_bool (by rw [← hb.out]; simp), g.out⟩
  subst e2
  have f2 : (r != r) = false := by simp
  by_cases hlen : T.length = T'.length
  rotate_left
  · have fl : ((T.length : Int) != (T'.length : Int)) = true := by rw [bne_iff_ne]; omega
    have hTf : bT = false := by rw [← hT]; exact decide_eq_false (by rintro rfl; exact hlen rfl)
    subst hTf
    replace hT := Lib.hid hT
    clear hlen
    have g := bl_alloc (bl_alloc (Below.refl w.heap.size w) (.cells #[.int .i64 v, .slice AS S.length cS, .int .i64 r, .slice AN N.length cN, .slice AT T.length cT] 75)) (.cells #[.int .i64 v, .slice AS' S'.length cS', .int .i64 r, .slice AN' N'.length cN', .slice AT' T'.length cT'] 75)
    replace hH := Lib.hid (hH.ext g); replace hH' := Lib.hid (hH'.ext g)
    replace g := Lib.hid g
    replace hb := Lib.hid hb
    go_enter Try.func49, Try.ntmps49
    go_wp2_with fail
    refine (c_same _ _ _ _ _ _ _ hH.out.1 hH'.out.1 bS hS.out).mono ?_; rintro e w1 ⟨rfl, rfl⟩
    cases bS
    · go_wp2_with fail
      go_ret
      exact ⟨ret_bool (by rw [← hb.out]; simp), g.out⟩
    · go_wp2_with fail
      refine (c_same _ _ _ _ _ _ _ hH.out.2.1 hH'.out.2.1 bN hN.out).mono ?_; rintro e w1 ⟨rfl, rfl⟩
      cases bN
      · go_wp2_with fail
        go_ret
        exact ⟨ret_bool (by rw [← hb.out]; simp), g.out⟩
      · go_wp2_with fail
        go_ret
        exact ⟨ret_bool (by rw [← hb.out]; simp), g.out⟩
        
  have fl : ((T.length : Int) != (T'.length : Int)) = false := by simp [hlen]
  have Hlen := Lib.hid hlen
  clear hlen
  replace hT := Lib.hid hT
  have g := bl_alloc (bl_alloc (Below.refl w.heap.size w) (.cells #[.int .i64 v, .slice AS S.length cS, .int .i64 r, .slice AN N.length cN, .slice AT T.length cT] 75)) (.cells #[.int .i64 v, .slice AS' S'.length cS', .int .i64 r, .slice AN' N'.length cN', .slice AT' T'.length cT'] 75)
  replace hH := Lib.hid (hH.ext g); replace hH' := Lib.hid (hH'.ext g)
  replace g := Lib.hid g
  replace hb := Lib.hid hb
  go_enter Try.func49, Try.ntmps49
  go_wp2_with fail
  refine (c_same _ _ _ _ _ _ _ hH.out.1 hH'.out.1 bS hS.out).mono ?_; rintro e w1 ⟨rfl, rfl⟩
  cases bS
  · go_wp2_with fail
    go_ret
    exact ⟨ret_bool (by rw [← hb.out]; simp), g.out⟩
  · go_wp2_with fail
    refine (c_same _ _ _ _ _ _ _ hH.out.2.1 hH'.out.2.1 bN hN.out).mono ?_; rintro e w1 ⟨rfl, rfl⟩
    cases bN
    · go_wp2_with fail
      go_ret
      exact ⟨ret_bool (by rw [← hb.out]; simp), g.out⟩
    · go_wp2_with fail
      go_loopw [5] (fun i wr => ∃ k : Nat, k ≤ T.length ∧ i = .int .i64 k ∧ Hid (Eqt T T' k) ∧ Hid (Below ((w.alloc (.cells #[.int .i64 v, .slice AS S.length cS, .int .i64 r, .slice AN N.length cN, .slice AT T.length cT] 75)).alloc (.cells #[.int .i64 v, .slice AS' S'.length cS', .int .i64 r, .slice AN' N'.length cN', .slice AT' T'.length cT'] 75)).heap.size ((w.alloc (.cells #[.int .i64 v, .slice AS S.length cS, .int .i64 r, .slice AN N.length cN, .slice AT T.length cT] 75)).alloc (.cells #[.int .i64 v, .slice AS' S'.length cS', .int .i64 r, .slice AN' N'.length cN', .slice AT' T'.length cT'] 75)) wr)) (fun i _ => T.length - (intOf i).toNat)
      case atStart => exact ⟨0, Nat.zero_le _, rfl, Eqt.zero _ _, Below.refl _ _⟩
      case round =>
        obtain ⟨k, hk, rfl, Hr, Hb⟩ := hrel
        have Hg := Lib.hid (bl_then g.out Hb.out)
        have x4 : wr.cell? ⟨w.heap.size, 4, none⟩ = some (.slice AT T.length cT) := (box2_at Hb.out 4).1
        have z4 : wr.cell? ⟨w.heap.size + 1, 4, none⟩ = some (.slice AT' T'.length cT') := (box2_at Hb.out 4).2
        by_cases hp : k < T.length
        · have hp' : k < T'.length := by have := Hlen.out; omega
          obtain ⟨bk, off, hA, hcells⟩ := (hH.out.2.2.1.ext Hb.out).some_ hp
          subst hA
          obtain ⟨⟨A1, c1, y0, ok1⟩, y1, y2⟩ := hcells k hp
          obtain ⟨bk', off', hA', hcells'⟩ := (hH'.out.2.2.1.ext Hb.out).some_ hp'
          subst hA'
          obtain ⟨⟨A2, c2, z0, ok2⟩, z1, z2⟩ := hcells' k hp'
          obtain ⟨s, hs⟩ : ∃ s, T[k] = s := ⟨_, rfl⟩
          obtain ⟨s', hs'⟩ : ∃ s, T'[k] = s := ⟨_, rfl⟩
          obtain ⟨x, ep, ln⟩ := s
          obtain ⟨y, ep', ln'⟩ := s'
          rw [hs] at y0 y1 y2 ok1
          rw [hs'] at z0 z1 z2 ok2
          clear hcells hcells'
          have Q1 := Lib.hid ok1
          have Q2 := Lib.hid ok2
          clear ok1 ok2
          have hse := sect_eq x ep ln y ep' ln'
          obtain ⟨sm, hsm⟩ : ∃ d, (x == y) = d := ⟨_, rfl⟩
          rw [hsm] at hse
          have hne : ∀ d, decide (((x, ep, ln) : SectD) = (y, ep', ln')) = d → d = false → bT = false := by
            intro d h1 h2
            rw [← hT.out]
            exact decide_eq_false (ne_get hp hp' (by rw [hs, hs']; exact of_decide_eq_false (h1.trans h2)))
          have heq : decide (((x, ep, ln) : SectD) = (y, ep', ln')) = true → Eqt T T' (k + 1) := fun h => Hr.out.succ hp hp' (by rw [hs, hs']; exact of_decide_eq_true h)
          have Qs := Lib.hid hsm
          clear hs hs' hsm
          have u1 : (k : Int) < (T.length : Int) := by omega
          have u2 : (k : Int) < (T'.length : Int) := by omega
          cases sm
          · have Hbad := Lib.hid (hne _ hse (by simp))
            clear hne heq hse
            go_wp2_with fail
            go_quiet ((go_at_call 24; with_reducible exact quiet_left (c_same A1 c1 x A2 c2 y _ (Q1.out.ext (by repeat (first | exact Below.refl _ _ | apply bl_drewN))) (Q2.out.ext (by repeat (first | exact Below.refl _ _ | apply bl_drewN))) false Qs.out)))
            go_wp2_with fail
            go_ret
            exact ⟨ret_bool (by rw [← hb.out, Hbad.out]; simp), by repeat (first | exact Hg.out | apply bl_drewN)⟩
          · by_cases e3 : ep = ep'
            · subst e3
              have f3 : (ep != ep) = false := by simp
              by_cases e4 : ln = ln'
              · subst e4
                have f4 : (ln != ln) = false := by simp
                have Heq := Lib.hid (heq (by rw [hse]; simp))
                clear hne heq hse
                go_wp2_with fail
                go_quiet ((go_at_call 24; with_reducible exact quiet_left (c_same A1 c1 x A2 c2 y _ (Q1.out.ext (by repeat (first | exact Below.refl _ _ | apply bl_drewN))) (Q2.out.ext (by repeat (first | exact Below.refl _ _ | apply bl_drewN))) true Qs.out)))
                go_wp2_with fail
                exact ⟨⟨k + 1, by omega, congrArg (Value.int .i64) (by omega), Heq.out, by repeat (first | exact Hb.out | apply bl_drewN)⟩, by show T.length - ((k : Int) + 1).toNat < T.length - ((k : Int)).toNat; omega⟩
              · have f4 : (ln != ln') = true := by simp [e4]
                have Hbad := Lib.hid (hne _ hse (by rw [decide_eq_false e4]; simp))
                clear hne heq hse
                replace e4 := Lib.hid e4
                go_wp2_with fail
                go_quiet ((go_at_call 24; with_reducible exact quiet_left (c_same A1 c1 x A2 c2 y _ (Q1.out.ext (by repeat (first | exact Below.refl _ _ | apply bl_drewN))) (Q2.out.ext (by repeat (first | exact Below.refl _ _ | apply bl_drewN))) true Qs.out)))
                go_wp2_with fail
                go_ret
                exact ⟨ret_bool (by rw [← hb.out, Hbad.out]; simp), by repeat (first | exact Hg.out | apply bl_drewN)⟩
            · have f3 : (ep != ep') = true := by simp [e3]
              have Hbad := Lib.hid (hne _ hse (by rw [decide_eq_false e3]; simp))
              clear hne heq hse
              replace e3 := Lib.hid e3
              go_wp2_with fail
              go_quiet ((go_at_call 24; with_reducible exact quiet_left (c_same A1 c1 x A2 c2 y _ (Q1.out.ext (by repeat (first | exact Below.refl _ _ | apply bl_drewN))) (Q2.out.ext (by repeat (first | exact Below.refl _ _ | apply bl_drewN))) true Qs.out)))
              go_wp2_with fail
              go_ret
              exact ⟨ret_bool (by rw [← hb.out, Hbad.out]; simp), by repeat (first | exact Hg.out | apply bl_drewN)⟩
        · have hTt : bT = true := by rw [← hT.out]; exact decide_eq_true (Hr.out.eq Hlen.out (by omega))
          replace hTt := Lib.hid hTt
          go_wp2_with fail
          go_ret
          exact ⟨ret_bool (by rw [← hb.out, hTt.out]; simp), Hg.out⟩
end Go.Proofs.Ytlcclaicodghcaa
