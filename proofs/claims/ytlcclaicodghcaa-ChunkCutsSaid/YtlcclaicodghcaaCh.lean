import Derived.Test.YtlcclaicodghcaaCg
namespace Go.Proofs.Ytlcclaicodghcaa
open Go.RowKit

theorem quiet_of {P : Program} {f : FuncId} {args : Array Value} {w : World} {n : Nat} {v : Value}
    (h : Calls P f args (w.drewN n) fun e w' => e = .returned v ∧ ∃ m, w' = (w.drewN n).drewN m) : Calls P f args (w.drewN n) fun e w'' => e = .returned v ∧ ∃ m, w'' = w.drewN m :=
  h.mono fun _ _ ⟨he, m, hm⟩ => ⟨he, n + m, by rw [hm, World.drewN_drewN]⟩
theorem rightH_out {v : Int} {S : List UInt8} {r : Int} {N : List UInt8} {T : List SectD} (h : ¬ (1 ≤ v ∧ v ≤ 4 ∧ S.length = 16 ∧ N.length = 12 ∧ 1 ≤ r ∧ r ≤ 1048576 ∧ T.length ≤ 64)) : rightH v S r N T = false := by
  cases e : rightH v S r N T
  · rfl
  · obtain ⟨a, b, c, d, e, f, g, _⟩ := rightH_iff.1 e; exact absurd ⟨a, b, c, d, e, f, g⟩ h

set_option maxRecDepth 20000 in
set_option maxHeartbeats 4000000 in
theorem rright_any (v r : Int) (AS : Option Addr) (cS : Nat) (S : List UInt8) (AN : Option Addr) (cN : Nat) (N : List UInt8) (AT : Option Addr) (cT : Nat) (T : List SectD) (w : World) (hH : OkH w AS cS S AN cN N AT T) (b : Bool) (hb : rightH v S r N T = b) :
    Calls Try.prog 47 #[.agg #[.int .i64 v, .slice AS S.length cS, .int .i64 r, .slice AN N.length cN, .slice AT T.length cT]] w fun e w' => e = .returned (.bool b) ∧ Below w.heap.size w w' := by
  have g0 := bl_alloc (Below.refl _ w) (.cells #[.int .i64 v, .slice AS S.length cS, .int .i64 r, .slice AN N.length cN, .slice AT T.length cT] 75)
  have hl := hH.2.2.2
  replace hH := Lib.hid (hH.ext g0)
  have G := Lib.hid g0
  replace hb := Lib.hid hb
  clear g0
  rcases Decidable.em (1 ≤ v ∧ v ≤ 4 ∧ S.length = 16 ∧ N.length = 12 ∧ 1 ≤ r ∧ r ≤ 1048576 ∧ T.length ≤ 64) with hP | hP
  rotate_left
  · have Hbad := Lib.hid (rightH_out hP)
    have hd : v < 1 ∨ (¬ v < 1 ∧ 4 < v) ∨ (¬ v < 1 ∧ ¬ 4 < v ∧ ¬ S.length = 16) ∨ (¬ v < 1 ∧ ¬ 4 < v ∧ S.length = 16 ∧ ¬ N.length = 12) ∨ (¬ v < 1 ∧ ¬ 4 < v ∧ S.length = 16 ∧ N.length = 12 ∧ r < 1) ∨ (¬ v < 1 ∧ ¬ 4 < v ∧ S.length = 16 ∧ N.length = 12 ∧ ¬ r < 1 ∧ 1048576 < r) ∨ (¬ v < 1 ∧ ¬ 4 < v ∧ S.length = 16 ∧ N.length = 12 ∧ ¬ r < 1 ∧ ¬ 1048576 < r ∧ 64 < (T.length : Int)) := by omega
    clear hP
    rcases hd with h1 | ⟨h1, h2⟩ | ⟨h1, h2, h3⟩ | ⟨h1, h2, h3, h4⟩ | ⟨h1, h2, h3, h4, h5⟩ | ⟨h1, h2, h3, h4, h5, h6⟩ | ⟨h1, h2, h3, h4, h5, h6, h7⟩
    · go_enter Try.func47, Try.ntmps47
      go_wp2_with fail
      go_ret
      exact ⟨ret_bool (by rw [← hb.out, Hbad.out]), G.out⟩
    · go_enter Try.func47, Try.ntmps47
      go_wp2_with fail
      go_ret
      exact ⟨ret_bool (by rw [← hb.out, Hbad.out]), G.out⟩
    · have e3 : ((S.length : Int) != 16) = true := by rw [bne_iff_ne]; omega
      clear h3
      go_enter Try.func47, Try.ntmps47
      go_wp2_with fail
      go_ret
      exact ⟨ret_bool (by rw [← hb.out, Hbad.out]), G.out⟩
    · have e3 : ((S.length : Int) != 16) = false := by simp [h3]
      clear h3
      have e4 : ((N.length : Int) != 12) = true := by rw [bne_iff_ne]; omega
      clear h4
      go_enter Try.func47, Try.ntmps47
      go_wp2_with fail
      go_ret
      exact ⟨ret_bool (by rw [← hb.out, Hbad.out]), G.out⟩
    · have e3 : ((S.length : Int) != 16) = false := by simp [h3]
      clear h3
      have e4 : ((N.length : Int) != 12) = false := by simp [h4]
      clear h4
      go_enter Try.func47, Try.ntmps47
      go_wp2_with fail
      go_ret
      exact ⟨ret_bool (by rw [← hb.out, Hbad.out]), G.out⟩
    · have e3 : ((S.length : Int) != 16) = false := by simp [h3]
      clear h3
      have e4 : ((N.length : Int) != 12) = false := by simp [h4]
      clear h4
      go_enter Try.func47, Try.ntmps47
      go_wp2_with fail
      go_ret
      exact ⟨ret_bool (by rw [← hb.out, Hbad.out]), G.out⟩
    · have e3 : ((S.length : Int) != 16) = false := by simp [h3]
      clear h3
      have e4 : ((N.length : Int) != 12) = false := by simp [h4]
      clear h4
      go_enter Try.func47, Try.ntmps47
      go_wp2_with fail
      go_ret
      exact ⟨ret_bool (by rw [← hb.out, Hbad.out]), G.out⟩
  · obtain ⟨p1, p2, p3, p4, p5, p6, p7⟩ := hP
    have e3 : ((S.length : Int) != 16) = false := by simp [p3]
    have e4 : ((N.length : Int) != 12) = false := by simp [p4]
    have q1 : ¬ v < 1 := by omega
    have q2 : ¬ 4 < v := by omega
    have q5 : ¬ r < 1 := by omega
    have q6 : ¬ 1048576 < r := by omega
    have q7 : ¬ 64 < (T.length : Int) := by omega
    have HP := Lib.hid (show _ ∧ _ ∧ _ ∧ _ ∧ _ ∧ _ ∧ _ from ⟨p1, p2, p3, p4, p5, p6, p7⟩)
    clear p1 p2 p3 p4 p5 p6 p7
    go_enter Try.func47, Try.ntmps47
    go_wp2_with fail
    go_loopw [3] (fun i wr => ∃ k : Nat, k ≤ T.length ∧ i = .int .i64 k ∧ Hid (rightTo T k = true) ∧ Hid (Below (w.alloc (.cells #[.int .i64 v, .slice AS S.length cS, .int .i64 r, .slice AN N.length cN, .slice AT T.length cT] 75)).heap.size (w.alloc (.cells #[.int .i64 v, .slice AS S.length cS, .int .i64 r, .slice AN N.length cN, .slice AT T.length cT] 75)) wr)) (fun i _ => T.length - (intOf i).toNat)
    case atStart => exact ⟨0, Nat.zero_le _, rfl, rfl, Below.refl _ _⟩
    case round =>
      obtain ⟨k, hk, rfl, Hr, Hb⟩ := hrel
      have Hg := Lib.hid (bl_then G.out Hb.out)
      have x4 : wr.cell? ⟨w.heap.size, 4, none⟩ = some (.slice AT T.length cT) := box_at Hb.out 4
      by_cases hp : k < T.length
      · obtain ⟨bk, off, hA, hcells⟩ := (hH.out.2.2.1.ext Hb.out).some_ hp
        subst hA
        obtain ⟨⟨A1, c1, y0, ok1⟩, y1, y2⟩ := hcells k hp
        obtain ⟨s, hs⟩ : ∃ s, T[k] = s := ⟨_, rfl⟩
        obtain ⟨id, ep, ln⟩ := s
        rw [hs] at y0 ok1 y1 y2
        have hgd := getD_at hp
        rw [hs] at hgd
        go_upto_region 7 with fail
        obtain ⟨W, hW⟩ : ∃ W, wr.alloc (.cells #[.slice A1 id.length c1, .int .i64 ep, .int .i64 ln] 98) = W := ⟨_, rfl⟩
        have s0 : W.cell? ⟨wr.heap.size, 0, none⟩ = some (.slice A1 id.length c1) := by rw [← hW, World.cell?_alloc_at _ _ _ _ rfl]; rfl
        have s1 : W.cell? ⟨wr.heap.size, 1, none⟩ = some (.int .i64 ep) := by rw [← hW, World.cell?_alloc_at _ _ _ _ rfl]; rfl
        have s2 : W.cell? ⟨wr.heap.size, 2, none⟩ = some (.int .i64 ln) := by rw [← hW, World.cell?_alloc_at _ _ _ _ rfl]; rfl
        have hWb : Below wr.heap.size wr W := by rw [← hW]; exact bl_alloc (Below.refl _ _) _
        replace x4 := cell_ext hWb x4
        replace ok1 := ok1.ext hWb
        have HgW := Lib.hid (bl_then Hg.out hWb)
        have HbW := Lib.hid (bl_then Hb.out hWb)
        simp only [hW]
        clear hW
        replace hWb := Lib.hid hWb
        replace y0 := Lib.hid y0
        obtain ⟨B, hB⟩ : ∃ B, wr.heap.size = B := ⟨_, rfl⟩
        rw [hB] at s0 s1 s2
        simp only [hB]
        clear hB y1 y2
        have hd : ¬ (id.length ≤ 255 ∧ 0 ≤ ep ∧ ep < 281474976710656 ∧ 1 ≤ ln ∧ ln ≤ 1048576) ∨ (id.length ≤ 255 ∧ 0 ≤ ep ∧ ep < 281474976710656 ∧ 1 ≤ ln ∧ ln ≤ 1048576) := (Decidable.em _).symm
        rcases hd with hd | hd
        · have Hbad := Lib.hid (rightH_bad (v := v) (S := S) (r := r) (N := N) (rightTo_bad (stepS_bad (by rw [hgd]; exact okS_false hd)) T.length hp))
          have hd' : 255 < (id.length : Int) ∨ (¬ 255 < (id.length : Int) ∧ ep < 0) ∨ (¬ 255 < (id.length : Int) ∧ ¬ ep < 0 ∧ 281474976710655 < ep) ∨ (¬ 255 < (id.length : Int) ∧ ¬ ep < 0 ∧ ¬ 281474976710655 < ep ∧ ln < 1) ∨ (¬ 255 < (id.length : Int) ∧ ¬ ep < 0 ∧ ¬ 281474976710655 < ep ∧ ¬ ln < 1 ∧ 1048576 < ln) := by omega
          clear hd hgd hs hcells
          rcases hd' with h1 | ⟨h1, h2⟩ | ⟨h1, h2, h3⟩ | ⟨h1, h2, h3, h4⟩ | ⟨h1, h2, h3, h4, h5⟩
          · go_wp2_with fail
            go_ret
            exact ⟨ret_bool (by rw [← hb.out, Hbad.out]), HgW.out⟩
          · go_wp2_with fail
            go_ret
            exact ⟨ret_bool (by rw [← hb.out, Hbad.out]), HgW.out⟩
          · go_wp2_with fail
            go_ret
            exact ⟨ret_bool (by rw [← hb.out, Hbad.out]), HgW.out⟩
          · go_wp2_with fail
            go_ret
            exact ⟨ret_bool (by rw [← hb.out, Hbad.out]), HgW.out⟩
          · go_wp2_with fail
            go_ret
            exact ⟨ret_bool (by rw [← hb.out, Hbad.out]), HgW.out⟩
        · have hok := (okS_iff (s := (id, ep, ln))).2 hd
          have h1 : ¬ 255 < (id.length : Int) := by omega
          have h2 : ¬ ep < 0 := by omega
          have h3 : ¬ 281474976710655 < ep := by omega
          have h4 : ¬ ln < 1 := by omega
          have h5 : ¬ 1048576 < ln := by omega
          cases k with
          | zero =>
            have Hnext : Hid (rightTo T (0 + 1) = true) := by
              show _ = _
              rw [rightTo, Hr.out, stepS, hgd, hok]; rfl
            clear hd hgd hs hcells hok
            go_wp2_with fail
            go_quiet (fail)
            go_wp2_with fail
            exact ⟨⟨0 + 1, by omega, congrArg (Value.int .i64) (by omega), Hnext, by repeat (first | exact HbW.out | apply bl_drewN)⟩, by show T.length - (((0 : Nat) : Int) + 1).toNat < T.length - (((0 : Nat) : Int)).toNat; omega⟩
          | succ m =>
            obtain ⟨⟨A2, c2, z0, ok2⟩, -, -⟩ := hcells m (by omega)
            obtain ⟨q, hq⟩ : ∃ q, T[m].1 = q := ⟨_, rfl⟩
            rw [hq] at z0 ok2
            have hgd2 := getD_at (T := T) (k := m) (by omega)
            obtain ⟨cv, hcv⟩ : ∃ cv, belowB q id = cv := ⟨_, rfl⟩
            have hst : stepS T (m + 1) = cv := by
              rw [stepS, hgd, hok, show m + 1 - 1 = m by omega, hgd2, hq, hcv]; simp
            replace z0 := cell_ext hWb.out z0
            have Q1 := Lib.hid ok1
            have Q2 := Lib.hid (ok2.ext hWb.out)
            have Qc := Lib.hid hcv
            have ke : ((m + 1 : Nat) : Int) - 1 = (m : Int) := by omega
            have kp : (0 : Int) < ((m + 1 : Nat) : Int) := by omega
            have kt : (m : Int).toNat = m := by omega
            clear hd hgd hgd2 hs hcells hok hq hcv ok1 ok2
            cases cv
            · have Hbad := Lib.hid (rightH_bad (v := v) (S := S) (r := r) (N := N) (rightTo_bad (k := m + 1) hst T.length hp))
              clear hst
              go_wp2_with fail
              go_quiet ((go_at_call 74; with_reducible exact quiet_of (below_q A2 c2 q A1 c1 id _ (Q2.out.ext (by repeat (first | exact Below.refl _ _ | apply bl_drewN))) (Q1.out.ext (by repeat (first | exact Below.refl _ _ | apply bl_drewN))) false Qc.out)))
              go_wp2_with fail
              go_ret
              exact ⟨ret_bool (by rw [← hb.out, Hbad.out]), by repeat (first | exact HgW.out | apply bl_drewN)⟩
            · have Hnext : Hid (rightTo T (m + 1 + 1) = true) := by
                show _ = _
                rw [rightTo, Hr.out, hst]; rfl
              clear hst
              go_wp2_with fail
              go_quiet ((go_at_call 74; with_reducible exact quiet_of (below_q A2 c2 q A1 c1 id _ (Q2.out.ext (by repeat (first | exact Below.refl _ _ | apply bl_drewN))) (Q1.out.ext (by repeat (first | exact Below.refl _ _ | apply bl_drewN))) true Qc.out)))
              go_wp2_with fail
              exact ⟨⟨m + 1 + 1, by omega, congrArg (Value.int .i64) (by omega), Hnext, by repeat (first | exact HbW.out | apply bl_drewN)⟩, by show T.length - (((m + 1 : Nat) : Int) + 1).toNat < T.length - (((m + 1 : Nat) : Int)).toNat; omega⟩
      · have hke : k = T.length := by omega
        have Hfin := Lib.hid (rightH_iff (v := v) (S := S) (r := r) (N := N) (T := T))
        go_wp2_with fail
        go_ret
        refine ⟨ret_bool ?_, Hg.out⟩
        obtain ⟨p1, p2, p3, p4, p5, p6, p7⟩ := HP.out
        rw [← hb.out]
        exact (Hfin.out.2 ⟨p1, p2, p3, p4, p5, p6, p7, by rw [← hke]; exact Hr.out⟩).symm
end Go.Proofs.Ytlcclaicodghcaa
