import Derived.Test.YtlcclaicodghcaaCf
import Derived.Test.YtlcclaicodghcaaPc
namespace Go.Proofs.Ytlcclaicodghcaa
open Go.RowKit

/-- Sections that lie in memory. -/
def RT (w : World) (A : Option Addr) (T : List SectD) : Prop :=
  T = [] ∨ ∃ b off, A = some ⟨b, off, none⟩ ∧ ∀ i (h : i < T.length), (∃ A' c', w.cell? ⟨b, off + i * 3, none⟩ = some (.slice A' T[i].1.length c') ∧ OkB w A' c' T[i].1) ∧
    w.cell? ⟨b, off + i * 3 + 1, none⟩ = some (.int .i64 T[i].2.1) ∧ w.cell? ⟨b, off + i * 3 + 2, none⟩ = some (.int .i64 T[i].2.2)
theorem RT.ext {w w' : World} {A : Option Addr} {T : List SectD} (h : RT w A T) (hb : Below w.heap.size w w') : RT w' A T := by
  rcases h with h | ⟨b, off, h1, h2⟩
  · exact .inl h
  · refine .inr ⟨b, off, h1, fun i hi => ?_⟩
    obtain ⟨⟨A', c', h3, h4⟩, h5, h6⟩ := h2 i hi
    exact ⟨⟨A', c', cell_ext hb h3, h4.ext hb⟩, cell_ext hb h5, cell_ext hb h6⟩
theorem RT.some_ {w : World} {A : Option Addr} {T : List SectD} (h : RT w A T) {k : Nat} (hk : k < T.length) :
    ∃ b off, A = some ⟨b, off, none⟩ ∧ ∀ i (h : i < T.length), (∃ A' c', w.cell? ⟨b, off + i * 3, none⟩ = some (.slice A' T[i].1.length c') ∧ OkB w A' c' T[i].1) ∧
    w.cell? ⟨b, off + i * 3 + 1, none⟩ = some (.int .i64 T[i].2.1) ∧ w.cell? ⟨b, off + i * 3 + 2, none⟩ = some (.int .i64 T[i].2.2) := by
  rcases h with rfl | ⟨b, off, h1, h2⟩
  · simp at hk
  · exact ⟨b, off, h1, h2⟩
/-- What a head holds. -/
def OkH (w : World) (AS : Option Addr) (cS : Nat) (S : List UInt8) (AN : Option Addr) (cN : Nat) (N : List UInt8) (AT : Option Addr) (T : List SectD) : Prop :=
  OkB w AS cS S ∧ OkB w AN cN N ∧ RT w AT T ∧ T.length ≤ 140737488351232
theorem OkH.ext {w w' : World} {AS : Option Addr} {cS : Nat} {S : List UInt8} {AN : Option Addr} {cN : Nat} {N : List UInt8} {AT : Option Addr} {T : List SectD} (h : OkH w AS cS S AN cN N AT T) (hb : Below w.heap.size w w') : OkH w' AS cS S AN cN N AT T :=
  ⟨h.1.ext hb, h.2.1.ext hb, h.2.2.1.ext hb, h.2.2.2⟩

theorem box_at {w wr : World} {c : Array Value} {t : TypeId} (hb : Below (w.alloc (.cells c t)).heap.size (w.alloc (.cells c t)) wr) (i : Nat) : wr.cell? ⟨w.heap.size, i, none⟩ = c[i]? :=
  (hb.cell (p := ⟨w.heap.size, i, none⟩) (by simp)).trans (World.cell?_alloc_at _ _ _ _ rfl)
theorem getD_at {T : List SectD} {k : Nat} (h : k < T.length) : T.getD k noS = T[k] := by simp [List.getD, h]

theorem rightH_of {v : Int} {S : List UInt8} {r : Int} {N : List UInt8} {T : List SectD} (hr : rightTo T T.length = true) :
    rightH v S r N T = decide (1 ≤ v ∧ v ≤ 4 ∧ S.length = 16 ∧ N.length = 12 ∧ 1 ≤ r ∧ r ≤ 1048576 ∧ T.length ≤ 64) := by
  rw [Bool.eq_iff_iff, rightH_iff, decide_eq_true_eq]
  exact ⟨fun ⟨a, b, c, d, e, f, g, _⟩ => ⟨a, b, c, d, e, f, g⟩, fun ⟨a, b, c, d, e, f, g⟩ => ⟨a, b, c, d, e, f, g, hr⟩⟩

set_option maxRecDepth 20000 in
set_option maxHeartbeats 4000000 in
theorem right_any (v r : Int) (AS : Option Addr) (cS : Nat) (S : List UInt8) (AN : Option Addr) (cN : Nat) (N : List UInt8) (AT : Option Addr) (cT : Nat) (T : List SectD) (w : World) (hH : OkH w AS cS S AN cN N AT T) (b : Bool) (hb : rightH v S r N T = b) :
    Calls Try.prog 46 #[.agg #[.int .i64 v, .slice AS S.length cS, .int .i64 r, .slice AN N.length cN, .slice AT T.length cT]] w fun e w' => e = .returned (.bool b) ∧ Below w.heap.size w w' := by
  have g0 := bl_alloc (Below.refl _ w) (.cells #[.int .i64 v, .slice AS S.length cS, .int .i64 r, .slice AN N.length cN, .slice AT T.length cT] 75)
  have hl := hH.2.2.2
  replace hH := Lib.hid (hH.ext g0)
  have G := Lib.hid g0
  replace hb := Lib.hid hb
  clear g0
  go_enter Try.func46, Try.ntmps46
  go_wp2_with fail
  go_loopw [8] (fun i wr => ∃ k : Nat, k ≤ T.length ∧ i = .int .i64 k ∧ Hid (rightTo T k = true) ∧ Hid (Below (w.alloc (.cells #[.int .i64 v, .slice AS S.length cS, .int .i64 r, .slice AN N.length cN, .slice AT T.length cT] 75)).heap.size (w.alloc (.cells #[.int .i64 v, .slice AS S.length cS, .int .i64 r, .slice AN N.length cN, .slice AT T.length cT] 75)) wr)) (fun i _ => T.length - (intOf i).toNat)
  case atStart => exact ⟨0, Nat.zero_le _, rfl, rfl, Below.refl _ _⟩
  case round =>
    obtain ⟨k, hk, rfl, Hr, Hb⟩ := hrel
    have Hg := Lib.hid (bl_then G.out Hb.out)
    have x0 : wr.cell? ⟨w.heap.size, 0, none⟩ = some (.int .i64 v) := box_at Hb.out 0
    have x1 : wr.cell? ⟨w.heap.size, 1, none⟩ = some (.slice AS S.length cS) := box_at Hb.out 1
    have x2 : wr.cell? ⟨w.heap.size, 2, none⟩ = some (.int .i64 r) := box_at Hb.out 2
    have x3 : wr.cell? ⟨w.heap.size, 3, none⟩ = some (.slice AN N.length cN) := box_at Hb.out 3
    have x4 : wr.cell? ⟨w.heap.size, 4, none⟩ = some (.slice AT T.length cT) := box_at Hb.out 4
    by_cases hp : k < T.length
    · obtain ⟨bk, off, hA, hcells⟩ := (hH.out.2.2.1.ext Hb.out).some_ hp
      subst hA
      obtain ⟨⟨A1, c1, y0, ok1⟩, y1, y2⟩ := hcells k hp
      obtain ⟨s, hs⟩ : ∃ s, T[k] = s := ⟨_, rfl⟩
      obtain ⟨id, ep, ln⟩ := s
      rw [hs] at y0 ok1 y1 y2
      go_upto_region 4 with fail
      obtain ⟨W, hW⟩ : ∃ W, wr.alloc (.cells #[.slice A1 id.length c1, .int .i64 ep, .int .i64 ln] 98) = W := ⟨_, rfl⟩
      have s0 : W.cell? ⟨wr.heap.size, 0, none⟩ = some (.slice A1 id.length c1) := by rw [← hW, World.cell?_alloc_at _ _ _ _ rfl]; rfl
      have s1 : W.cell? ⟨wr.heap.size, 1, none⟩ = some (.int .i64 ep) := by rw [← hW, World.cell?_alloc_at _ _ _ _ rfl]; rfl
      have s2 : W.cell? ⟨wr.heap.size, 2, none⟩ = some (.int .i64 ln) := by rw [← hW, World.cell?_alloc_at _ _ _ _ rfl]; rfl
      have hWb : Below wr.heap.size wr W := by rw [← hW]; exact bl_alloc (Below.refl _ _) _
      replace x4 := cell_ext hWb x4
      replace ok1 := ok1.ext hWb
      have HgW := Lib.hid (bl_then Hg.out hWb)
      have HbW := Lib.hid (bl_then Hb.out hWb)
      simp only [hW]
      clear hW
      replace hWb := Lib.hid hWb
      replace y0 := Lib.hid y0
      obtain ⟨B, hB⟩ : ∃ B, wr.heap.size = B := ⟨_, rfl⟩
      rw [hB] at s0 s1 s2
      simp only [hB]
      clear hB x0 x1 x2 x3 y1 y2
      have hgd := getD_at hp
      rw [hs] at hgd
      have hd : ¬ (id.length ≤ 255 ∧ 0 ≤ ep ∧ ep < 281474976710656 ∧ 1 ≤ ln ∧ ln ≤ 1048576) ∨ (id.length ≤ 255 ∧ 0 ≤ ep ∧ ep < 281474976710656 ∧ 1 ≤ ln ∧ ln ≤ 1048576) := (Decidable.em _).symm
      rcases hd with hd | hd
      · have Hbad := Lib.hid (rightH_bad (v := v) (S := S) (r := r) (N := N) (rightTo_bad (stepS_bad (by rw [hgd]; exact okS_false hd)) T.length hp))
        have hd' : 255 < (id.length : Int) ∨ (¬ 255 < (id.length : Int) ∧ ep < 0) ∨ (¬ 255 < (id.length : Int) ∧ ¬ ep < 0 ∧ 281474976710656 ≤ ep) ∨ (¬ 255 < (id.length : Int) ∧ ¬ ep < 0 ∧ ¬ 281474976710656 ≤ ep ∧ ln < 1) ∨ (¬ 255 < (id.length : Int) ∧ ¬ ep < 0 ∧ ¬ 281474976710656 ≤ ep ∧ ¬ ln < 1 ∧ 1048576 < ln) := by omega
        clear hd hgd hs hcells
        rcases hd' with h1 | ⟨h1, h2⟩ | ⟨h1, h2, h3⟩ | ⟨h1, h2, h3, h4⟩ | ⟨h1, h2, h3, h4, h5⟩
        · go_wp2_with fail
          go_quiet (fail)
          go_wp2_with fail
          go_ret
          exact ⟨ret_bool (by rw [← hb.out, Hbad.out]), by repeat (first | exact HgW.out | apply bl_drewN)⟩
        · replace h1 := decide_eq_false h1
          go_wp2_with fail
          go_quiet (fail)
          go_wp2_with fail
          go_ret
          exact ⟨ret_bool (by rw [← hb.out, Hbad.out]), by repeat (first | exact HgW.out | apply bl_drewN)⟩
        · replace h1 := decide_eq_false h1; replace h2 := decide_eq_false h2
          go_wp2_with fail
          go_quiet (fail)
          go_wp2_with fail
          go_ret
          exact ⟨ret_bool (by rw [← hb.out, Hbad.out]), by repeat (first | exact HgW.out | apply bl_drewN)⟩
        · replace h1 := decide_eq_false h1; replace h2 := decide_eq_false h2; replace h3 := decide_eq_false h3
          go_wp2_with fail
          go_quiet (fail)
          go_wp2_with fail
          go_ret
          exact ⟨ret_bool (by rw [← hb.out, Hbad.out]), by repeat (first | exact HgW.out | apply bl_drewN)⟩
        · replace h1 := decide_eq_false h1; replace h2 := decide_eq_false h2; replace h3 := decide_eq_false h3; replace h4 := decide_eq_false h4
          go_wp2_with fail
          go_quiet (fail)
          go_wp2_with fail
          go_ret
          exact ⟨ret_bool (by rw [← hb.out, Hbad.out]), by repeat (first | exact HgW.out | apply bl_drewN)⟩
      · have hok := (okS_iff (s := (id, ep, ln))).2 hd
        have h1 : decide (255 < (id.length : Int)) = false := decide_eq_false (by omega)
        have h2 : decide (ep < 0) = false := decide_eq_false (by omega)
        have h3 : decide (281474976710656 ≤ ep) = false := decide_eq_false (by omega)
        have h4 : decide (ln < 1) = false := decide_eq_false (by omega)
        have h5 : decide (1048576 < ln) = false := decide_eq_false (by omega)
        cases k with
        | zero =>
          have Hnext : Hid (rightTo T (0 + 1) = true) := by
            show _ = _
            rw [rightTo, Hr.out, stepS, hgd, hok]; rfl
          clear hd hgd hs hcells hok
          go_wp2_with fail
          go_quiet (fail)
          go_wp2_with fail
          exact ⟨⟨0 + 1, by omega, congrArg (Value.int .i64) (by omega), Hnext, by repeat (first | exact HbW.out | apply bl_drewN)⟩, by show T.length - (((0 : Nat) : Int) + 1).toNat < T.length - (((0 : Nat) : Int)).toNat; omega⟩
        | succ m =>
          obtain ⟨⟨A2, c2, z0, ok2⟩, -, -⟩ := hcells m (by omega)
          obtain ⟨q, hq⟩ : ∃ q, T[m].1 = q := ⟨_, rfl⟩
          rw [hq] at z0 ok2
          have hgd2 := getD_at (T := T) (k := m) (by omega)
          obtain ⟨cv, hcv⟩ : ∃ cv, Lib.compareBytes q id = cv := ⟨_, rfl⟩
          have hst : stepS T (m + 1) = decide (cv < 0) := by
            rw [stepS, hgd, hok, show m + 1 - 1 = m by omega, hgd2, hq]
            unfold belowB
            rw [hcv]; simp
          have Q1 := Lib.hid ok1
          replace z0 := cell_ext hWb.out z0
          have Q2 := Lib.hid (ok2.ext hWb.out)
          have Qc := Lib.hid hcv
          have ke : ((m + 1 : Nat) : Int) - 1 = (m : Int) := by omega
          have kp : (0 : Int) < ((m + 1 : Nat) : Int) := by omega
          have kt : (m : Int).toNat = m := by omega
          clear hd hgd hgd2 hs hcells hok hq hcv ok1 ok2
          by_cases hc : 0 ≤ cv
          · have Hbad := Lib.hid (rightH_bad (v := v) (S := S) (r := r) (N := N) (rightTo_bad (k := m + 1) (by rw [hst]; exact decide_eq_false (by omega)) T.length hp))
            clear hst
            go_wp2_with fail
            go_quiet ((go_at_call 73; with_reducible exact quiet_left (compare_any A2 c2 q A1 c1 id _ (Q2.out.ext (by repeat (first | exact Below.refl _ _ | apply bl_drewN))) (Q1.out.ext (by repeat (first | exact Below.refl _ _ | apply bl_drewN))) cv Qc.out)))
            go_wp2_with fail
            go_ret
            exact ⟨ret_bool (by rw [← hb.out, Hbad.out]), by repeat (first | exact HgW.out | apply bl_drewN)⟩
          · have Hnext : Hid (rightTo T (m + 1 + 1) = true) := by
              show _ = _
              rw [rightTo, Hr.out, hst, decide_eq_true (by omega)]; rfl
            clear hst
            go_wp2_with fail
            go_quiet ((go_at_call 73; with_reducible exact quiet_left (compare_any A2 c2 q A1 c1 id _ (Q2.out.ext (by repeat (first | exact Below.refl _ _ | apply bl_drewN))) (Q1.out.ext (by repeat (first | exact Below.refl _ _ | apply bl_drewN))) cv Qc.out)))
            go_wp2_with fail
            exact ⟨⟨m + 1 + 1, by omega, congrArg (Value.int .i64) (by omega), Hnext, by repeat (first | exact HbW.out | apply bl_drewN)⟩, by show T.length - (((m + 1 : Nat) : Int) + 1).toNat < T.length - (((m + 1 : Nat) : Int)).toNat; omega⟩
    · have hke : k = T.length := by omega
      have Hfin := Lib.hid (rightH_of (v := v) (S := S) (r := r) (N := N) (by rw [← hke]; exact Hr.out))
      go_wp2_with fail
      all_goals go_ret
      all_goals exact ⟨ret_bool (by rw [← hb.out, Hfin.out]; first | exact (decide_eq_false (by omega)).symm | exact decide_eq_decide.2 (by omega)), Hg.out⟩
end Go.Proofs.Ytlcclaicodghcaa
