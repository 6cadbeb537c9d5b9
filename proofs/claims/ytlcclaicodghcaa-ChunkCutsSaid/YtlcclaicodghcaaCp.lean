import Derived.Test.YtlcclaicodghcaaCn
import Derived.Test.YtlcclaicodghcaaCo
namespace Go.Proofs.Ytlcclaicodghcaa
open Go.RowKit

set_option maxRecDepth 20000 in
set_option maxHeartbeats 4000000 in
/-- Where all chunks stand, as the document says. -/
theorem rpieces_any (v r : Int) (AS : Option Addr) (cS : Nat) (S : List UInt8) (AN : Option Addr) (cN : Nat) (N : List UInt8) (AT : Option Addr) (cT : Nat) (T : List SectD) (w : World) (hH : OkH w AS cS S AN cN N AT T) (hR : rightH v S r N T = true) (n0 : Nat) (hn0 : (writeL v S r N T).length = n0) (hn9 : n0 ≤ 1000000) :
    Calls Try.prog 54 #[.agg #[.int .i64 v, .slice AS S.length cS, .int .i64 r, .slice AN N.length cN, .slice AT T.length cT]] w fun e w' => (∃ A c, e = .returned (.slice A (piecesP T n0 T.length).length c) ∧ OwnV w' w.heap.size 94 5 A (piecesP T n0 T.length).length c (rowP (piecesP T n0 T.length))) ∧ Below w.heap.size w w' := by
  have g0 := bl_alloc (Below.refl _ w) (.cells #[.int .i64 v, .slice AS S.length cS, .int .i64 r, .slice AN N.length cN, .slice AT T.length cT] 75)
  replace hH := Lib.hid (hH.ext g0)
  have G := Lib.hid g0
  clear g0
  obtain ⟨i0, hi, hz0, hz1, hz2⟩ := info_parts info94
  have hr := rightH_iff.1 hR
  have T9 : T.length ≤ 64 := hr.2.2.2.2.2.2.1
  have HRt := Lib.hid hr.2.2.2.2.2.2.2
  obtain ⟨LW, hLW⟩ : ∃ L, writeL v S r N T = L := ⟨_, rfl⟩
  rw [hLW] at hn0
  replace hLW := Lib.hid hLW
  subst hn0
  clear hr
  go_enter Try.func54, Try.ntmps54
  go_wp2_with fail
  refine (c_rwrite v r AS cS S AN cN N AT cT T _ LW _ hH.out rfl hLW.out).mono ?_; rintro e w1 ⟨⟨A1, c1, rfl, o1⟩, hb1⟩
  have x4 : w1.cell? ⟨w.heap.size, 4, none⟩ = some (.slice AT T.length cT) := box_at hb1 4
  have hT : RT (w.alloc (.cells #[.int .i64 v, .slice AS S.length cS, .int .i64 r, .slice AN N.length cN, .slice AT T.length cT] 75)) AT T := hH.out.2.2.1
  replace hT := Lib.hid (hT.ext hb1)
  have g1 := Lib.hid (bl_then G.out hb1)
  clear hb1 o1
  replace x4 := Lib.hid x4
  go_wp2_with fail
  go_loopw [6, 5, 7] (fun o a i wr => ∃ k : Nat, k ≤ T.length ∧ i = .int .i64 k ∧ (∃ st : Nat, Hid (startP T LW.length k = st) ∧ a = .int .i64 st) ∧ (∃ Ao co m xs, o = .slice Ao m co ∧ Hid (m = (piecesP T LW.length k).length) ∧ Hid (xs = rowP (piecesP T LW.length k)) ∧ Hid (OwnV wr w1.heap.size 94 5 Ao m co xs)) ∧ Hid (Below w1.heap.size w1 wr)) (fun _ _ i _ => T.length - (intOf i).toNat)
  case atStart => exact ⟨0, Nat.zero_le _, rfl, ⟨LW.length, rfl, rfl⟩, ⟨none, 0, 0, [], rfl, rfl, rfl, OwnV.nil _ _ _ _⟩, Below.refl _ _⟩
  case round =>
    obtain ⟨k, hk, rfl, ⟨st, hst, rfl⟩, ⟨Ao, co, m, xs, rfl, hm, hxs, Ho⟩, Hb⟩ := hrel
    have y4 := cell_ext Hb.out x4.out
    by_cases hp : k < T.length
    · obtain ⟨bk, off, hA, hcells⟩ := (hT.out.ext Hb.out).some_ hp
      subst hA
      obtain ⟨-, -, y2⟩ := hcells k hp
      have hok := okS_iff.1 (right_ok HRt.out hp)
      have hLN := lenS_at hp
      obtain ⟨s, hs⟩ : ∃ s, T[k] = s := ⟨_, rfl⟩
      obtain ⟨id, ep, ln⟩ := s
      rw [hs] at y2 hok hLN
      obtain ⟨LN, hLN'⟩ : ∃ z, lenS T k = z := ⟨_, rfl⟩
      have q1 : 1 ≤ ln := hok.2.2.2.1
      have q2 : ln ≤ 1048576 := hok.2.2.2.2
      obtain rfl : ln = (LN : Int) := by rw [hLN'] at hLN; show ln = _; have h9 : LN = ln.toNat := hLN; omega
      have hpl := piecesP_len T LW.length (lenS_le HRt.out) k
      have hsl := startP_le T LW.length (lenS_le HRt.out) k
      rw [← hm.out] at hpl
      rw [hst.out] at hsl
      have hN9 : nC LN ≤ 4096 := nC_le (by omega)
      replace hLN' := Lib.hid hLN'
      clear hs hLN hok hcells
      obtain ⟨wo, hwo⟩ : ∃ wo : World, wo = wr := ⟨_, rfl⟩
      subst hwo
      go_wp2_with fail
      go_loopw [6, 5, 8, 9] (fun o a l j wi => ∃ q rest : Nat, Hid (q ≤ nC LN) ∧ q ≤ 4096 ∧ j = .int .i64 q ∧ (∃ at_ : Nat, Hid (atP LN st q = at_) ∧ at_ ≤ 100000000 ∧ a = .int .i64 at_) ∧ (∃ Ai ci m2 ys, o = .slice Ai m2 ci ∧ Hid (m2 = (piecesP T LW.length k ++ chunksP k LN st q).length) ∧ m2 ≤ 1000000 ∧ Hid (ys = rowP (piecesP T LW.length k ++ chunksP k LN st q)) ∧ Hid (OwnV wi w1.heap.size 94 5 Ai m2 ci ys)) ∧ Hid (rest = LN - q * 256) ∧ rest ≤ 1048576 ∧ l = .int .i64 rest ∧ Hid (Below w1.heap.size w1 wi)) (fun _ _ l _ _ => (intOf l).toNat)
      case atStart => exact ⟨0, LN, Nat.zero_le _, Nat.zero_le _, rfl, ⟨st, atP_zero _ _, by omega, rfl⟩, ⟨Ao, co, m, xs, rfl, by show _ = _; rw [hm.out]; simp [chunksP], by omega, by show _ = _; rw [hxs.out]; simp [chunksP], Ho⟩, by show _ = _; omega, by omega, rfl, Hb⟩
      case round =>
        obtain ⟨q, rest, hq, hq9, rfl, ⟨at_, hat, hat9, rfl⟩, ⟨Ai, ci, m2, ys, rfl, hm2, hm9, hys, Hi⟩, hrs, hr9, rfl, Hw⟩ := hrel
        by_cases hlt : 0 < rest
        · have hlt' : q * 256 < LN := by have := hrs.out; omega
          obtain ⟨M, hM⟩ : ∃ z : Nat, min rest 256 = z := ⟨_, rfl⟩
          have hM9 : M ≤ 256 := by omega
          have hqn : q < nC LN := nC_lt.2 hlt'
          have hnx := Lib.hid ((atP_succ (a := st) hlt').trans (by rw [hat.out, ← hrs.out, hM]))
          have hcp : Hid (cellsP (chunkP k LN st q) = #[.int .i64 k, .int .i64 q, .bool (decide (rest ≤ 256)), .int .i64 at_, .int .i64 ((M : Int) + 32)]) := by
            show _ = _
            have ef : st + q * 288 = at_ := by rw [← atP_from hlt', hat.out]
            simp only [cellsP, chunkP, ← hrs.out, hM, ef]
            simp
          have hcs := Lib.hid (chunksP_succ k LN st q)
          replace hM := Lib.hid hM
          have hd : rest < 256 ∨ rest = 256 ∨ 256 < rest := by omega
          rcases hd with hd | hd | hd
          · have hME : Hid (M = rest) := by show _ = _; have := hM.out; omega
            have hMe := hME
            rw [decide_eq_true (by omega)] at hcp
            rw [hME.out] at hcp
            go_wp2_with (at_builtin; refine append_new _ #[.int .i64 k, .int .i64 q, .bool true, .int .i64 at_, .int .i64 ((rest : Int) + 32)] rfl (.tmp 41) (.tmp 50) 87 rfl w1.heap.size 94 i0 (.agg #[.int .i64 0, .int .i64 0, .bool false, .int .i64 0, .int .i64 0]) 5 40 Try.underlying87 hi hz0 hz1 hz2 rfl (by decide) Ai m2 ci ys rfl Hi.out 1 rfl rfl (by simp [Value.oneCell']) (by unfold maxLen; omega) (by omega) Hw.out.size ?_; intro A2 c2 w2 Ho2 Hb2)
            refine ⟨⟨q + 1, 0, hqn, by omega, congrArg (Value.int .i64) (by omega), ⟨at_ + (M + 32), hnx, ?_, congrArg (Value.int .i64) (by have := hMe.out; omega)⟩, ⟨A2, c2, m2 + 1, _, rfl, ?_, ?_, ?_, Ho2⟩, by show _ = _; have := hrs.out; omega, by omega, congrArg (Value.int .i64) (by omega), Hw.out.trans Hb2.out⟩, by show (((0 : Nat) : Int)).toNat < (((rest : Nat) : Int)).toNat; omega⟩
            · have := hat.out; have := hsl; have := hMe.out; unfold atP at *; omega
            · show _ = _; rw [hcs.out, ← List.append_assoc, List.length_append, ← hm2.out]; rfl
            · have h9 := hm2.out; rw [List.length_append, chunksP_len] at h9; have h8 := hm.out; omega
            · show _ = _; rw [hcs.out, ← List.append_assoc, rowP_snoc, ← hys.out, hcp.out]; try rfl
          · have hMe : Hid (M = 256) := by show _ = _; have := hM.out; omega
            rw [decide_eq_true (by omega), hMe.out] at hcp
            subst hd
            go_wp2_with (at_builtin; refine append_new _ #[.int .i64 k, .int .i64 q, .bool true, .int .i64 at_, .int .i64 288] rfl (.tmp 41) (.tmp 50) 87 rfl w1.heap.size 94 i0 (.agg #[.int .i64 0, .int .i64 0, .bool false, .int .i64 0, .int .i64 0]) 5 40 Try.underlying87 hi hz0 hz1 hz2 rfl (by decide) Ai m2 ci ys rfl Hi.out 1 rfl rfl (by simp [Value.oneCell']) (by unfold maxLen; omega) (by omega) Hw.out.size ?_; intro A2 c2 w2 Ho2 Hb2)
            refine ⟨⟨q + 1, 0, hqn, by omega, congrArg (Value.int .i64) (by omega), ⟨at_ + (M + 32), hnx, ?_, congrArg (Value.int .i64) (by have := hMe.out; omega)⟩, ⟨A2, c2, m2 + 1, _, rfl, ?_, ?_, ?_, Ho2⟩, by show _ = _; have := hrs.out; omega, by omega, congrArg (Value.int .i64) (by omega), Hw.out.trans Hb2.out⟩, by show (((0 : Nat) : Int)).toNat < (((256 : Nat) : Int)).toNat; omega⟩
            · have := hat.out; have := hsl; have := hMe.out; unfold atP at *; omega
            · show _ = _; rw [hcs.out, ← List.append_assoc, List.length_append, ← hm2.out]; rfl
            · have h9 := hm2.out; rw [List.length_append, chunksP_len] at h9; have h8 := hm.out; omega
            · show _ = _; rw [hcs.out, ← List.append_assoc, rowP_snoc, ← hys.out, hcp.out]; try rfl
          · have hMe : Hid (M = 256) := by show _ = _; have := hM.out; omega
            rw [decide_eq_false (by omega), hMe.out] at hcp
            obtain ⟨R2, rfl⟩ : ∃ R2 : Nat, rest = R2 + 256 := ⟨rest - 256, by omega⟩
            have e1 : ((R2 : Int) == 0) = false := by simpa using (show ¬ (R2 : Int) = 0 by omega)
            have e2 : ((R2 + 256 : Nat) : Int) - 256 = (R2 : Int) := by omega
            have e3 : ¬ ((R2 + 256 : Nat) : Int) < 256 := by omega
            have e4 : (0 : Int) < ((R2 + 256 : Nat) : Int) := by omega
            go_wp2_with (at_builtin; refine append_new _ #[.int .i64 k, .int .i64 q, .bool false, .int .i64 at_, .int .i64 288] rfl (.tmp 41) (.tmp 50) 87 rfl w1.heap.size 94 i0 (.agg #[.int .i64 0, .int .i64 0, .bool false, .int .i64 0, .int .i64 0]) 5 40 Try.underlying87 hi hz0 hz1 hz2 rfl (by decide) Ai m2 ci ys rfl Hi.out 1 rfl rfl (by simp [Value.oneCell']) (by unfold maxLen; omega) (by omega) Hw.out.size ?_; intro A2 c2 w2 Ho2 Hb2)
            refine ⟨⟨q + 1, R2, hqn, by omega, congrArg (Value.int .i64) (by omega), ⟨at_ + (M + 32), hnx, ?_, congrArg (Value.int .i64) (by have := hMe.out; omega)⟩, ⟨A2, c2, m2 + 1, _, rfl, ?_, ?_, ?_, Ho2⟩, by show _ = _; have := hrs.out; omega, by omega, congrArg (Value.int .i64) (by omega), Hw.out.trans Hb2.out⟩, by show (((R2 : Nat) : Int)).toNat < (((R2 + 256 : Nat) : Int)).toNat; omega⟩
            · have := hat.out; have := hsl; have := hMe.out; unfold atP at *; omega
            · show _ = _; rw [hcs.out, ← List.append_assoc, List.length_append, ← hm2.out]; rfl
            · have h9 := hm2.out; rw [List.length_append, chunksP_len] at h9; have h8 := hm.out; omega
            · show _ = _; rw [hcs.out, ← List.append_assoc, rowP_snoc, ← hys.out, hcp.out]; try rfl
        · have hqe : q = nC LN := by have := hq.out; have := hrs.out; have := nC_lt (s := LN) (k := q); omega
          go_wp2_with fail
          have hst2 : startP T LW.length (k + 1) = at_ := by rw [startP, hst.out, hLN'.out, ← hat.out, hqe, atP_end]
          have hpc : piecesP T LW.length (k + 1) = piecesP T LW.length k ++ chunksP k LN st q := by rw [piecesP, hLN'.out, hst.out, hqe]
          exact ⟨⟨k + 1, by omega, congrArg (Value.int .i64) (by omega), ⟨at_, hst2, rfl⟩, ⟨Ai, ci, m2, ys, rfl, by show _ = _; rw [hpc]; exact hm2.out, by show _ = _; rw [hpc]; exact hys.out, Hi⟩, Hw⟩, by show T.length - ((k : Int) + 1).toNat < T.length - ((k : Int)).toNat; omega⟩
    · have hke : k = T.length := by omega
      subst hke
      go_wp2_with fail
      go_ret
      exact ⟨⟨Ao, co, ret_sl hm.out, by rw [← hm.out, ← hxs.out]; exact Ho.out.base_le g1.out.size⟩, bl_then g1.out Hb.out⟩
end Go.Proofs.Ytlcclaicodghcaa
