import Derived.Test.YtlcclaicodghcaaMk
import Derived.Test.YtlcclaicodghcaaWLast
namespace Go.Proofs.Ytlcclaicodghcaa
open Go.RowKit
open Go.Proofs.YtlcclaicodghcaaW.PrintLast

theorem five_reads {w w' : World} {B : Nat} {a0 a1 a2 a3 a4 : Value} (k : Reads w w')
    (h : w.cell? ⟨B, 0, none⟩ = some a0 ∧ w.cell? ⟨B, 1, none⟩ = some a1 ∧ w.cell? ⟨B, 2, none⟩ = some a2 ∧ w.cell? ⟨B, 3, none⟩ = some a3 ∧ w.cell? ⟨B, 4, none⟩ = some a4) :
    w'.cell? ⟨B, 0, none⟩ = some a0 ∧ w'.cell? ⟨B, 1, none⟩ = some a1 ∧ w'.cell? ⟨B, 2, none⟩ = some a2 ∧ w'.cell? ⟨B, 3, none⟩ = some a3 ∧ w'.cell? ⟨B, 4, none⟩ = some a4 :=
  ⟨k _ _ _ h.1, k _ _ _ h.2.1, k _ _ _ h.2.2.1, k _ _ _ h.2.2.2.1, k _ _ _ h.2.2.2.2⟩
theorem own_mark (W : World) (n : Nat) (hn : n = W.heap.size) : OwnB (W.alloc (.cells #[.int .u8 80, .int .u8 89, .int .u8 88] 5)) n (some ⟨n, 0, none⟩) 3 [80, 89, 88] := by
  subst hn
  exact ⟨World.ownsRow_lit (base := W.heap.size) W #[.int .u8 80, .int .u8 89, .int .u8 88] 3 (Nat.le_refl _) (by simp [maxLen]) (by simp), by simp⟩

theorem own_then {w X w2 : World} {A : Option Addr} {c : Nat} {L : List UInt8} (h : Below w.heap.size w X) (hb : Below X.heap.size X w2) (o : OwnB w2 X.heap.size A c L) : OwnB w2 w.heap.size A c L ∧ Below w.heap.size w w2 := ⟨o.base_le h.size, bl_then h hb⟩
theorem concat_n (A : Option Addr) (c : Nat) (l : List (List UInt8)) (L : List UInt8) (n : Nat) (hn : l.length = n) (w : World) (hR : RBB w A l) (hl0 : l.length ≤ 140737488351232) (hs : l.flatten.length ≤ 140737488351232) (hL : l.flatten = L) :
    Calls Try.prog 70 #[.slice A n c] w fun e w' => (∃ A' c', e = .returned (.slice A' L.length c') ∧ OwnB w' w.heap.size A' c' L) ∧ Below w.heap.size w w' := by
  subst hn; exact concat_any A c l L w hR hl0 hs hL
theorem three_reads {w w' : World} {B : Nat} {a0 a1 a2 : Value} (k : Reads w w') (h : w.cell? ⟨B, 0, none⟩ = some a0 ∧ w.cell? ⟨B, 1, none⟩ = some a1 ∧ w.cell? ⟨B, 2, none⟩ = some a2) :
    w'.cell? ⟨B, 0, none⟩ = some a0 ∧ w'.cell? ⟨B, 1, none⟩ = some a1 ∧ w'.cell? ⟨B, 2, none⟩ = some a2 := ⟨k _ _ _ h.1, k _ _ _ h.2.1, k _ _ _ h.2.2⟩
theorem rbb4 {X : World} {A0 A1 A2 A3 : Option Addr} {c0 c1 c2 c3 : Nat} {l0 l1 l2 l3 : List UInt8} (h0 : OkB X A0 c0 l0) (h1 : OkB X A1 c1 l1) (h2 : OkB X A2 c2 l2) (h3 : OkB X A3 c3 l3) (o : Nat) (ho : o = X.heap.size) :
    RBB (X.alloc (.cells #[.slice A0 l0.length c0, .slice A1 l1.length c1, .slice A2 l2.length c2, .slice A3 l3.length c3] 22)) (some ⟨o, 0, none⟩) [l0, l1, l2, l3] := by
  subst ho
  have hb := bl_alloc (Below.refl _ X) (.cells #[.slice A0 l0.length c0, .slice A1 l1.length c1, .slice A2 l2.length c2, .slice A3 l3.length c3] 22)
  refine .inr ⟨X.heap.size, 0, rfl, fun i hi => ?_⟩
  rw [World.cell?_alloc_at _ _ _ _ rfl]
  match i, hi with
  | 0, _ => exact ⟨_, rfl, _, _, rfl, h0.ext hb⟩
  | 1, _ => exact ⟨_, rfl, _, _, rfl, h1.ext hb⟩
  | 2, _ => exact ⟨_, rfl, _, _, rfl, h2.ext hb⟩
  | 3, _ => exact ⟨_, rfl, _, _, rfl, h3.ext hb⟩
theorem rbb6 {X : World} {A0 A1 A2 A3 A4 A5 : Option Addr} {n0 c0 c1 c2 c3 c4 c5 : Nat} {l0 l1 l2 l3 l4 l5 : List UInt8} (h0 : OkB X A0 c0 l0) (e0 : l0.length = n0) (h1 : OkB X A1 c1 l1) (h2 : OkB X A2 c2 l2) (h3 : OkB X A3 c3 l3) (h4 : OkB X A4 c4 l4) (h5 : OkB X A5 c5 l5) (o : Nat) (ho : o = X.heap.size) :
    RBB (X.alloc (.cells #[.slice A0 n0 c0, .slice A1 l1.length c1, .slice A2 l2.length c2, .slice A3 l3.length c3, .slice A4 l4.length c4, .slice A5 l5.length c5] 22)) (some ⟨o, 0, none⟩) [l0, l1, l2, l3, l4, l5] := by
  subst ho e0
  have hb := bl_alloc (Below.refl _ X) (.cells #[.slice A0 l0.length c0, .slice A1 l1.length c1, .slice A2 l2.length c2, .slice A3 l3.length c3, .slice A4 l4.length c4, .slice A5 l5.length c5] 22)
  refine .inr ⟨X.heap.size, 0, rfl, fun i hi => ?_⟩
  rw [World.cell?_alloc_at _ _ _ _ rfl]
  match i, hi with
  | 0, _ => exact ⟨_, rfl, _, _, rfl, h0.ext hb⟩
  | 1, _ => exact ⟨_, rfl, _, _, rfl, h1.ext hb⟩
  | 2, _ => exact ⟨_, rfl, _, _, rfl, h2.ext hb⟩
  | 3, _ => exact ⟨_, rfl, _, _, rfl, h3.ext hb⟩
  | 4, _ => exact ⟨_, rfl, _, _, rfl, h4.ext hb⟩
  | 5, _ => exact ⟨_, rfl, _, _, rfl, h5.ext hb⟩

set_option maxRecDepth 20000 in
set_option maxHeartbeats 4000000 in
theorem write_any (v r : Int) (AS : Option Addr) (cS : Nat) (S : List UInt8) (AN : Option Addr) (cN : Nat) (N : List UInt8) (AT : Option Addr) (cT : Nat) (T : List SectD) (w : World) (hH : OkH w AS cS S AN cN N AT T) (hR : rightH v S r N T = true) (L1 L2 L3 : List UInt8) (hL1 : numL v 1 = L1) (hL2 : numL r 4 = L2) (hL3 : numL T.length 2 = L3) :
    Calls Try.prog 44 #[.agg #[.int .i64 v, .slice AS S.length cS, .int .i64 r, .slice AN N.length cN, .slice AT T.length cT]] w fun e w' => (∃ A c, e = .returned (.tuple #[.slice A (headB v S r N T).length c, .int .i64 0]) ∧ OwnB w' w.heap.size A c (headB v S r N T)) ∧ Below w.heap.size w w' := by
  have g0 := bl_alloc (Below.refl _ w) (.cells #[.int .i64 v, .slice AS S.length cS, .int .i64 r, .slice AN N.length cN, .slice AT T.length cT] 75)
  replace hH := Lib.hid (hH.ext g0)
  have G := Lib.hid g0
  have hr := rightH_iff.1 hR
  have v1 := Lib.hid hr
  have T9 : T.length ≤ 64 := hr.2.2.2.2.2.2.1
  have d1 := numL_le7 v 1; have d2 := numL_le7 r 4; have d3 := numL_le7 T.length 2
  rw [hL1] at d1; rw [hL2] at d2; rw [hL3] at d3
  replace hL1 := Lib.hid hL1; replace hL2 := Lib.hid hL2; replace hL3 := Lib.hid hL3
  replace hR := Lib.hid hR
  clear g0 hr
  go_enter Try.func44, Try.ntmps44
  go_wp2_with fail
  refine (right_any v r AS cS S AN cN N AT cT T _ hH.out true hR.out).mono ?_; rintro e w1 ⟨rfl, hb1⟩
  have x : w1.cell? ⟨w.heap.size, 0, none⟩ = some (.int .i64 v) ∧ w1.cell? ⟨w.heap.size, 1, none⟩ = some (.slice AS S.length cS) ∧ w1.cell? ⟨w.heap.size, 2, none⟩ = some (.int .i64 r) ∧ w1.cell? ⟨w.heap.size, 3, none⟩ = some (.slice AN N.length cN) ∧ w1.cell? ⟨w.heap.size, 4, none⟩ = some (.slice AT T.length cT) :=
    ⟨box_at hb1 0, box_at hb1 1, box_at hb1 2, box_at hb1 3, box_at hb1 4⟩
  have h1 := Lib.hid (hH.out.ext hb1)
  have G1 := Lib.hid (bl_then G.out hb1)
  clear hb1
  obtain ⟨mk, hmk⟩ : ∃ mk : List UInt8, mk = [80, 89, 88] := ⟨_, rfl⟩
  have hmk3 := Lib.hid (show mk.length = 3 by rw [hmk]; rfl)
  obtain ⟨LF, hLF⟩ : ∃ LF, [mk, L1, S, L2, N, L3].flatten = LF := ⟨_, rfl⟩
  have hLF9 : LF.length ≤ 100 := by
    have := hmk3.out; have := v1.out
    rw [← hLF]; simp only [List.flatten_cons, List.flatten_nil, List.length_append, List.length_nil]; omega
  have hLFe := Lib.hid (show LF = foreB v S r N T.length by rw [← hLF, foreB, ← hL1.out, ← hL2.out, ← hL3.out, hmk]; simp)
  have hLF0 := Lib.hid (show [mk, L1, S, L2, N, L3].flatten.length ≤ 140737488351232 by rw [hLF]; omega)
  replace hLF := Lib.hid hLF
  replace hmk := Lib.hid hmk
  have hS0 : OkB w1 AS cS S := h1.out.1
  have hN0 : OkB w1 AN cN N := h1.out.2.1
  have hcv : ∀ (g n c : Nat) (W : World), (convert 22 22 (.slice (some ⟨g, 0, none⟩) n c)).run Try.prog W = .ok (.slice (some ⟨g, 0, none⟩) n c) (markAt W g) := conv_run
  go_upto_region 3 with fail
  go_cut [4] (fun s4 wx => ∃ A c, s4 = .slice A LF.length c ∧ OwnB wx w1.heap.size A c LF ∧ Below w1.heap.size w1 wx)
  case first =>
    refine start_ (n := 19) (S := (fun W' => W'.cell? ⟨w.heap.size, 0, none⟩ = some (.int .i64 v) ∧ W'.cell? ⟨w.heap.size, 1, none⟩ = some (.slice AS S.length cS) ∧ W'.cell? ⟨w.heap.size, 2, none⟩ = some (.int .i64 r) ∧ W'.cell? ⟨w.heap.size, 3, none⟩ = some (.slice AN N.length cN) ∧ W'.cell? ⟨w.heap.size, 4, none⟩ = some (.slice AT T.length cT))) (ds := []) #[false, false, false, false, false, false, false, false, false, false, false, false, false, false, false, false, false, false, false] (by kernel_rfl) rfl rfl (five_reads (Reads.drew (Reads.refl _)) x) (fun hHeld => ?_)
    have B := bl_drew (Below.refl w1.heap.size w1)
    have R0 : Reads w1 w1.drew := Reads.drew (Reads.refl _)
    have rS := hS0.reads R0
    have rN := hN0.reads R0
    clear R0
    generalize w1.drew = X0 at B rS rN hHeld ⊢
    refine take_ (i := 2) (N := some 14) (v := ?_) (a' := ?_) #[false, false, true, false, false, false, false, false, false, false, false, false, false, false, false, false, false, false, false] rfl rfl (by kernel_rfl) (fun _ _ _ h => h) (Or.inl ⟨by rfl, ?_⟩) hHeld ?_ ?_
    rotate_left
    · rintro w' ⟨s0, s1, s2, s3, s4⟩
      go_simp
      try with_reducible rfl
    rotate_left
    · simp only [Act.put, List.setIfInBounds_toArray, List.set_cons_zero, List.set_cons_succ]
      rfl
    refine take_ (i := 3) (N := some 15) (v := ?_) (a' := ?_) #[false, false, true, true, false, false, false, false, false, false, false, false, false, false, false, false, false, false, false] rfl rfl (by kernel_rfl) (fun _ _ _ h => h) (Or.inl ⟨by rfl, ?_⟩) hHeld ?_ ?_
    rotate_left
    · rintro w' ⟨s0, s1, s2, s3, s4⟩
      go_simp
      try with_reducible rfl
    rotate_left
    · simp only [Act.put, List.setIfInBounds_toArray, List.set_cons_zero, List.set_cons_succ]
      rfl
    refine take_ (i := 5) (N := some 17) (v := ?_) (a' := ?_) #[false, false, true, true, false, true, false, false, false, false, false, false, false, false, false, false, false, false, false] rfl rfl (by kernel_rfl) (fun _ _ _ h => h) (Or.inl ⟨by rfl, ?_⟩) hHeld ?_ ?_
    rotate_left
    · rintro w' ⟨s0, s1, s2, s3, s4⟩
      go_simp
      try with_reducible rfl
    rotate_left
    · simp only [Act.put, List.setIfInBounds_toArray, List.set_cons_zero, List.set_cons_succ]
      rfl
    refine take_ (i := 6) (N := some 18) (v := ?_) (a' := ?_) #[false, false, true, true, false, true, true, false, false, false, false, false, false, false, false, false, false, false, false] rfl rfl (by kernel_rfl) (fun _ _ _ h => h) (Or.inl ⟨by rfl, ?_⟩) hHeld ?_ ?_
    rotate_left
    · rintro w' ⟨s0, s1, s2, s3, s4⟩
      go_simp
      try with_reducible rfl
    rotate_left
    · simp only [Act.put, List.setIfInBounds_toArray, List.set_cons_zero, List.set_cons_succ]
      rfl
    refine take_ (i := 7) (N := some 19) (v := ?_) (a' := ?_) #[false, false, true, true, false, true, true, true, false, false, false, false, false, false, false, false, false, false, false] rfl rfl (by kernel_rfl) (fun _ _ _ h => h) (Or.inl ⟨by rfl, ?_⟩) hHeld ?_ ?_
    rotate_left
    · rintro w' ⟨s0, s1, s2, s3, s4⟩
      go_simp
      try with_reducible rfl
    rotate_left
    · simp only [Act.put, List.setIfInBounds_toArray, List.set_cons_zero, List.set_cons_succ]
      rfl
    refine take_ (i := 8) (N := some 20) (v := ?_) (a' := ?_) #[false, false, true, true, false, true, true, true, true, false, false, false, false, false, false, false, false, false, false] rfl rfl (by kernel_rfl) (fun _ _ _ h => h) (Or.inl ⟨by rfl, ?_⟩) hHeld ?_ ?_
    rotate_left
    · rintro w' ⟨s0, s1, s2, s3, s4⟩
      go_simp
      try with_reducible rfl
    rotate_left
    · simp only [Act.put, List.setIfInBounds_toArray, List.set_cons_zero, List.set_cons_succ]
      rfl
    refine take_ (i := 10) (N := some 22) (v := ?_) (a' := ?_) #[false, false, true, true, false, true, true, true, true, false, true, false, false, false, false, false, false, false, false] rfl rfl (by kernel_rfl) (fun _ _ _ h => h) (Or.inl ⟨by rfl, ?_⟩) hHeld ?_ ?_
    rotate_left
    · rintro w' ⟨s0, s1, s2, s3, s4⟩
      go_simp
      try with_reducible rfl
    rotate_left
    · simp only [Act.put, List.setIfInBounds_toArray, List.set_cons_zero, List.set_cons_succ]
      rfl
    refine take_ (i := 11) (N := some 23) (v := ?_) (a' := ?_) #[false, false, true, true, false, true, true, true, true, false, true, true, false, false, false, false, false, false, false] rfl rfl (by kernel_rfl) (fun _ _ _ h => h) (Or.inl ⟨by rfl, ?_⟩) hHeld ?_ ?_
    rotate_left
    · rintro w' ⟨s0, s1, s2, s3, s4⟩
      go_simp
      try with_reducible rfl
    rotate_left
    · simp only [Act.put, List.setIfInBounds_toArray, List.set_cons_zero, List.set_cons_succ]
      rfl
    refine take_ (i := 12) (N := some 24) (v := ?_) (a' := ?_) #[false, false, true, true, false, true, true, true, true, false, true, true, true, false, false, false, false, false, false] rfl rfl (by kernel_rfl) (fun _ _ _ h => h) (Or.inl ⟨by rfl, ?_⟩) hHeld ?_ ?_
    rotate_left
    · rintro w' ⟨s0, s1, s2, s3, s4⟩
      go_simp
      try with_reducible rfl
    rotate_left
    · simp only [Act.put, List.setIfInBounds_toArray, List.set_cons_zero, List.set_cons_succ]
      rfl
    refine take_ (i := 13) (N := some 25) (v := ?_) (a' := ?_) #[false, false, true, true, false, true, true, true, true, false, true, true, true, true, false, false, false, false, false] rfl rfl (by kernel_rfl) (fun _ _ _ h => h) (Or.inl ⟨by rfl, ?_⟩) hHeld ?_ ?_
    rotate_left
    · rintro w' ⟨s0, s1, s2, s3, s4⟩
      go_simp
      try with_reducible rfl
    rotate_left
    · simp only [Act.put, List.setIfInBounds_toArray, List.set_cons_zero, List.set_cons_succ]
      rfl
    refine take_ (i := 14) (N := some 26) (v := ?_) (a' := ?_) #[false, false, true, true, false, true, true, true, true, false, true, true, true, true, true, false, false, false, false] rfl rfl (by kernel_rfl) (fun _ _ _ h => h) (Or.inl ⟨by rfl, ?_⟩) hHeld ?_ ?_
    rotate_left
    · rintro w' ⟨s0, s1, s2, s3, s4⟩
      go_simp
      try with_reducible rfl
    rotate_left
    · simp only [Act.put, List.setIfInBounds_toArray, List.set_cons_zero, List.set_cons_succ]
      rfl
    refine two_ (i := 0) (j := 4) (Ni := some 12) (Nj := some 16) #[true, false, true, true, false, true, true, true, true, false, true, true, true, true, true, false, false, false, false] #[false, false, true, true, true, true, true, true, true, false, true, true, true, true, true, false, false, false, false] rfl rfl rfl rfl (by kernel_rfl) (by decide) (by decide) (fun K hK => ?_) (fun K hK => ?_)
    · refine value_ (v := .slice (some ⟨X0.heap.size, 0, none⟩) 3 3) (w1 := X0.alloc (.cells #[.int .u8 80, .int .u8 89, .int .u8 88] 5)) (by rfl) rfl (by go_simp) ?_
      have R : Reads X0 (X0.alloc (.cells #[.int .u8 80, .int .u8 89, .int .u8 88] 5)) := Reads.alloc (Reads.refl _) _
      have m : OkB (X0.alloc (.cells #[.int .u8 80, .int .u8 89, .int .u8 88] 5)) (some ⟨X0.heap.size, 0, none⟩) 3 mk := by rw [hmk.out]; exact (own_mark X0 _ rfl).ok
      have hG := Lib.hid B.size
      replace B := bl_alloc B (.cells #[.int .u8 80, .int .u8 89, .int .u8 88] 5)
      obtain ⟨G, hGe⟩ : ∃ G, X0.heap.size = G := ⟨_, rfl⟩
      rw [hGe] at m hG
      rw [hGe]
      clear hGe
      replace rS := rS.reads R
      replace rN := rN.reads R
      have S' := five_reads R hHeld
      clear R hHeld
      refine hK.out _ _ S' (fun hHeld => ?_)
      clear hK K S'
      generalize X0.alloc (.cells #[.int .u8 80, .int .u8 89, .int .u8 88] 5) = X1 at B rS rN m hHeld ⊢
      refine norm_ (a' := ?_) ?_ ?_
      rotate_left
      · show Act.put _ (some 12) _ = _
        simp only [Act.put, List.setIfInBounds_toArray, List.set_cons_zero, List.set_cons_succ]
        rfl
      refine two_ (i := 1) (j := 4) (Ni := some 13) (Nj := some 16) #[true, true, true, true, false, true, true, true, true, false, true, true, true, true, true, false, false, false, false] #[true, false, true, true, true, true, true, true, true, false, true, true, true, true, true, false, false, false, false] rfl rfl rfl rfl (by kernel_rfl) (by decide) (by decide) (fun K hK => ?_) (fun K hK => ?_)
      · refine value_ (v := .slice (some ⟨G, 0, none⟩) 3 3) (w1 := markAt X1 G) (by rfl) rfl (by go_simp) ?_
        have R : Reads X1 (markAt X1 G) := Reads.mark (Reads.refl _) _
        replace B := bl_mark B hG.out
        replace rS := rS.reads R
        replace rN := rN.reads R
        replace m := m.reads R
        have S' := five_reads R hHeld
        clear R hHeld
        refine hK.out _ _ S' (fun hHeld => ?_)
        clear hK K S'
        generalize markAt X1 G = X2 at B rS rN m hHeld ⊢
        refine norm_ (a' := ?_) ?_ ?_
        rotate_left
        · show Act.put _ (some 13) _ = _
          simp only [Act.put, List.setIfInBounds_toArray, List.set_cons_zero, List.set_cons_succ]
          rfl
        refine one_ (i := 4) (N := some 16) #[true, true, true, true, true, true, true, true, true, false, true, true, true, true, true, false, false, false, false] rfl rfl (by kernel_rfl) (by decide) (fun K hK => ?_)
        refine goes_ Try.func71 (by kernel_rfl) rfl #[.int .i64 v, .int .i64 1] (by rfl) rfl rfl (by simp only [List.map_toArray, List.map_cons, List.map_nil]; rfl) ?_
        with_reducible refine (c_number v 1 L1 _ (by have := v1.out; omega) (by have := v1.out; omega) hL1.out).mono ?_
        rintro e X3 ⟨⟨A1, c1, rfl, o⟩, hb⟩
        refine ⟨_, rfl, ?_⟩
        have R : Reads X2 X3 := Reads.below (Reads.refl _) hb
        have p1 := o.ok
        replace B := bl_then B hb
        clear o hb
        replace rS := rS.reads R
        replace rN := rN.reads R
        replace m := m.reads R
        have S' := five_reads R hHeld
        clear R hHeld
        refine hK.out _ _ S' (fun hHeld => ?_)
        clear hK K S'
        refine norm_ (a' := ?_) ?_ ?_
        rotate_left
        · show Act.put _ (some 16) _ = _
          simp only [Act.put, List.setIfInBounds_toArray, List.set_cons_zero, List.set_cons_succ]
          rfl
        refine one_ (i := 9) (N := some 21) #[true, true, true, true, true, true, true, true, true, true, true, true, true, true, true, false, false, false, false] rfl rfl (by kernel_rfl) (by decide) (fun K hK => ?_)
        refine goes_ Try.func71 (by kernel_rfl) rfl #[.int .i64 r, .int .i64 4] (by rfl) rfl rfl (by simp only [List.map_toArray, List.map_cons, List.map_nil]; rfl) ?_
        with_reducible refine (c_number r 4 L2 _ (by have := v1.out; omega) (by have := v1.out; omega) hL2.out).mono ?_
        rintro e X4 ⟨⟨A2, c2, rfl, o⟩, hb⟩
        refine ⟨_, rfl, ?_⟩
        have R : Reads X3 X4 := Reads.below (Reads.refl _) hb
        have p2 := o.ok
        replace B := bl_then B hb
        clear o hb
        replace rS := rS.reads R
        replace rN := rN.reads R
        replace m := m.reads R
        replace p1 := p1.reads R
        have S' := five_reads R hHeld
        clear R hHeld
        refine hK.out _ _ S' (fun hHeld => ?_)
        clear hK K S'
        refine norm_ (a' := ?_) ?_ ?_
        rotate_left
        · show Act.put _ (some 21) _ = _
          simp only [Act.put, List.setIfInBounds_toArray, List.set_cons_zero, List.set_cons_succ]
          rfl
        refine one_ (i := 15) (N := some 27) #[true, true, true, true, true, true, true, true, true, true, true, true, true, true, true, true, false, false, false] rfl rfl (by kernel_rfl) (by decide) (fun K hK => ?_)
        refine goes_ Try.func71 (by kernel_rfl) rfl #[.int .i64 (T.length : Int), .int .i64 2] (by rfl) rfl rfl (by simp only [List.map_toArray, List.map_cons, List.map_nil]; rfl) ?_
        with_reducible refine (c_number (T.length : Int) 2 L3 _ (by omega) (by omega) hL3.out).mono ?_
        rintro e X5 ⟨⟨A3, c3, rfl, o⟩, hb⟩
        refine ⟨_, rfl, ?_⟩
        have R : Reads X4 X5 := Reads.below (Reads.refl _) hb
        have p3 := o.ok
        replace B := bl_then B hb
        clear o hb
        replace rS := rS.reads R
        replace rN := rN.reads R
        replace m := m.reads R
        replace p1 := p1.reads R
        replace p2 := p2.reads R
        have S' := five_reads R hHeld
        clear R hHeld
        refine hK.out _ _ S' (fun hHeld => ?_)
        clear hK K S'
        refine norm_ (a' := ?_) ?_ ?_
        rotate_left
        · show Act.put _ (some 27) _ = _
          simp only [Act.put, List.setIfInBounds_toArray, List.set_cons_zero, List.set_cons_succ]
          rfl
        refine one_ (i := 16) (N := some 28) #[true, true, true, true, true, true, true, true, true, true, true, true, true, true, true, true, true, false, false] rfl rfl (by kernel_rfl) (by decide) (fun K hK => ?_)
        refine value_ (v := .slice (some ⟨X5.heap.size, 0, none⟩) 6 6) (w1 := X5.alloc (.cells #[.slice (some ⟨G, 0, none⟩) 3 3, .slice A1 L1.length c1, .slice AS S.length cS, .slice A2 L2.length c2, .slice AN N.length cN, .slice A3 L3.length c3] 22)) (by rfl) rfl (by go_simp) ?_
        refine hK.out _ _ (five_reads (Reads.alloc (Reads.refl _) _) hHeld) (fun hHeld => ?_)
        clear hK K
        refine norm_ (a' := ?_) ?_ ?_
        rotate_left
        · show Act.put _ (some 28) _ = _
          simp only [Act.put, List.setIfInBounds_toArray, List.set_cons_zero, List.set_cons_succ]
          rfl
        refine one_ (i := 17) (N := some 29) #[true, true, true, true, true, true, true, true, true, true, true, true, true, true, true, true, true, true, false] rfl rfl (by kernel_rfl) (by decide) (fun K hK => ?_)
        refine goes_ Try.func70 (by kernel_rfl) rfl #[.slice (some ⟨X5.heap.size, 0, none⟩) 6 6] (by rfl) rfl rfl (by simp only [List.map_toArray, List.map_cons, List.map_nil]; rfl) ?_
        with_reducible refine (concat_n _ 6 [mk, L1, S, L2, N, L3] LF 6 rfl _ (rbb6 m hmk3.out p1 rS p2 rN p3 _ rfl) (by simp) hLF0.out hLF.out).mono ?_
        rintro e w5 ⟨⟨A5, c5, rfl, o5⟩, hb5⟩
        refine ⟨_, rfl, ?_⟩
        have fin := own_then (bl_alloc B _) hb5 o5
        refine hK.out _ _ (five_reads (Reads.below (Reads.refl _) hb5) hHeld) (fun hHeld => ?_)
        clear hK K
        refine norm_ (a' := ?_) ?_ ?_
        rotate_left
        · show Act.put _ (some 29) _ = _
          simp only [Act.put, List.setIfInBounds_toArray, List.set_cons_zero, List.set_cons_succ]
          rfl
        refine take_ (i := 18) (N := some 4) (v := ?_) (a' := ?_) #[true, true, true, true, true, true, true, true, true, true, true, true, true, true, true, true, true, true, true] rfl rfl (by kernel_rfl) (fun _ _ _ h => h) (Or.inl ⟨by rfl, ?_⟩) hHeld ?_ ?_
        rotate_left
        · rintro w' ⟨s0, s1, s2, s3, s4⟩
          go_simp
          try with_reducible rfl
        rotate_left
        · simp only [Act.put, List.setIfInBounds_toArray, List.set_cons_zero, List.set_cons_succ]
          rfl
        refine done_ (by kernel_rfl) ?_
        go_wp2_with fail
        go_meet
        exact ⟨A5, c5, rfl, fin.1, fin.2⟩
      · refine goes_ Try.func71 (by kernel_rfl) rfl #[.int .i64 v, .int .i64 1] (by rfl) rfl rfl (by simp only [List.map_toArray, List.map_cons, List.map_nil]; rfl) ?_
        with_reducible refine (c_number v 1 L1 _ (by have := v1.out; omega) (by have := v1.out; omega) hL1.out).mono ?_
        rintro e X2 ⟨⟨A1, c1, rfl, o⟩, hb⟩
        refine ⟨_, rfl, ?_⟩
        have R : Reads X1 X2 := Reads.below (Reads.refl _) hb
        have p1 := o.ok
        replace B := bl_then B hb
        clear o hb
        replace rS := rS.reads R
        replace rN := rN.reads R
        replace m := m.reads R
        have S' := five_reads R hHeld
        clear R hHeld
        refine hK.out _ _ S' (fun hHeld => ?_)
        clear hK K S'
        refine norm_ (a' := ?_) ?_ ?_
        rotate_left
        · show Act.put _ (some 16) _ = _
          simp only [Act.put, List.setIfInBounds_toArray, List.set_cons_zero, List.set_cons_succ]
          rfl
        refine two_ (i := 1) (j := 9) (Ni := some 13) (Nj := some 21) #[true, true, true, true, true, true, true, true, true, false, true, true, true, true, true, false, false, false, false] #[true, false, true, true, true, true, true, true, true, true, true, true, true, true, true, false, false, false, false] rfl rfl rfl rfl (by kernel_rfl) (by decide) (by decide) (fun K hK => ?_) (fun K hK => ?_)
        · refine value_ (v := .slice (some ⟨G, 0, none⟩) 3 3) (w1 := markAt X2 G) (by rfl) rfl (by go_simp) ?_
          have R : Reads X2 (markAt X2 G) := Reads.mark (Reads.refl _) _
          replace B := bl_mark B hG.out
          replace rS := rS.reads R
          replace rN := rN.reads R
          replace m := m.reads R
          replace p1 := p1.reads R
          have S' := five_reads R hHeld
          clear R hHeld
          refine hK.out _ _ S' (fun hHeld => ?_)
          clear hK K S'
          generalize markAt X2 G = X3 at B rS rN m p1 hHeld ⊢
          refine norm_ (a' := ?_) ?_ ?_
          rotate_left
          · show Act.put _ (some 13) _ = _
            simp only [Act.put, List.setIfInBounds_toArray, List.set_cons_zero, List.set_cons_succ]
            rfl
          refine one_ (i := 9) (N := some 21) #[true, true, true, true, true, true, true, true, true, true, true, true, true, true, true, false, false, false, false] rfl rfl (by kernel_rfl) (by decide) (fun K hK => ?_)
          refine goes_ Try.func71 (by kernel_rfl) rfl #[.int .i64 r, .int .i64 4] (by rfl) rfl rfl (by simp only [List.map_toArray, List.map_cons, List.map_nil]; rfl) ?_
          with_reducible refine (c_number r 4 L2 _ (by have := v1.out; omega) (by have := v1.out; omega) hL2.out).mono ?_
          rintro e X4 ⟨⟨A2, c2, rfl, o⟩, hb⟩
          refine ⟨_, rfl, ?_⟩
          have R : Reads X3 X4 := Reads.below (Reads.refl _) hb
          have p2 := o.ok
          replace B := bl_then B hb
          clear o hb
          replace rS := rS.reads R
          replace rN := rN.reads R
          replace m := m.reads R
          replace p1 := p1.reads R
          have S' := five_reads R hHeld
          clear R hHeld
          refine hK.out _ _ S' (fun hHeld => ?_)
          clear hK K S'
          refine norm_ (a' := ?_) ?_ ?_
          rotate_left
          · show Act.put _ (some 21) _ = _
            simp only [Act.put, List.setIfInBounds_toArray, List.set_cons_zero, List.set_cons_succ]
            rfl
          refine one_ (i := 15) (N := some 27) #[true, true, true, true, true, true, true, true, true, true, true, true, true, true, true, true, false, false, false] rfl rfl (by kernel_rfl) (by decide) (fun K hK => ?_)
          refine goes_ Try.func71 (by kernel_rfl) rfl #[.int .i64 (T.length : Int), .int .i64 2] (by rfl) rfl rfl (by simp only [List.map_toArray, List.map_cons, List.map_nil]; rfl) ?_
          with_reducible refine (c_number (T.length : Int) 2 L3 _ (by omega) (by omega) hL3.out).mono ?_
          rintro e X5 ⟨⟨A3, c3, rfl, o⟩, hb⟩
          refine ⟨_, rfl, ?_⟩
          have R : Reads X4 X5 := Reads.below (Reads.refl _) hb
          have p3 := o.ok
          replace B := bl_then B hb
          clear o hb
          replace rS := rS.reads R
          replace rN := rN.reads R
          replace m := m.reads R
          replace p1 := p1.reads R
          replace p2 := p2.reads R
          have S' := five_reads R hHeld
          clear R hHeld
          refine hK.out _ _ S' (fun hHeld => ?_)
          clear hK K S'
          refine norm_ (a' := ?_) ?_ ?_
          rotate_left
          · show Act.put _ (some 27) _ = _
            simp only [Act.put, List.setIfInBounds_toArray, List.set_cons_zero, List.set_cons_succ]
            rfl
          refine one_ (i := 16) (N := some 28) #[true, true, true, true, true, true, true, true, true, true, true, true, true, true, true, true, true, false, false] rfl rfl (by kernel_rfl) (by decide) (fun K hK => ?_)
          refine value_ (v := .slice (some ⟨X5.heap.size, 0, none⟩) 6 6) (w1 := X5.alloc (.cells #[.slice (some ⟨G, 0, none⟩) 3 3, .slice A1 L1.length c1, .slice AS S.length cS, .slice A2 L2.length c2, .slice AN N.length cN, .slice A3 L3.length c3] 22)) (by rfl) rfl (by go_simp) ?_
          refine hK.out _ _ (five_reads (Reads.alloc (Reads.refl _) _) hHeld) (fun hHeld => ?_)
          clear hK K
          refine norm_ (a' := ?_) ?_ ?_
          rotate_left
          · show Act.put _ (some 28) _ = _
            simp only [Act.put, List.setIfInBounds_toArray, List.set_cons_zero, List.set_cons_succ]
            rfl
          refine one_ (i := 17) (N := some 29) #[true, true, true, true, true, true, true, true, true, true, true, true, true, true, true, true, true, true, false] rfl rfl (by kernel_rfl) (by decide) (fun K hK => ?_)
          refine goes_ Try.func70 (by kernel_rfl) rfl #[.slice (some ⟨X5.heap.size, 0, none⟩) 6 6] (by rfl) rfl rfl (by simp only [List.map_toArray, List.map_cons, List.map_nil]; rfl) ?_
          with_reducible refine (concat_n _ 6 [mk, L1, S, L2, N, L3] LF 6 rfl _ (rbb6 m hmk3.out p1 rS p2 rN p3 _ rfl) (by simp) hLF0.out hLF.out).mono ?_
          rintro e w5 ⟨⟨A5, c5, rfl, o5⟩, hb5⟩
          refine ⟨_, rfl, ?_⟩
          have fin := own_then (bl_alloc B _) hb5 o5
          refine hK.out _ _ (five_reads (Reads.below (Reads.refl _) hb5) hHeld) (fun hHeld => ?_)
          clear hK K
          refine norm_ (a' := ?_) ?_ ?_
          rotate_left
          · show Act.put _ (some 29) _ = _
            simp only [Act.put, List.setIfInBounds_toArray, List.set_cons_zero, List.set_cons_succ]
            rfl
          refine take_ (i := 18) (N := some 4) (v := ?_) (a' := ?_) #[true, true, true, true, true, true, true, true, true, true, true, true, true, true, true, true, true, true, true] rfl rfl (by kernel_rfl) (fun _ _ _ h => h) (Or.inl ⟨by rfl, ?_⟩) hHeld ?_ ?_
          rotate_left
          · rintro w' ⟨s0, s1, s2, s3, s4⟩
            go_simp
            try with_reducible rfl
          rotate_left
          · simp only [Act.put, List.setIfInBounds_toArray, List.set_cons_zero, List.set_cons_succ]
            rfl
          refine done_ (by kernel_rfl) ?_
          go_wp2_with fail
          go_meet
          exact ⟨A5, c5, rfl, fin.1, fin.2⟩
        · refine goes_ Try.func71 (by kernel_rfl) rfl #[.int .i64 r, .int .i64 4] (by rfl) rfl rfl (by simp only [List.map_toArray, List.map_cons, List.map_nil]; rfl) ?_
          with_reducible refine (c_number r 4 L2 _ (by have := v1.out; omega) (by have := v1.out; omega) hL2.out).mono ?_
          rintro e X3 ⟨⟨A2, c2, rfl, o⟩, hb⟩
          refine ⟨_, rfl, ?_⟩
          have R : Reads X2 X3 := Reads.below (Reads.refl _) hb
          have p2 := o.ok
          replace B := bl_then B hb
          clear o hb
          replace rS := rS.reads R
          replace rN := rN.reads R
          replace m := m.reads R
          replace p1 := p1.reads R
          have S' := five_reads R hHeld
          clear R hHeld
          refine hK.out _ _ S' (fun hHeld => ?_)
          clear hK K S'
          refine norm_ (a' := ?_) ?_ ?_
          rotate_left
          · show Act.put _ (some 21) _ = _
            simp only [Act.put, List.setIfInBounds_toArray, List.set_cons_zero, List.set_cons_succ]
            rfl
          refine two_ (i := 1) (j := 15) (Ni := some 13) (Nj := some 27) #[true, true, true, true, true, true, true, true, true, true, true, true, true, true, true, false, false, false, false] #[true, false, true, true, true, true, true, true, true, true, true, true, true, true, true, true, false, false, false] rfl rfl rfl rfl (by kernel_rfl) (by decide) (by decide) (fun K hK => ?_) (fun K hK => ?_)
          · refine value_ (v := .slice (some ⟨G, 0, none⟩) 3 3) (w1 := markAt X3 G) (by rfl) rfl (by go_simp) ?_
            have R : Reads X3 (markAt X3 G) := Reads.mark (Reads.refl _) _
            replace B := bl_mark B hG.out
            replace rS := rS.reads R
            replace rN := rN.reads R
            replace m := m.reads R
            replace p1 := p1.reads R
            replace p2 := p2.reads R
            have S' := five_reads R hHeld
            clear R hHeld
            refine hK.out _ _ S' (fun hHeld => ?_)
            clear hK K S'
            generalize markAt X3 G = X4 at B rS rN m p1 p2 hHeld ⊢
            refine norm_ (a' := ?_) ?_ ?_
            rotate_left
            · show Act.put _ (some 13) _ = _
              simp only [Act.put, List.setIfInBounds_toArray, List.set_cons_zero, List.set_cons_succ]
              rfl
            refine one_ (i := 15) (N := some 27) #[true, true, true, true, true, true, true, true, true, true, true, true, true, true, true, true, false, false, false] rfl rfl (by kernel_rfl) (by decide) (fun K hK => ?_)
            refine goes_ Try.func71 (by kernel_rfl) rfl #[.int .i64 (T.length : Int), .int .i64 2] (by rfl) rfl rfl (by simp only [List.map_toArray, List.map_cons, List.map_nil]; rfl) ?_
            with_reducible refine (c_number (T.length : Int) 2 L3 _ (by omega) (by omega) hL3.out).mono ?_
            rintro e X5 ⟨⟨A3, c3, rfl, o⟩, hb⟩
            refine ⟨_, rfl, ?_⟩
            have R : Reads X4 X5 := Reads.below (Reads.refl _) hb
            have p3 := o.ok
            replace B := bl_then B hb
            clear o hb
            replace rS := rS.reads R
            replace rN := rN.reads R
            replace m := m.reads R
            replace p1 := p1.reads R
            replace p2 := p2.reads R
            have S' := five_reads R hHeld
            clear R hHeld
            refine hK.out _ _ S' (fun hHeld => ?_)
            clear hK K S'
            refine norm_ (a' := ?_) ?_ ?_
            rotate_left
            · show Act.put _ (some 27) _ = _
              simp only [Act.put, List.setIfInBounds_toArray, List.set_cons_zero, List.set_cons_succ]
              rfl
            refine one_ (i := 16) (N := some 28) #[true, true, true, true, true, true, true, true, true, true, true, true, true, true, true, true, true, false, false] rfl rfl (by kernel_rfl) (by decide) (fun K hK => ?_)
            refine value_ (v := .slice (some ⟨X5.heap.size, 0, none⟩) 6 6) (w1 := X5.alloc (.cells #[.slice (some ⟨G, 0, none⟩) 3 3, .slice A1 L1.length c1, .slice AS S.length cS, .slice A2 L2.length c2, .slice AN N.length cN, .slice A3 L3.length c3] 22)) (by rfl) rfl (by go_simp) ?_
            refine hK.out _ _ (five_reads (Reads.alloc (Reads.refl _) _) hHeld) (fun hHeld => ?_)
            clear hK K
            refine norm_ (a' := ?_) ?_ ?_
            rotate_left
            · show Act.put _ (some 28) _ = _
              simp only [Act.put, List.setIfInBounds_toArray, List.set_cons_zero, List.set_cons_succ]
              rfl
            refine one_ (i := 17) (N := some 29) #[true, true, true, true, true, true, true, true, true, true, true, true, true, true, true, true, true, true, false] rfl rfl (by kernel_rfl) (by decide) (fun K hK => ?_)
            refine goes_ Try.func70 (by kernel_rfl) rfl #[.slice (some ⟨X5.heap.size, 0, none⟩) 6 6] (by rfl) rfl rfl (by simp only [List.map_toArray, List.map_cons, List.map_nil]; rfl) ?_
            with_reducible refine (concat_n _ 6 [mk, L1, S, L2, N, L3] LF 6 rfl _ (rbb6 m hmk3.out p1 rS p2 rN p3 _ rfl) (by simp) hLF0.out hLF.out).mono ?_
            rintro e w5 ⟨⟨A5, c5, rfl, o5⟩, hb5⟩
            refine ⟨_, rfl, ?_⟩
            have fin := own_then (bl_alloc B _) hb5 o5
            refine hK.out _ _ (five_reads (Reads.below (Reads.refl _) hb5) hHeld) (fun hHeld => ?_)
            clear hK K
            refine norm_ (a' := ?_) ?_ ?_
            rotate_left
            · show Act.put _ (some 29) _ = _
              simp only [Act.put, List.setIfInBounds_toArray, List.set_cons_zero, List.set_cons_succ]
              rfl
            refine take_ (i := 18) (N := some 4) (v := ?_) (a' := ?_) #[true, true, true, true, true, true, true, true, true, true, true, true, true, true, true, true, true, true, true] rfl rfl (by kernel_rfl) (fun _ _ _ h => h) (Or.inl ⟨by rfl, ?_⟩) hHeld ?_ ?_
            rotate_left
            · rintro w' ⟨s0, s1, s2, s3, s4⟩
              go_simp
              try with_reducible rfl
            rotate_left
            · simp only [Act.put, List.setIfInBounds_toArray, List.set_cons_zero, List.set_cons_succ]
              rfl
            refine done_ (by kernel_rfl) ?_
            go_wp2_with fail
            go_meet
            exact ⟨A5, c5, rfl, fin.1, fin.2⟩
          · refine goes_ Try.func71 (by kernel_rfl) rfl #[.int .i64 (T.length : Int), .int .i64 2] (by rfl) rfl rfl (by simp only [List.map_toArray, List.map_cons, List.map_nil]; rfl) ?_
            with_reducible refine (c_number (T.length : Int) 2 L3 _ (by omega) (by omega) hL3.out).mono ?_
            rintro e X4 ⟨⟨A3, c3, rfl, o⟩, hb⟩
            refine ⟨_, rfl, ?_⟩
            have R : Reads X3 X4 := Reads.below (Reads.refl _) hb
            have p3 := o.ok
            replace B := bl_then B hb
            clear o hb
            replace rS := rS.reads R
            replace rN := rN.reads R
            replace m := m.reads R
            replace p1 := p1.reads R
            replace p2 := p2.reads R
            have S' := five_reads R hHeld
            clear R hHeld
            refine hK.out _ _ S' (fun hHeld => ?_)
            clear hK K S'
            refine norm_ (a' := ?_) ?_ ?_
            rotate_left
            · show Act.put _ (some 27) _ = _
              simp only [Act.put, List.setIfInBounds_toArray, List.set_cons_zero, List.set_cons_succ]
              rfl
            refine one_ (i := 1) (N := some 13) #[true, true, true, true, true, true, true, true, true, true, true, true, true, true, true, true, false, false, false] rfl rfl (by kernel_rfl) (by decide) (fun K hK => ?_)
            refine value_ (v := .slice (some ⟨G, 0, none⟩) 3 3) (w1 := markAt X4 G) (by rfl) rfl (by go_simp) ?_
            have R : Reads X4 (markAt X4 G) := Reads.mark (Reads.refl _) _
            replace B := bl_mark B hG.out
            replace rS := rS.reads R
            replace rN := rN.reads R
            replace m := m.reads R
            replace p1 := p1.reads R
            replace p2 := p2.reads R
            replace p3 := p3.reads R
            have S' := five_reads R hHeld
            clear R hHeld
            refine hK.out _ _ S' (fun hHeld => ?_)
            clear hK K S'
            generalize markAt X4 G = X5 at B rS rN m p1 p2 p3 hHeld ⊢
            refine norm_ (a' := ?_) ?_ ?_
            rotate_left
            · show Act.put _ (some 13) _ = _
              simp only [Act.put, List.setIfInBounds_toArray, List.set_cons_zero, List.set_cons_succ]
              rfl
            refine one_ (i := 16) (N := some 28) #[true, true, true, true, true, true, true, true, true, true, true, true, true, true, true, true, true, false, false] rfl rfl (by kernel_rfl) (by decide) (fun K hK => ?_)
            refine value_ (v := .slice (some ⟨X5.heap.size, 0, none⟩) 6 6) (w1 := X5.alloc (.cells #[.slice (some ⟨G, 0, none⟩) 3 3, .slice A1 L1.length c1, .slice AS S.length cS, .slice A2 L2.length c2, .slice AN N.length cN, .slice A3 L3.length c3] 22)) (by rfl) rfl (by go_simp) ?_
            refine hK.out _ _ (five_reads (Reads.alloc (Reads.refl _) _) hHeld) (fun hHeld => ?_)
            clear hK K
            refine norm_ (a' := ?_) ?_ ?_
            rotate_left
            · show Act.put _ (some 28) _ = _
              simp only [Act.put, List.setIfInBounds_toArray, List.set_cons_zero, List.set_cons_succ]
              rfl
            refine one_ (i := 17) (N := some 29) #[true, true, true, true, true, true, true, true, true, true, true, true, true, true, true, true, true, true, false] rfl rfl (by kernel_rfl) (by decide) (fun K hK => ?_)
            refine goes_ Try.func70 (by kernel_rfl) rfl #[.slice (some ⟨X5.heap.size, 0, none⟩) 6 6] (by rfl) rfl rfl (by simp only [List.map_toArray, List.map_cons, List.map_nil]; rfl) ?_
            with_reducible refine (concat_n _ 6 [mk, L1, S, L2, N, L3] LF 6 rfl _ (rbb6 m hmk3.out p1 rS p2 rN p3 _ rfl) (by simp) hLF0.out hLF.out).mono ?_
            rintro e w5 ⟨⟨A5, c5, rfl, o5⟩, hb5⟩
            refine ⟨_, rfl, ?_⟩
            have fin := own_then (bl_alloc B _) hb5 o5
            refine hK.out _ _ (five_reads (Reads.below (Reads.refl _) hb5) hHeld) (fun hHeld => ?_)
            clear hK K
            refine norm_ (a' := ?_) ?_ ?_
            rotate_left
            · show Act.put _ (some 29) _ = _
              simp only [Act.put, List.setIfInBounds_toArray, List.set_cons_zero, List.set_cons_succ]
              rfl
            refine take_ (i := 18) (N := some 4) (v := ?_) (a' := ?_) #[true, true, true, true, true, true, true, true, true, true, true, true, true, true, true, true, true, true, true] rfl rfl (by kernel_rfl) (fun _ _ _ h => h) (Or.inl ⟨by rfl, ?_⟩) hHeld ?_ ?_
            rotate_left
            · rintro w' ⟨s0, s1, s2, s3, s4⟩
              go_simp
              try with_reducible rfl
            rotate_left
            · simp only [Act.put, List.setIfInBounds_toArray, List.set_cons_zero, List.set_cons_succ]
              rfl
            refine done_ (by kernel_rfl) ?_
            go_wp2_with fail
            go_meet
            exact ⟨A5, c5, rfl, fin.1, fin.2⟩
    · refine goes_ Try.func71 (by kernel_rfl) rfl #[.int .i64 v, .int .i64 1] (by rfl) rfl rfl (by simp only [List.map_toArray, List.map_cons, List.map_nil]; rfl) ?_
      with_reducible refine (c_number v 1 L1 _ (by have := v1.out; omega) (by have := v1.out; omega) hL1.out).mono ?_
      rintro e X1 ⟨⟨A1, c1, rfl, o⟩, hb⟩
      refine ⟨_, rfl, ?_⟩
      have R : Reads X0 X1 := Reads.below (Reads.refl _) hb
      have p1 := o.ok
      replace B := bl_then B hb
      clear o hb
      replace rS := rS.reads R
      replace rN := rN.reads R
      have S' := five_reads R hHeld
      clear R hHeld
      refine hK.out _ _ S' (fun hHeld => ?_)
      clear hK K S'
      refine norm_ (a' := ?_) ?_ ?_
      rotate_left
      · show Act.put _ (some 16) _ = _
        simp only [Act.put, List.setIfInBounds_toArray, List.set_cons_zero, List.set_cons_succ]
        rfl
      refine two_ (i := 0) (j := 9) (Ni := some 12) (Nj := some 21) #[true, false, true, true, true, true, true, true, true, false, true, true, true, true, true, false, false, false, false] #[false, false, true, true, true, true, true, true, true, true, true, true, true, true, true, false, false, false, false] rfl rfl rfl rfl (by kernel_rfl) (by decide) (by decide) (fun K hK => ?_) (fun K hK => ?_)
      · refine value_ (v := .slice (some ⟨X1.heap.size, 0, none⟩) 3 3) (w1 := X1.alloc (.cells #[.int .u8 80, .int .u8 89, .int .u8 88] 5)) (by rfl) rfl (by go_simp) ?_
        have R : Reads X1 (X1.alloc (.cells #[.int .u8 80, .int .u8 89, .int .u8 88] 5)) := Reads.alloc (Reads.refl _) _
        have m : OkB (X1.alloc (.cells #[.int .u8 80, .int .u8 89, .int .u8 88] 5)) (some ⟨X1.heap.size, 0, none⟩) 3 mk := by rw [hmk.out]; exact (own_mark X1 _ rfl).ok
        have hG := Lib.hid B.size
        replace B := bl_alloc B (.cells #[.int .u8 80, .int .u8 89, .int .u8 88] 5)
        obtain ⟨G, hGe⟩ : ∃ G, X1.heap.size = G := ⟨_, rfl⟩
        rw [hGe] at m hG
        rw [hGe]
        clear hGe
        replace rS := rS.reads R
        replace rN := rN.reads R
        replace p1 := p1.reads R
        have S' := five_reads R hHeld
        clear R hHeld
        refine hK.out _ _ S' (fun hHeld => ?_)
        clear hK K S'
        generalize X1.alloc (.cells #[.int .u8 80, .int .u8 89, .int .u8 88] 5) = X2 at B rS rN p1 m hHeld ⊢
        refine norm_ (a' := ?_) ?_ ?_
        rotate_left
        · show Act.put _ (some 12) _ = _
          simp only [Act.put, List.setIfInBounds_toArray, List.set_cons_zero, List.set_cons_succ]
          rfl
        refine two_ (i := 1) (j := 9) (Ni := some 13) (Nj := some 21) #[true, true, true, true, true, true, true, true, true, false, true, true, true, true, true, false, false, false, false] #[true, false, true, true, true, true, true, true, true, true, true, true, true, true, true, false, false, false, false] rfl rfl rfl rfl (by kernel_rfl) (by decide) (by decide) (fun K hK => ?_) (fun K hK => ?_)
        · refine value_ (v := .slice (some ⟨G, 0, none⟩) 3 3) (w1 := markAt X2 G) (by rfl) rfl (by go_simp) ?_
          have R : Reads X2 (markAt X2 G) := Reads.mark (Reads.refl _) _
          replace B := bl_mark B hG.out
          replace rS := rS.reads R
          replace rN := rN.reads R
          replace m := m.reads R
          replace p1 := p1.reads R
          have S' := five_reads R hHeld
          clear R hHeld
          refine hK.out _ _ S' (fun hHeld => ?_)
          clear hK K S'
          generalize markAt X2 G = X3 at B rS rN m p1 hHeld ⊢
          refine norm_ (a' := ?_) ?_ ?_
          rotate_left
          · show Act.put _ (some 13) _ = _
            simp only [Act.put, List.setIfInBounds_toArray, List.set_cons_zero, List.set_cons_succ]
            rfl
          refine one_ (i := 9) (N := some 21) #[true, true, true, true, true, true, true, true, true, true, true, true, true, true, true, false, false, false, false] rfl rfl (by kernel_rfl) (by decide) (fun K hK => ?_)
          refine goes_ Try.func71 (by kernel_rfl) rfl #[.int .i64 r, .int .i64 4] (by rfl) rfl rfl (by simp only [List.map_toArray, List.map_cons, List.map_nil]; rfl) ?_
          with_reducible refine (c_number r 4 L2 _ (by have := v1.out; omega) (by have := v1.out; omega) hL2.out).mono ?_
          rintro e X4 ⟨⟨A2, c2, rfl, o⟩, hb⟩
          refine ⟨_, rfl, ?_⟩
          have R : Reads X3 X4 := Reads.below (Reads.refl _) hb
          have p2 := o.ok
          replace B := bl_then B hb
          clear o hb
          replace rS := rS.reads R
          replace rN := rN.reads R
          replace m := m.reads R
          replace p1 := p1.reads R
          have S' := five_reads R hHeld
          clear R hHeld
          refine hK.out _ _ S' (fun hHeld => ?_)
          clear hK K S'
          refine norm_ (a' := ?_) ?_ ?_
          rotate_left
          · show Act.put _ (some 21) _ = _
            simp only [Act.put, List.setIfInBounds_toArray, List.set_cons_zero, List.set_cons_succ]
            rfl
          refine one_ (i := 15) (N := some 27) #[true, true, true, true, true, true, true, true, true, true, true, true, true, true, true, true, false, false, false] rfl rfl (by kernel_rfl) (by decide) (fun K hK => ?_)
          refine goes_ Try.func71 (by kernel_rfl) rfl #[.int .i64 (T.length : Int), .int .i64 2] (by rfl) rfl rfl (by simp only [List.map_toArray, List.map_cons, List.map_nil]; rfl) ?_
          with_reducible refine (c_number (T.length : Int) 2 L3 _ (by omega) (by omega) hL3.out).mono ?_
          rintro e X5 ⟨⟨A3, c3, rfl, o⟩, hb⟩
          refine ⟨_, rfl, ?_⟩
          have R : Reads X4 X5 := Reads.below (Reads.refl _) hb
          have p3 := o.ok
          replace B := bl_then B hb
          clear o hb
          replace rS := rS.reads R
          replace rN := rN.reads R
          replace m := m.reads R
          replace p1 := p1.reads R
          replace p2 := p2.reads R
          have S' := five_reads R hHeld
          clear R hHeld
          refine hK.out _ _ S' (fun hHeld => ?_)
          clear hK K S'
          refine norm_ (a' := ?_) ?_ ?_
          rotate_left
          · show Act.put _ (some 27) _ = _
            simp only [Act.put, List.setIfInBounds_toArray, List.set_cons_zero, List.set_cons_succ]
            rfl
          refine one_ (i := 16) (N := some 28) #[true, true, true, true, true, true, true, true, true, true, true, true, true, true, true, true, true, false, false] rfl rfl (by kernel_rfl) (by decide) (fun K hK => ?_)
          refine value_ (v := .slice (some ⟨X5.heap.size, 0, none⟩) 6 6) (w1 := X5.alloc (.cells #[.slice (some ⟨G, 0, none⟩) 3 3, .slice A1 L1.length c1, .slice AS S.length cS, .slice A2 L2.length c2, .slice AN N.length cN, .slice A3 L3.length c3] 22)) (by rfl) rfl (by go_simp) ?_
          refine hK.out _ _ (five_reads (Reads.alloc (Reads.refl _) _) hHeld) (fun hHeld => ?_)
          clear hK K
          refine norm_ (a' := ?_) ?_ ?_
          rotate_left
          · show Act.put _ (some 28) _ = _
            simp only [Act.put, List.setIfInBounds_toArray, List.set_cons_zero, List.set_cons_succ]
            rfl
          refine one_ (i := 17) (N := some 29) #[true, true, true, true, true, true, true, true, true, true, true, true, true, true, true, true, true, true, false] rfl rfl (by kernel_rfl) (by decide) (fun K hK => ?_)
          refine goes_ Try.func70 (by kernel_rfl) rfl #[.slice (some ⟨X5.heap.size, 0, none⟩) 6 6] (by rfl) rfl rfl (by simp only [List.map_toArray, List.map_cons, List.map_nil]; rfl) ?_
          with_reducible refine (concat_n _ 6 [mk, L1, S, L2, N, L3] LF 6 rfl _ (rbb6 m hmk3.out p1 rS p2 rN p3 _ rfl) (by simp) hLF0.out hLF.out).mono ?_
          rintro e w5 ⟨⟨A5, c5, rfl, o5⟩, hb5⟩
          refine ⟨_, rfl, ?_⟩
          have fin := own_then (bl_alloc B _) hb5 o5
          refine hK.out _ _ (five_reads (Reads.below (Reads.refl _) hb5) hHeld) (fun hHeld => ?_)
          clear hK K
          refine norm_ (a' := ?_) ?_ ?_
          rotate_left
          · show Act.put _ (some 29) _ = _
            simp only [Act.put, List.setIfInBounds_toArray, List.set_cons_zero, List.set_cons_succ]
            rfl
          refine take_ (i := 18) (N := some 4) (v := ?_) (a' := ?_) #[true, true, true, true, true, true, true, true, true, true, true, true, true, true, true, true, true, true, true] rfl rfl (by kernel_rfl) (fun _ _ _ h => h) (Or.inl ⟨by rfl, ?_⟩) hHeld ?_ ?_
          rotate_left
          · rintro w' ⟨s0, s1, s2, s3, s4⟩
            go_simp
            try with_reducible rfl
          rotate_left
          · simp only [Act.put, List.setIfInBounds_toArray, List.set_cons_zero, List.set_cons_succ]
            rfl
          refine done_ (by kernel_rfl) ?_
          go_wp2_with fail
          go_meet
          exact ⟨A5, c5, rfl, fin.1, fin.2⟩
        · refine goes_ Try.func71 (by kernel_rfl) rfl #[.int .i64 r, .int .i64 4] (by rfl) rfl rfl (by simp only [List.map_toArray, List.map_cons, List.map_nil]; rfl) ?_
          with_reducible refine (c_number r 4 L2 _ (by have := v1.out; omega) (by have := v1.out; omega) hL2.out).mono ?_
          rintro e X3 ⟨⟨A2, c2, rfl, o⟩, hb⟩
          refine ⟨_, rfl, ?_⟩
          have R : Reads X2 X3 := Reads.below (Reads.refl _) hb
          have p2 := o.ok
          replace B := bl_then B hb
          clear o hb
          replace rS := rS.reads R
          replace rN := rN.reads R
          replace m := m.reads R
          replace p1 := p1.reads R
          have S' := five_reads R hHeld
          clear R hHeld
          refine hK.out _ _ S' (fun hHeld => ?_)
          clear hK K S'
          refine norm_ (a' := ?_) ?_ ?_
          rotate_left
          · show Act.put _ (some 21) _ = _
            simp only [Act.put, List.setIfInBounds_toArray, List.set_cons_zero, List.set_cons_succ]
            rfl
          refine two_ (i := 1) (j := 15) (Ni := some 13) (Nj := some 27) #[true, true, true, true, true, true, true, true, true, true, true, true, true, true, true, false, false, false, false] #[true, false, true, true, true, true, true, true, true, true, true, true, true, true, true, true, false, false, false] rfl rfl rfl rfl (by kernel_rfl) (by decide) (by decide) (fun K hK => ?_) (fun K hK => ?_)
          · refine value_ (v := .slice (some ⟨G, 0, none⟩) 3 3) (w1 := markAt X3 G) (by rfl) rfl (by go_simp) ?_
            have R : Reads X3 (markAt X3 G) := Reads.mark (Reads.refl _) _
            replace B := bl_mark B hG.out
            replace rS := rS.reads R
            replace rN := rN.reads R
            replace m := m.reads R
            replace p1 := p1.reads R
            replace p2 := p2.reads R
            have S' := five_reads R hHeld
            clear R hHeld
            refine hK.out _ _ S' (fun hHeld => ?_)
            clear hK K S'
            generalize markAt X3 G = X4 at B rS rN m p1 p2 hHeld ⊢
            refine norm_ (a' := ?_) ?_ ?_
            rotate_left
            · show Act.put _ (some 13) _ = _
              simp only [Act.put, List.setIfInBounds_toArray, List.set_cons_zero, List.set_cons_succ]
              rfl
            refine one_ (i := 15) (N := some 27) #[true, true, true, true, true, true, true, true, true, true, true, true, true, true, true, true, false, false, false] rfl rfl (by kernel_rfl) (by decide) (fun K hK => ?_)
            refine goes_ Try.func71 (by kernel_rfl) rfl #[.int .i64 (T.length : Int), .int .i64 2] (by rfl) rfl rfl (by simp only [List.map_toArray, List.map_cons, List.map_nil]; rfl) ?_
            with_reducible refine (c_number (T.length : Int) 2 L3 _ (by omega) (by omega) hL3.out).mono ?_
            rintro e X5 ⟨⟨A3, c3, rfl, o⟩, hb⟩
            refine ⟨_, rfl, ?_⟩
            have R : Reads X4 X5 := Reads.below (Reads.refl _) hb
            have p3 := o.ok
            replace B := bl_then B hb
            clear o hb
            replace rS := rS.reads R
            replace rN := rN.reads R
            replace m := m.reads R
            replace p1 := p1.reads R
            replace p2 := p2.reads R
            have S' := five_reads R hHeld
            clear R hHeld
            refine hK.out _ _ S' (fun hHeld => ?_)
            clear hK K S'
            refine norm_ (a' := ?_) ?_ ?_
            rotate_left
            · show Act.put _ (some 27) _ = _
              simp only [Act.put, List.setIfInBounds_toArray, List.set_cons_zero, List.set_cons_succ]
              rfl
            refine one_ (i := 16) (N := some 28) #[true, true, true, true, true, true, true, true, true, true, true, true, true, true, true, true, true, false, false] rfl rfl (by kernel_rfl) (by decide) (fun K hK => ?_)
            refine value_ (v := .slice (some ⟨X5.heap.size, 0, none⟩) 6 6) (w1 := X5.alloc (.cells #[.slice (some ⟨G, 0, none⟩) 3 3, .slice A1 L1.length c1, .slice AS S.length cS, .slice A2 L2.length c2, .slice AN N.length cN, .slice A3 L3.length c3] 22)) (by rfl) rfl (by go_simp) ?_
            refine hK.out _ _ (five_reads (Reads.alloc (Reads.refl _) _) hHeld) (fun hHeld => ?_)
            clear hK K
            refine norm_ (a' := ?_) ?_ ?_
            rotate_left
            · show Act.put _ (some 28) _ = _
              simp only [Act.put, List.setIfInBounds_toArray, List.set_cons_zero, List.set_cons_succ]
              rfl
            refine one_ (i := 17) (N := some 29) #[true, true, true, true, true, true, true, true, true, true, true, true, true, true, true, true, true, true, false] rfl rfl (by kernel_rfl) (by decide) (fun K hK => ?_)
            refine goes_ Try.func70 (by kernel_rfl) rfl #[.slice (some ⟨X5.heap.size, 0, none⟩) 6 6] (by rfl) rfl rfl (by simp only [List.map_toArray, List.map_cons, List.map_nil]; rfl) ?_
            with_reducible refine (concat_n _ 6 [mk, L1, S, L2, N, L3] LF 6 rfl _ (rbb6 m hmk3.out p1 rS p2 rN p3 _ rfl) (by simp) hLF0.out hLF.out).mono ?_
            rintro e w5 ⟨⟨A5, c5, rfl, o5⟩, hb5⟩
            refine ⟨_, rfl, ?_⟩
            have fin := own_then (bl_alloc B _) hb5 o5
            refine hK.out _ _ (five_reads (Reads.below (Reads.refl _) hb5) hHeld) (fun hHeld => ?_)
            clear hK K
            refine norm_ (a' := ?_) ?_ ?_
            rotate_left
            · show Act.put _ (some 29) _ = _
              simp only [Act.put, List.setIfInBounds_toArray, List.set_cons_zero, List.set_cons_succ]
              rfl
            refine take_ (i := 18) (N := some 4) (v := ?_) (a' := ?_) #[true, true, true, true, true, true, true, true, true, true, true, true, true, true, true, true, true, true, true] rfl rfl (by kernel_rfl) (fun _ _ _ h => h) (Or.inl ⟨by rfl, ?_⟩) hHeld ?_ ?_
            rotate_left
            · rintro w' ⟨s0, s1, s2, s3, s4⟩
              go_simp
              try with_reducible rfl
            rotate_left
            · simp only [Act.put, List.setIfInBounds_toArray, List.set_cons_zero, List.set_cons_succ]
              rfl
            refine done_ (by kernel_rfl) ?_
            go_wp2_with fail
            go_meet
            exact ⟨A5, c5, rfl, fin.1, fin.2⟩
          · refine goes_ Try.func71 (by kernel_rfl) rfl #[.int .i64 (T.length : Int), .int .i64 2] (by rfl) rfl rfl (by simp only [List.map_toArray, List.map_cons, List.map_nil]; rfl) ?_
            with_reducible refine (c_number (T.length : Int) 2 L3 _ (by omega) (by omega) hL3.out).mono ?_
            rintro e X4 ⟨⟨A3, c3, rfl, o⟩, hb⟩
            refine ⟨_, rfl, ?_⟩
            have R : Reads X3 X4 := Reads.below (Reads.refl _) hb
            have p3 := o.ok
            replace B := bl_then B hb
            clear o hb
            replace rS := rS.reads R
            replace rN := rN.reads R
            replace m := m.reads R
            replace p1 := p1.reads R
            replace p2 := p2.reads R
            have S' := five_reads R hHeld
            clear R hHeld
            refine hK.out _ _ S' (fun hHeld => ?_)
            clear hK K S'
            refine norm_ (a' := ?_) ?_ ?_
            rotate_left
            · show Act.put _ (some 27) _ = _
              simp only [Act.put, List.setIfInBounds_toArray, List.set_cons_zero, List.set_cons_succ]
              rfl
            refine one_ (i := 1) (N := some 13) #[true, true, true, true, true, true, true, true, true, true, true, true, true, true, true, true, false, false, false] rfl rfl (by kernel_rfl) (by decide) (fun K hK => ?_)
            refine value_ (v := .slice (some ⟨G, 0, none⟩) 3 3) (w1 := markAt X4 G) (by rfl) rfl (by go_simp) ?_
            have R : Reads X4 (markAt X4 G) := Reads.mark (Reads.refl _) _
            replace B := bl_mark B hG.out
            replace rS := rS.reads R
            replace rN := rN.reads R
            replace m := m.reads R
            replace p1 := p1.reads R
            replace p2 := p2.reads R
            replace p3 := p3.reads R
            have S' := five_reads R hHeld
            clear R hHeld
            refine hK.out _ _ S' (fun hHeld => ?_)
            clear hK K S'
            generalize markAt X4 G = X5 at B rS rN m p1 p2 p3 hHeld ⊢
            refine norm_ (a' := ?_) ?_ ?_
            rotate_left
            · show Act.put _ (some 13) _ = _
              simp only [Act.put, List.setIfInBounds_toArray, List.set_cons_zero, List.set_cons_succ]
              rfl
            refine one_ (i := 16) (N := some 28) #[true, true, true, true, true, true, true, true, true, true, true, true, true, true, true, true, true, false, false] rfl rfl (by kernel_rfl) (by decide) (fun K hK => ?_)
            refine value_ (v := .slice (some ⟨X5.heap.size, 0, none⟩) 6 6) (w1 := X5.alloc (.cells #[.slice (some ⟨G, 0, none⟩) 3 3, .slice A1 L1.length c1, .slice AS S.length cS, .slice A2 L2.length c2, .slice AN N.length cN, .slice A3 L3.length c3] 22)) (by rfl) rfl (by go_simp) ?_
            refine hK.out _ _ (five_reads (Reads.alloc (Reads.refl _) _) hHeld) (fun hHeld => ?_)
            clear hK K
            refine norm_ (a' := ?_) ?_ ?_
            rotate_left
            · show Act.put _ (some 28) _ = _
              simp only [Act.put, List.setIfInBounds_toArray, List.set_cons_zero, List.set_cons_succ]
              rfl
            refine one_ (i := 17) (N := some 29) #[true, true, true, true, true, true, true, true, true, true, true, true, true, true, true, true, true, true, false] rfl rfl (by kernel_rfl) (by decide) (fun K hK => ?_)
            refine goes_ Try.func70 (by kernel_rfl) rfl #[.slice (some ⟨X5.heap.size, 0, none⟩) 6 6] (by rfl) rfl rfl (by simp only [List.map_toArray, List.map_cons, List.map_nil]; rfl) ?_
            with_reducible refine (concat_n _ 6 [mk, L1, S, L2, N, L3] LF 6 rfl _ (rbb6 m hmk3.out p1 rS p2 rN p3 _ rfl) (by simp) hLF0.out hLF.out).mono ?_
            rintro e w5 ⟨⟨A5, c5, rfl, o5⟩, hb5⟩
            refine ⟨_, rfl, ?_⟩
            have fin := own_then (bl_alloc B _) hb5 o5
            refine hK.out _ _ (five_reads (Reads.below (Reads.refl _) hb5) hHeld) (fun hHeld => ?_)
            clear hK K
            refine norm_ (a' := ?_) ?_ ?_
            rotate_left
            · show Act.put _ (some 29) _ = _
              simp only [Act.put, List.setIfInBounds_toArray, List.set_cons_zero, List.set_cons_succ]
              rfl
            refine take_ (i := 18) (N := some 4) (v := ?_) (a' := ?_) #[true, true, true, true, true, true, true, true, true, true, true, true, true, true, true, true, true, true, true] rfl rfl (by kernel_rfl) (fun _ _ _ h => h) (Or.inl ⟨by rfl, ?_⟩) hHeld ?_ ?_
            rotate_left
            · rintro w' ⟨s0, s1, s2, s3, s4⟩
              go_simp
              try with_reducible rfl
            rotate_left
            · simp only [Act.put, List.setIfInBounds_toArray, List.set_cons_zero, List.set_cons_succ]
              rfl
            refine done_ (by kernel_rfl) ?_
            go_wp2_with fail
            go_meet
            exact ⟨A5, c5, rfl, fin.1, fin.2⟩
      · refine goes_ Try.func71 (by kernel_rfl) rfl #[.int .i64 r, .int .i64 4] (by rfl) rfl rfl (by simp only [List.map_toArray, List.map_cons, List.map_nil]; rfl) ?_
        with_reducible refine (c_number r 4 L2 _ (by have := v1.out; omega) (by have := v1.out; omega) hL2.out).mono ?_
        rintro e X2 ⟨⟨A2, c2, rfl, o⟩, hb⟩
        refine ⟨_, rfl, ?_⟩
        have R : Reads X1 X2 := Reads.below (Reads.refl _) hb
        have p2 := o.ok
        replace B := bl_then B hb
        clear o hb
        replace rS := rS.reads R
        replace rN := rN.reads R
        replace p1 := p1.reads R
        have S' := five_reads R hHeld
        clear R hHeld
        refine hK.out _ _ S' (fun hHeld => ?_)
        clear hK K S'
        refine norm_ (a' := ?_) ?_ ?_
        rotate_left
        · show Act.put _ (some 21) _ = _
          simp only [Act.put, List.setIfInBounds_toArray, List.set_cons_zero, List.set_cons_succ]
          rfl
        refine two_ (i := 0) (j := 15) (Ni := some 12) (Nj := some 27) #[true, false, true, true, true, true, true, true, true, true, true, true, true, true, true, false, false, false, false] #[false, false, true, true, true, true, true, true, true, true, true, true, true, true, true, true, false, false, false] rfl rfl rfl rfl (by kernel_rfl) (by decide) (by decide) (fun K hK => ?_) (fun K hK => ?_)
        · refine value_ (v := .slice (some ⟨X2.heap.size, 0, none⟩) 3 3) (w1 := X2.alloc (.cells #[.int .u8 80, .int .u8 89, .int .u8 88] 5)) (by rfl) rfl (by go_simp) ?_
          have R : Reads X2 (X2.alloc (.cells #[.int .u8 80, .int .u8 89, .int .u8 88] 5)) := Reads.alloc (Reads.refl _) _
          have m : OkB (X2.alloc (.cells #[.int .u8 80, .int .u8 89, .int .u8 88] 5)) (some ⟨X2.heap.size, 0, none⟩) 3 mk := by rw [hmk.out]; exact (own_mark X2 _ rfl).ok
          have hG := Lib.hid B.size
          replace B := bl_alloc B (.cells #[.int .u8 80, .int .u8 89, .int .u8 88] 5)
          obtain ⟨G, hGe⟩ : ∃ G, X2.heap.size = G := ⟨_, rfl⟩
          rw [hGe] at m hG
          rw [hGe]
          clear hGe
          replace rS := rS.reads R
          replace rN := rN.reads R
          replace p1 := p1.reads R
          replace p2 := p2.reads R
          have S' := five_reads R hHeld
          clear R hHeld
          refine hK.out _ _ S' (fun hHeld => ?_)
          clear hK K S'
          generalize X2.alloc (.cells #[.int .u8 80, .int .u8 89, .int .u8 88] 5) = X3 at B rS rN p1 p2 m hHeld ⊢
          refine norm_ (a' := ?_) ?_ ?_
          rotate_left
          · show Act.put _ (some 12) _ = _
            simp only [Act.put, List.setIfInBounds_toArray, List.set_cons_zero, List.set_cons_succ]
            rfl
          refine two_ (i := 1) (j := 15) (Ni := some 13) (Nj := some 27) #[true, true, true, true, true, true, true, true, true, true, true, true, true, true, true, false, false, false, false] #[true, false, true, true, true, true, true, true, true, true, true, true, true, true, true, true, false, false, false] rfl rfl rfl rfl (by kernel_rfl) (by decide) (by decide) (fun K hK => ?_) (fun K hK => ?_)
          · refine value_ (v := .slice (some ⟨G, 0, none⟩) 3 3) (w1 := markAt X3 G) (by rfl) rfl (by go_simp) ?_
            have R : Reads X3 (markAt X3 G) := Reads.mark (Reads.refl _) _
            replace B := bl_mark B hG.out
            replace rS := rS.reads R
            replace rN := rN.reads R
            replace m := m.reads R
            replace p1 := p1.reads R
            replace p2 := p2.reads R
            have S' := five_reads R hHeld
            clear R hHeld
            refine hK.out _ _ S' (fun hHeld => ?_)
            clear hK K S'
            generalize markAt X3 G = X4 at B rS rN m p1 p2 hHeld ⊢
            refine norm_ (a' := ?_) ?_ ?_
            rotate_left
            · show Act.put _ (some 13) _ = _
              simp only [Act.put, List.setIfInBounds_toArray, List.set_cons_zero, List.set_cons_succ]
              rfl
            refine one_ (i := 15) (N := some 27) #[true, true, true, true, true, true, true, true, true, true, true, true, true, true, true, true, false, false, false] rfl rfl (by kernel_rfl) (by decide) (fun K hK => ?_)
            refine goes_ Try.func71 (by kernel_rfl) rfl #[.int .i64 (T.length : Int), .int .i64 2] (by rfl) rfl rfl (by simp only [List.map_toArray, List.map_cons, List.map_nil]; rfl) ?_
            with_reducible refine (c_number (T.length : Int) 2 L3 _ (by omega) (by omega) hL3.out).mono ?_
            rintro e X5 ⟨⟨A3, c3, rfl, o⟩, hb⟩
            refine ⟨_, rfl, ?_⟩
            have R : Reads X4 X5 := Reads.below (Reads.refl _) hb
            have p3 := o.ok
            replace B := bl_then B hb
            clear o hb
            replace rS := rS.reads R
            replace rN := rN.reads R
            replace m := m.reads R
            replace p1 := p1.reads R
            replace p2 := p2.reads R
            have S' := five_reads R hHeld
            clear R hHeld
            refine hK.out _ _ S' (fun hHeld => ?_)
            clear hK K S'
            refine norm_ (a' := ?_) ?_ ?_
            rotate_left
            · show Act.put _ (some 27) _ = _
              simp only [Act.put, List.setIfInBounds_toArray, List.set_cons_zero, List.set_cons_succ]
              rfl
            refine one_ (i := 16) (N := some 28) #[true, true, true, true, true, true, true, true, true, true, true, true, true, true, true, true, true, false, false] rfl rfl (by kernel_rfl) (by decide) (fun K hK => ?_)
            refine value_ (v := .slice (some ⟨X5.heap.size, 0, none⟩) 6 6) (w1 := X5.alloc (.cells #[.slice (some ⟨G, 0, none⟩) 3 3, .slice A1 L1.length c1, .slice AS S.length cS, .slice A2 L2.length c2, .slice AN N.length cN, .slice A3 L3.length c3] 22)) (by rfl) rfl (by go_simp) ?_
            refine hK.out _ _ (five_reads (Reads.alloc (Reads.refl _) _) hHeld) (fun hHeld => ?_)
            clear hK K
            refine norm_ (a' := ?_) ?_ ?_
            rotate_left
            · show Act.put _ (some 28) _ = _
              simp only [Act.put, List.setIfInBounds_toArray, List.set_cons_zero, List.set_cons_succ]
              rfl
            refine one_ (i := 17) (N := some 29) #[true, true, true, true, true, true, true, true, true, true, true, true, true, true, true, true, true, true, false] rfl rfl (by kernel_rfl) (by decide) (fun K hK => ?_)
            refine goes_ Try.func70 (by kernel_rfl) rfl #[.slice (some ⟨X5.heap.size, 0, none⟩) 6 6] (by rfl) rfl rfl (by simp only [List.map_toArray, List.map_cons, List.map_nil]; rfl) ?_
            with_reducible refine (concat_n _ 6 [mk, L1, S, L2, N, L3] LF 6 rfl _ (rbb6 m hmk3.out p1 rS p2 rN p3 _ rfl) (by simp) hLF0.out hLF.out).mono ?_
            rintro e w5 ⟨⟨A5, c5, rfl, o5⟩, hb5⟩
            refine ⟨_, rfl, ?_⟩
            have fin := own_then (bl_alloc B _) hb5 o5
            refine hK.out _ _ (five_reads (Reads.below (Reads.refl _) hb5) hHeld) (fun hHeld => ?_)
            clear hK K
            refine norm_ (a' := ?_) ?_ ?_
            rotate_left
            · show Act.put _ (some 29) _ = _
              simp only [Act.put, List.setIfInBounds_toArray, List.set_cons_zero, List.set_cons_succ]
              rfl
            refine take_ (i := 18) (N := some 4) (v := ?_) (a' := ?_) #[true, true, true, true, true, true, true, true, true, true, true, true, true, true, true, true, true, true, true] rfl rfl (by kernel_rfl) (fun _ _ _ h => h) (Or.inl ⟨by rfl, ?_⟩) hHeld ?_ ?_
            rotate_left
            · rintro w' ⟨s0, s1, s2, s3, s4⟩
              go_simp
              try with_reducible rfl
            rotate_left
            · simp only [Act.put, List.setIfInBounds_toArray, List.set_cons_zero, List.set_cons_succ]
              rfl
            refine done_ (by kernel_rfl) ?_
            go_wp2_with fail
            go_meet
            exact ⟨A5, c5, rfl, fin.1, fin.2⟩
          · refine goes_ Try.func71 (by kernel_rfl) rfl #[.int .i64 (T.length : Int), .int .i64 2] (by rfl) rfl rfl (by simp only [List.map_toArray, List.map_cons, List.map_nil]; rfl) ?_
            with_reducible refine (c_number (T.length : Int) 2 L3 _ (by omega) (by omega) hL3.out).mono ?_
            rintro e X4 ⟨⟨A3, c3, rfl, o⟩, hb⟩
            refine ⟨_, rfl, ?_⟩
            have R : Reads X3 X4 := Reads.below (Reads.refl _) hb
            have p3 := o.ok
            replace B := bl_then B hb
            clear o hb
            replace rS := rS.reads R
            replace rN := rN.reads R
            replace m := m.reads R
            replace p1 := p1.reads R
            replace p2 := p2.reads R
            have S' := five_reads R hHeld
            clear R hHeld
            refine hK.out _ _ S' (fun hHeld => ?_)
            clear hK K S'
            refine norm_ (a' := ?_) ?_ ?_
            rotate_left
            · show Act.put _ (some 27) _ = _
              simp only [Act.put, List.setIfInBounds_toArray, List.set_cons_zero, List.set_cons_succ]
              rfl
            refine one_ (i := 1) (N := some 13) #[true, true, true, true, true, true, true, true, true, true, true, true, true, true, true, true, false, false, false] rfl rfl (by kernel_rfl) (by decide) (fun K hK => ?_)
            refine value_ (v := .slice (some ⟨G, 0, none⟩) 3 3) (w1 := markAt X4 G) (by rfl) rfl (by go_simp) ?_
            have R : Reads X4 (markAt X4 G) := Reads.mark (Reads.refl _) _
            replace B := bl_mark B hG.out
            replace rS := rS.reads R
            replace rN := rN.reads R
            replace m := m.reads R
            replace p1 := p1.reads R
            replace p2 := p2.reads R
            replace p3 := p3.reads R
            have S' := five_reads R hHeld
            clear R hHeld
            refine hK.out _ _ S' (fun hHeld => ?_)
            clear hK K S'
            generalize markAt X4 G = X5 at B rS rN m p1 p2 p3 hHeld ⊢
            refine norm_ (a' := ?_) ?_ ?_
            rotate_left
            · show Act.put _ (some 13) _ = _
              simp only [Act.put, List.setIfInBounds_toArray, List.set_cons_zero, List.set_cons_succ]
              rfl
            refine one_ (i := 16) (N := some 28) #[true, true, true, true, true, true, true, true, true, true, true, true, true, true, true, true, true, false, false] rfl rfl (by kernel_rfl) (by decide) (fun K hK => ?_)
            refine value_ (v := .slice (some ⟨X5.heap.size, 0, none⟩) 6 6) (w1 := X5.alloc (.cells #[.slice (some ⟨G, 0, none⟩) 3 3, .slice A1 L1.length c1, .slice AS S.length cS, .slice A2 L2.length c2, .slice AN N.length cN, .slice A3 L3.length c3] 22)) (by rfl) rfl (by go_simp) ?_
            refine hK.out _ _ (five_reads (Reads.alloc (Reads.refl _) _) hHeld) (fun hHeld => ?_)
            clear hK K
            refine norm_ (a' := ?_) ?_ ?_
            rotate_left
            · show Act.put _ (some 28) _ = _
              simp only [Act.put, List.setIfInBounds_toArray, List.set_cons_zero, List.set_cons_succ]
              rfl
            refine one_ (i := 17) (N := some 29) #[true, true, true, true, true, true, true, true, true, true, true, true, true, true, true, true, true, true, false] rfl rfl (by kernel_rfl) (by decide) (fun K hK => ?_)
            refine goes_ Try.func70 (by kernel_rfl) rfl #[.slice (some ⟨X5.heap.size, 0, none⟩) 6 6] (by rfl) rfl rfl (by simp only [List.map_toArray, List.map_cons, List.map_nil]; rfl) ?_
            with_reducible refine (concat_n _ 6 [mk, L1, S, L2, N, L3] LF 6 rfl _ (rbb6 m hmk3.out p1 rS p2 rN p3 _ rfl) (by simp) hLF0.out hLF.out).mono ?_
            rintro e w5 ⟨⟨A5, c5, rfl, o5⟩, hb5⟩
            refine ⟨_, rfl, ?_⟩
            have fin := own_then (bl_alloc B _) hb5 o5
            refine hK.out _ _ (five_reads (Reads.below (Reads.refl _) hb5) hHeld) (fun hHeld => ?_)
            clear hK K
            refine norm_ (a' := ?_) ?_ ?_
            rotate_left
            · show Act.put _ (some 29) _ = _
              simp only [Act.put, List.setIfInBounds_toArray, List.set_cons_zero, List.set_cons_succ]
              rfl
            refine take_ (i := 18) (N := some 4) (v := ?_) (a' := ?_) #[true, true, true, true, true, true, true, true, true, true, true, true, true, true, true, true, true, true, true] rfl rfl (by kernel_rfl) (fun _ _ _ h => h) (Or.inl ⟨by rfl, ?_⟩) hHeld ?_ ?_
            rotate_left
            · rintro w' ⟨s0, s1, s2, s3, s4⟩
              go_simp
              try with_reducible rfl
            rotate_left
            · simp only [Act.put, List.setIfInBounds_toArray, List.set_cons_zero, List.set_cons_succ]
              rfl
            refine done_ (by kernel_rfl) ?_
            go_wp2_with fail
            go_meet
            exact ⟨A5, c5, rfl, fin.1, fin.2⟩
        · refine goes_ Try.func71 (by kernel_rfl) rfl #[.int .i64 (T.length : Int), .int .i64 2] (by rfl) rfl rfl (by simp only [List.map_toArray, List.map_cons, List.map_nil]; rfl) ?_
          with_reducible refine (c_number (T.length : Int) 2 L3 _ (by omega) (by omega) hL3.out).mono ?_
          rintro e X3 ⟨⟨A3, c3, rfl, o⟩, hb⟩
          refine ⟨_, rfl, ?_⟩
          have R : Reads X2 X3 := Reads.below (Reads.refl _) hb
          have p3 := o.ok
          replace B := bl_then B hb
          clear o hb
          replace rS := rS.reads R
          replace rN := rN.reads R
          replace p1 := p1.reads R
          replace p2 := p2.reads R
          have S' := five_reads R hHeld
          clear R hHeld
          refine hK.out _ _ S' (fun hHeld => ?_)
          clear hK K S'
          refine norm_ (a' := ?_) ?_ ?_
          rotate_left
          · show Act.put _ (some 27) _ = _
            simp only [Act.put, List.setIfInBounds_toArray, List.set_cons_zero, List.set_cons_succ]
            rfl
          refine one_ (i := 0) (N := some 12) #[true, false, true, true, true, true, true, true, true, true, true, true, true, true, true, true, false, false, false] rfl rfl (by kernel_rfl) (by decide) (fun K hK => ?_)
          refine value_ (v := .slice (some ⟨X3.heap.size, 0, none⟩) 3 3) (w1 := X3.alloc (.cells #[.int .u8 80, .int .u8 89, .int .u8 88] 5)) (by rfl) rfl (by go_simp) ?_
          have R : Reads X3 (X3.alloc (.cells #[.int .u8 80, .int .u8 89, .int .u8 88] 5)) := Reads.alloc (Reads.refl _) _
          have m : OkB (X3.alloc (.cells #[.int .u8 80, .int .u8 89, .int .u8 88] 5)) (some ⟨X3.heap.size, 0, none⟩) 3 mk := by rw [hmk.out]; exact (own_mark X3 _ rfl).ok
          have hG := Lib.hid B.size
          replace B := bl_alloc B (.cells #[.int .u8 80, .int .u8 89, .int .u8 88] 5)
          obtain ⟨G, hGe⟩ : ∃ G, X3.heap.size = G := ⟨_, rfl⟩
          rw [hGe] at m hG
          rw [hGe]
          clear hGe
          replace rS := rS.reads R
          replace rN := rN.reads R
          replace p1 := p1.reads R
          replace p2 := p2.reads R
          replace p3 := p3.reads R
          have S' := five_reads R hHeld
          clear R hHeld
          refine hK.out _ _ S' (fun hHeld => ?_)
          clear hK K S'
          generalize X3.alloc (.cells #[.int .u8 80, .int .u8 89, .int .u8 88] 5) = X4 at B rS rN p1 p2 p3 m hHeld ⊢
          refine norm_ (a' := ?_) ?_ ?_
          rotate_left
          · show Act.put _ (some 12) _ = _
            simp only [Act.put, List.setIfInBounds_toArray, List.set_cons_zero, List.set_cons_succ]
            rfl
          refine one_ (i := 1) (N := some 13) #[true, true, true, true, true, true, true, true, true, true, true, true, true, true, true, true, false, false, false] rfl rfl (by kernel_rfl) (by decide) (fun K hK => ?_)
          refine value_ (v := .slice (some ⟨G, 0, none⟩) 3 3) (w1 := markAt X4 G) (by rfl) rfl (by go_simp) ?_
          have R : Reads X4 (markAt X4 G) := Reads.mark (Reads.refl _) _
          replace B := bl_mark B hG.out
          replace rS := rS.reads R
          replace rN := rN.reads R
          replace m := m.reads R
          replace p1 := p1.reads R
          replace p2 := p2.reads R
          replace p3 := p3.reads R
          have S' := five_reads R hHeld
          clear R hHeld
          refine hK.out _ _ S' (fun hHeld => ?_)
          clear hK K S'
          generalize markAt X4 G = X5 at B rS rN m p1 p2 p3 hHeld ⊢
          refine norm_ (a' := ?_) ?_ ?_
          rotate_left
          · show Act.put _ (some 13) _ = _
            simp only [Act.put, List.setIfInBounds_toArray, List.set_cons_zero, List.set_cons_succ]
            rfl
          refine one_ (i := 16) (N := some 28) #[true, true, true, true, true, true, true, true, true, true, true, true, true, true, true, true, true, false, false] rfl rfl (by kernel_rfl) (by decide) (fun K hK => ?_)
          refine value_ (v := .slice (some ⟨X5.heap.size, 0, none⟩) 6 6) (w1 := X5.alloc (.cells #[.slice (some ⟨G, 0, none⟩) 3 3, .slice A1 L1.length c1, .slice AS S.length cS, .slice A2 L2.length c2, .slice AN N.length cN, .slice A3 L3.length c3] 22)) (by rfl) rfl (by go_simp) ?_
          refine hK.out _ _ (five_reads (Reads.alloc (Reads.refl _) _) hHeld) (fun hHeld => ?_)
          clear hK K
          refine norm_ (a' := ?_) ?_ ?_
          rotate_left
          · show Act.put _ (some 28) _ = _
            simp only [Act.put, List.setIfInBounds_toArray, List.set_cons_zero, List.set_cons_succ]
            rfl
          refine one_ (i := 17) (N := some 29) #[true, true, true, true, true, true, true, true, true, true, true, true, true, true, true, true, true, true, false] rfl rfl (by kernel_rfl) (by decide) (fun K hK => ?_)
          refine goes_ Try.func70 (by kernel_rfl) rfl #[.slice (some ⟨X5.heap.size, 0, none⟩) 6 6] (by rfl) rfl rfl (by simp only [List.map_toArray, List.map_cons, List.map_nil]; rfl) ?_
          with_reducible refine (concat_n _ 6 [mk, L1, S, L2, N, L3] LF 6 rfl _ (rbb6 m hmk3.out p1 rS p2 rN p3 _ rfl) (by simp) hLF0.out hLF.out).mono ?_
          rintro e w5 ⟨⟨A5, c5, rfl, o5⟩, hb5⟩
          refine ⟨_, rfl, ?_⟩
          have fin := own_then (bl_alloc B _) hb5 o5
          refine hK.out _ _ (five_reads (Reads.below (Reads.refl _) hb5) hHeld) (fun hHeld => ?_)
          clear hK K
          refine norm_ (a' := ?_) ?_ ?_
          rotate_left
          · show Act.put _ (some 29) _ = _
            simp only [Act.put, List.setIfInBounds_toArray, List.set_cons_zero, List.set_cons_succ]
            rfl
          refine take_ (i := 18) (N := some 4) (v := ?_) (a' := ?_) #[true, true, true, true, true, true, true, true, true, true, true, true, true, true, true, true, true, true, true] rfl rfl (by kernel_rfl) (fun _ _ _ h => h) (Or.inl ⟨by rfl, ?_⟩) hHeld ?_ ?_
          rotate_left
          · rintro w' ⟨s0, s1, s2, s3, s4⟩
            go_simp
            try with_reducible rfl
          rotate_left
          · simp only [Act.put, List.setIfInBounds_toArray, List.set_cons_zero, List.set_cons_succ]
            rfl
          refine done_ (by kernel_rfl) ?_
          go_wp2_with fail
          go_meet
          exact ⟨A5, c5, rfl, fin.1, fin.2⟩
  case rest =>
    obtain ⟨A5, c5, rfl, o5, b15⟩ := hcut
    replace x := five_reads (Reads.below (Reads.refl _) b15) x
    have x4 := x.2.2.2.2
    have hTT : RT w1 AT T := h1.out.2.2.1
    replace hTT := Lib.hid (hTT.ext b15)
    have gW := Lib.hid (bl_then G1.out b15)
    have q5 := Lib.hid (o5.base_le G1.out.size)
    have HRt := Lib.hid (rightH_iff.1 hR.out).2.2.2.2.2.2.2
    clear o5 x b15 hcv hS0 hN0
    go_wp2_with fail
    go_loopw [4, 33] (fun o i wr => ∃ k : Nat, k ≤ T.length ∧ i = .int .i64 k ∧ (∃ Aa ca L, o = .slice Aa (List.length L) ca ∧ Hid (OwnB wr w.heap.size Aa ca L) ∧ Hid (L = LF ++ (T.take k).flatMap sectB)) ∧ Hid (Below wc.heap.size wc wr)) (fun _ i _ => T.length - (intOf i).toNat)
    case atStart => exact ⟨0, Nat.zero_le _, rfl, ⟨A5, c5, LF, rfl, q5, by show _ = _; simp⟩, Below.refl _ _⟩
    case round =>
      obtain ⟨k, hk, rfl, ⟨Aa, ca, L, rfl, Ho, hL⟩, Hb⟩ := hrel
      have Hg := Lib.hid (bl_then gW.out Hb.out)
      by_cases hp : k < T.length
      · obtain ⟨bk, off, hA, hcells⟩ := (hTT.out.ext Hb.out).some_ hp
        subst hA
        obtain ⟨⟨Ax, cx, y0, ok1⟩, y1, y2⟩ := hcells k hp
        have hok := okS_iff.1 (right_ok HRt.out hp)
        have hss := Lib.hid (sects_succ hp)
        have hlen : L.length ≤ 100 + 300 * 64 := by
          rw [hL.out, List.length_append]
          have := sects_le (T := T.take k) (fun s hs => by
            obtain ⟨j, hj, rfl⟩ := List.mem_iff_getElem.1 hs
            rw [List.length_take] at hj
            rw [List.getElem_take]
            exact (okS_iff.1 (right_ok HRt.out (k := j) (by omega))).1)
          rw [List.length_take] at this
          omega
        obtain ⟨s, hs⟩ : ∃ s, T[k] = s := ⟨_, rfl⟩
        obtain ⟨id, ep, ln⟩ := s
        rw [hs] at y0 ok1 y1 y2 hok hss
        obtain ⟨M1, hM1⟩ : ∃ z, rowL id = z := ⟨_, rfl⟩
        obtain ⟨M2, hM2⟩ : ∃ z, numL ep 6 = z := ⟨_, rfl⟩
        obtain ⟨M3, hM3⟩ : ∃ z, numL ln 4 = z := ⟨_, rfl⟩
        obtain ⟨L2', hL2'⟩ : ∃ z, [L, M1, M2, M3].flatten = z := ⟨_, rfl⟩
        have hse : L2' = LF ++ (T.take (k + 1)).flatMap sectB := by
          rw [hss.out, ← hL2', hL.out, sectB]; simp [hM1, hM2, hM3]
        have hse9 := sectB_le (s := (id, ep, ln)) hok.1
        have hfl : [L, M1, M2, M3].flatten.length ≤ 140737488351232 := by
          have e : [L, M1, M2, M3].flatten = L ++ sectB (id, ep, ln) := by rw [sectB]; simp [hM1, hM2, hM3]
          rw [e, List.length_append]; omega
        have hE := Lib.hid (rowE_ok (x := id) (by have h9 : id.length ≤ 255 := hok.1; omega))
        replace hok := Lib.hid hok
        replace hM1 := Lib.hid hM1; replace hM2 := Lib.hid hM2; replace hM3 := Lib.hid hM3; replace hL2' := Lib.hid hL2'; replace hfl := Lib.hid hfl; replace hse := Lib.hid hse
        clear hs hss hcells hlen hse9
        have ga := bl_alloc (Below.refl wr.heap.size wr) (.cells #[.slice Ax id.length cx, .int .i64 ep, .int .i64 ln] 98)
        replace ok1 := Lib.hid (ok1.ext ga)
        have Ho1 := Lib.hid (Ho.out.ext ga)
        have Hb1 := Lib.hid (bl_then Hb.out ga)
        clear ga
        go_wp2_with fail
        refine (c_row Ax cx id 0 M1 _ ok1.out hE.out hM1.out).mono ?_; rintro e w2 ⟨⟨A6, c6, rfl, o6⟩, hb2⟩
        have s3 : w2.cell? ⟨wr.heap.size, 0, none⟩ = some (.slice Ax id.length cx) ∧ w2.cell? ⟨wr.heap.size, 1, none⟩ = some (.int .i64 ep) ∧ w2.cell? ⟨wr.heap.size, 2, none⟩ = some (.int .i64 ln) :=
          ⟨box_at hb2 0, box_at hb2 1, box_at hb2 2⟩
        have Ho2 : OkB w2 Aa ca L := (Ho1.out.ext hb2).ok
        have o6' := o6.ok
        have Hb2 := Lib.hid (bl_then Hb1.out hb2)
        obtain ⟨B, hB⟩ : ∃ B, wr.heap.size = B := ⟨_, rfl⟩
        rw [hB] at s3
        clear hb2 o6 y0 y1 y2 ok1 Ho1 Hb1
        go_upto_region 8 with fail
        try simp only [hB]
        clear hB
        have q1 : -9223372036854775808 ≤ ep ∧ ep ≤ 9223372036854775807 := by have h2 : 0 ≤ ep := hok.out.2.1; have h3 : ep < 281474976710656 := hok.out.2.2.1; omega
        have q2 : -9223372036854775808 ≤ ln ∧ ln ≤ 9223372036854775807 := by have h2 : 1 ≤ ln := hok.out.2.2.2.1; have h3 : ln ≤ 1048576 := hok.out.2.2.2.2; omega
        go_region_held3 (fun W' => W'.cell? ⟨B, 0, none⟩ = some (.slice Ax id.length cx) ∧ W'.cell? ⟨B, 1, none⟩ = some (.int .i64 ep) ∧ W'.cell? ⟨B, 2, none⟩ = some (.int .i64 ln))
          (with_reducible (first | exact three_reads (Reads.drew (Reads.refl _)) s3 | (refine three_reads (Reads.below (Reads.refl _) hb5) ?_; assumption) | (refine three_reads (Reads.below (Reads.refl _) hb4) ?_; assumption) | (refine three_reads (Reads.below (Reads.refl _) hb3) ?_; assumption) | (refine three_reads (Reads.alloc (Reads.refl _) _) ?_; assumption)))
          (first
            | (go_at_call 71; first
                | (with_reducible refine (c_number ep 6 M2 _ q1.1 q1.2 hM2.out).mono ?_; rintro e w3 ⟨⟨A1, c1, rfl, o1⟩, hb3⟩; have b13 : Below w2.heap.size w2 w3 := (by with_reducible exact bl_then (bl_drew (Below.refl _ w2)) hb3); have p1 := o1.ok)
                | (with_reducible refine (c_number ln 4 M3 _ q2.1 q2.2 hM3.out).mono ?_; rintro e w4 ⟨⟨A2, c2, rfl, o2⟩, hb4⟩; have b14 : Below w2.heap.size w2 w4 := bl_then b13 hb4; have r1 := OkB.ext p1 hb4; have r2 := o2.ok; have r0 := OkB.ext Ho2 b14; have rr := OkB.ext o6' b14)
              )
            | (go_at_call 70; with_reducible refine (concat_n _ 4 [L, M1, M2, M3] L2' 4 rfl _ (rbb4 r0 rr r1 r2 _ rfl) (by simp) hfl.out hL2'.out).mono ?_; rintro e w5 ⟨⟨A7, c7, rfl, o7⟩, hb5⟩; have fin := own_then (by with_reducible exact bl_alloc b14 _) hb5 o7))
        all_goals go_wp2_with fail
        all_goals exact ⟨⟨k + 1, by omega, congrArg (Value.int .i64) (by omega), ⟨A7, c7, L2', rfl, fin.1.base_le (Nat.le_trans gW.out.size Hb2.out.size), hse⟩, bl_then Hb2.out fin.2⟩, by show T.length - ((k : Int) + 1).toNat < T.length - ((k : Int)).toNat; omega⟩
      · have hke : k = T.length := by omega
        subst hke
        rw [List.take_length] at hL
        have hLe : L = headB v S r N T := by rw [hL.out, hLFe.out]; rfl
        go_wp2_with fail
        go_ret2
        exact ⟨⟨Aa, ca, ret_sl2 (by rw [hLe]), by rw [← hLe]; exact Ho.out⟩, Hg.out⟩
end Go.Proofs.Ytlcclaicodghcaa
