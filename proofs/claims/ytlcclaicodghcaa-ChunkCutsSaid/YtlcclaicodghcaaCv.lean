import Derived.Test.YtlcclaicodghcaaCu
import Derived.Laws.StructEq
namespace Go.Proofs.Ytlcclaicodghcaa
open Go.RowKit
open Go.Proofs.YtlcclaicodghcaaW.PrintLast

theorem OwnB.set_blk {w : World} {base g i : Nat} {t : TypeId} {cs : Array Value} {A : Option Addr} {c : Nat} {bs : List UInt8} (h : OwnB w base A c bs) (fg : w.heap[g]? = some (.cells cs t (0, 0))) (ht : 5 ≠ t) (u : Value) : OwnB (w.setCell ⟨g, i, none⟩ u) base A c bs := by
  refine ⟨⟨h.1.1, ?_⟩, h.2⟩
  rcases h.1.2 with h0 | ⟨g', cap, cur, h1, hb, hh, h2⟩
  · exact .inl h0
  · refine .inr ⟨g', cap, cur, h1, hb, (Below.heap_setCell w ⟨g, i, none⟩ u g' ?_).trans hh, h2⟩
    rintro rfl; rw [hh] at fg; injection fg with fg; injection fg with _ e; exact ht e
theorem five_blk {w : World} {base g : Nat} {t : TypeId} {cs : Array Value} {A : Option Addr} {c : Nat} {bs : List UInt8} (h : OwnB w base A c bs) (fg : w.heap[g]? = some (.cells cs t (0, 0))) (ht : 5 ≠ t) (u0 u1 u2 u3 u4 : Value) :
    OwnB (((((w.setCell ⟨g, 0, none⟩ u0).setCell ⟨g, 1, none⟩ u1).setCell ⟨g, 2, none⟩ u2).setCell ⟨g, 3, none⟩ u3).setCell ⟨g, 4, none⟩ u4) base A c bs :=
  ((((h.set_blk fg ht u0).set_blk (blk_set fg 0 u0) ht u1).set_blk (blk_set (blk_set fg 0 u0) 1 u1) ht u2).set_blk (blk_set (blk_set (blk_set fg 0 u0) 1 u1) 2 u2) ht u3).set_blk (blk_set (blk_set (blk_set (blk_set fg 0 u0) 1 u1) 2 u2) 3 u3) ht u4
/-- 'make([]byte, n)'. -/
theorem make_zero (n : Nat) (hn : n ≤ 1000000) : ∃ Z : Array Value, (∀ W : World, (Instr.makeSlice 22 (.int .i64 (n : Int)) (.int .i64 (n : Int))).run Try.prog W = .ok (.slice (some ⟨W.heap.size, 0, none⟩) n n) (W.alloc (.cells Z 5))) ∧
    (∀ W : World, OwnB (W.alloc (.cells Z 5)) W.heap.size (some ⟨W.heap.size, 0, none⟩) n (List.replicate n 0)) := by
  obtain ⟨i0, hi, hz0, hz1, hz2⟩ := info_parts info5
  refine ⟨madeCells (Value.int .u8 0).cells (n * 1), fun W => ?_, fun W => ?_⟩
  · have h := run_make (P := Try.prog) W 22 5 i0 (.int .u8 0) Try.underlying22 hi hz0 .i64 .i64 (n : Int) (n : Int) (by omega) (by omega) (by rw [hz2]; omega) (by omega)
    rw [hz1] at h
    simpa using h
  · have h := World.ownsRow_lit (base := W.heap.size) (e := 5) (size := 1) W (madeCells (Value.int .u8 0).cells (n * 1)) n (Nat.le_refl _) (by simp only [maxLen]; omega) (by rw [Nat.mul_one, show (Value.int IntKind.u8 0).cells = #[.int .u8 0] from rfl, ← Array.length_toList, toList_madeCells_one]; simp)
    rw [made_u8] at h
    refine ⟨?_, by simp; omega⟩
    rw [List.length_replicate]
    exact h
/-- A row of bytes is no head. -/
theorem OkB.set_ne {W : World} {A : Option Addr} {c g i : Nat} {bs : List UInt8} (h : OkB W A c bs) (hne : ∀ o v n, W.cell? ⟨g, o, none⟩ = some v → v ≠ .int .u8 n) (u : Value) : OkB (W.setCell ⟨g, i, none⟩ u) A c bs := by
  refine ⟨?_, h.2⟩
  rcases h.1 with h0 | ⟨b, off, h1, h2⟩
  · exact .inl h0
  · refine .inr ⟨b, off, h1, fun j hj => ?_⟩
    have hc := h2 j hj
    have hb : b ≠ g := by rintro rfl; exact hne _ _ _ hc rfl
    rw [World.cell?_setCell_other _ _ _ _ (by intro e; injection e with e; exact hb e.symm)]
    exact hc
theorem head_ne {W : World} {g : Nat} {a b : Int} {A0 A1 A2 : Option Addr} {n0 n1 n2 c0 c1 c2 : Nat} (fg : W.heap[g]? = some (.cells #[.int .i64 a, .slice A0 n0 c0, .int .i64 b, .slice A1 n1 c1, .slice A2 n2 c2] 75 (0, 0))) : ∀ o v n, W.cell? ⟨g, o, none⟩ = some v → v ≠ .int .u8 n := by
  intro o v n h
  rw [cell_blk fg o] at h
  match o, h with
  | 0, h => cases h; intro e; cases e
  | 1, h => cases h; intro e; cases e
  | 2, h => cases h; intro e; cases e
  | 3, h => cases h; intro e; cases e
  | 4, h => cases h; intro e; cases e
  | o + 5, h => simp at h
theorem rbb2 {X : World} {A0 A1 : Option Addr} {n0 n1 c0 c1 : Nat} {l0 l1 : List UInt8} (h0 : OkB X A0 c0 l0) (e0 : l0.length = n0) (h1 : OkB X A1 c1 l1) (e1 : l1.length = n1) (o : Nat) (ho : o = X.heap.size) :
    RBB (X.alloc (.cells #[.slice A0 n0 c0, .slice A1 n1 c1] 22)) (some ⟨o, 0, none⟩) [l0, l1] := by
  subst ho e0 e1
  have hb := bl_alloc (Below.refl _ X) (.cells #[.slice A0 l0.length c0, .slice A1 l1.length c1] 22)
  refine .inr ⟨X.heap.size, 0, rfl, fun i hi => ?_⟩
  rw [World.cell?_alloc_at _ _ _ _ rfl]
  match i, hi with
  | 0, _ => exact ⟨_, rfl, _, _, rfl, h0.ext hb⟩
  | 1, _ => exact ⟨_, rfl, _, _, rfl, h1.ext hb⟩
theorem c_split (A : Option Addr) (c : Nat) (b : List UInt8) (w : World) (k n : Nat) (hn : b.length = n) (hok : OkB w A c b) (hl : b.length ≤ 1000000) (hk : (splitB b).length = k) :
    Calls Try.prog 58 #[.slice A n c] w fun e w' => (∃ A' c', e = .returned (.slice A' k c')) ∧ Below w.heap.size w w' := by
  subst hk hn
  refine (split_any A c b w hok hl).mono ?_
  rintro e w' ⟨⟨A', c', rfl, -⟩, hb⟩
  exact ⟨⟨A', c', rfl⟩, hb⟩
theorem c_join (A : Option Addr) (c : Nat) (l : List (List UInt8)) (L : List UInt8) (w : World) (n : Nat) (hn : l.length = n) (hR : RBB w A l) (hl0 : l.length ≤ 140737488351232) (hs : l.flatten.length ≤ 140737488351232) (hL : l.flatten = L) :
    Calls Try.prog 60 #[.slice A n c] w fun e w' => (∃ A' c', e = .returned (.slice A' L.length c') ∧ OwnB w' w.heap.size A' c' L) ∧ Below w.heap.size w w' := by
  subst hn; exact join_any A c l L w hR hl0 hs hL
@[go_sem] theorem eq94 (a b d e a' b' d' e' : Int) (c c' : Bool) (w : World) : (Op.equalIn 10000 94 (.agg #[.int .i64 a, .int .i64 b, .bool c, .int .i64 d, .int .i64 e]) (.agg #[.int .i64 a', .int .i64 b', .bool c', .int .i64 d', .int .i64 e'])).run Try.prog w = .ok (decide (a = a' ∧ b = b' ∧ c = c' ∧ d = d' ∧ e = e')) w := by
  have u3 := Try.underlying3
  have u4 := Try.underlying4
  have hS : Try.prog.underlying 94 = some (.struct (Try.prog.fieldsOf 94)) := by kernel_rfl
  have hp : Try.prog.stoodInHeld 94 = false := by kernel_rfl
  rw [show (10000 : Nat) = 9999 + 1 from rfl, run_equalIn_agg w 9999 94 _ _ hS hp]
  simp only [Program.fieldsOf, Try.underlying94]
  go_simp
  by_cases h1 : a = a' <;> by_cases h2 : b = b' <;> by_cases h3 : c = c' <;> by_cases h4 : d = d' <;> by_cases h5 : e = e' <;> simp [h1, h2, h3, h4, h5]

set_option maxRecDepth 20000 in
set_option maxHeartbeats 8000000 in
theorem shown17 (w : World) : Calls Try.prog 42 #[] w fun e w' => e = .returned (.bool true) ∧ Below w.heap.size w w' := by
  obtain ⟨Z16, hm16, hz16⟩ := make_zero 16 (by decide)
  obtain ⟨Z12, hm12, hz12⟩ := make_zero 12 (by decide)
  obtain ⟨Z257, hm257, hz257⟩ := make_zero 257 (by decide)
  replace hm257 : ∀ W : World, (Instr.makeSlice 22 (.int .i64 257) (.int .i64 257)).run Try.prog W = .ok (.slice (some ⟨W.heap.size, 0, none⟩) 257 257) (W.alloc (.cells Z257 5)) := hm257
  obtain ⟨D0, hD0⟩ : ∃ S : List UInt8, S = List.replicate 257 0 := ⟨_, rfl⟩
  rw [← hD0] at hz257
  have hD257 := Lib.hid (show D0.length = 257 by rw [hD0]; simp)
  have hsp := Lib.hid (show (splitB D0).length = 2 by rw [splitB_len]; unfold splitN; rw [hD257.out])
  clear hD0
  obtain ⟨S0, hS0⟩ : ∃ S : List UInt8, S = List.replicate 16 0 := ⟨_, rfl⟩
  obtain ⟨N0, hN0⟩ : ∃ S : List UInt8, S = List.replicate 12 0 := ⟨_, rfl⟩
  rw [← hS0] at hz16
  rw [← hN0] at hz12
  have hS16 := Lib.hid (show S0.length = 16 by rw [hS0]; rfl)
  have hN12 := Lib.hid (show N0.length = 12 by rw [hN0]; rfl)
  replace hm16 : ∀ W : World, (Instr.makeSlice 22 (.int .i64 16) (.int .i64 16)).run Try.prog W = .ok (.slice (some ⟨W.heap.size, 0, none⟩) 16 16) (W.alloc (.cells Z16 5)) := hm16
  replace hm12 : ∀ W : World, (Instr.makeSlice 22 (.int .i64 12) (.int .i64 12)).run Try.prog W = .ok (.slice (some ⟨W.heap.size, 0, none⟩) 12 12) (W.alloc (.cells Z12 5)) := hm12
  have HR0 := Lib.hid (show rightH 1 S0 1 N0 [] = true by rw [hS0, hN0]; decide)
  obtain ⟨T0, hT0⟩ : ∃ T : List SectD, T = [([7], 0, 257)] := ⟨_, rfl⟩
  have HR1 := Lib.hid (show rightH 1 S0 1 N0 T0 = true by rw [hS0, hN0, hT0]; decide)
  obtain ⟨L0, hL0⟩ : ∃ L, writeL 1 S0 1 N0 [] = L := ⟨_, rfl⟩
  have HL0 := Lib.hid hL0
  have HE0 := Lib.hid (show writeE 1 S0 1 N0 [] = 0 by unfold writeE; rw [if_pos HR0.out])
  have hl38 := Lib.hid (show L0.length = 38 by rw [← hL0, hS0, hN0]; decide)
  have hLh : L0 = headB 1 S0 1 N0 [] := by rw [← hL0]; unfold writeL; rw [if_pos HR0.out]
  have hrd := read_put (v := 1) (r := 1) (S := S0) (N := N0) (T := []) (more := []) HR0.out
  rw [List.append_nil, ← hLh, hl38.out] at hrd
  replace hrd := Lib.hid hrd
  have hn50 := Lib.hid (show (writeL 1 S0 1 N0 T0).length = 50 by rw [hS0, hN0, hT0]; decide)
  have hpc := Lib.hid (show piecesP T0 50 T0.length = [(0, 0, false, 50, 288), (0, 1, true, 338, 33)] by rw [hT0]; decide)
  have hsm := Lib.hid (show sameH 1 S0 1 N0 T0 1 S0 1 N0 [] = false by rw [hT0]; unfold sameH; simp)
  have hT1 := Lib.hid (show T0.length = 1 by rw [hT0]; rfl)
  replace hT0 := Lib.hid hT0
  clear hS0 hN0 hL0 hLh
  go_enter Try.func42, Try.ntmps42
  go_wp2_with fail
  go_cut [1] (fun s1 wx => ∃ G GS GN : Nat, s1 = .pointer (some ⟨G, 0, none⟩) ∧ wx.heap[G]? = some (.cells #[.int .i64 1, .slice (some ⟨GS, 0, none⟩) S0.length 16, .int .i64 1, .slice (some ⟨GN, 0, none⟩) N0.length 12, .slice none 0 0] 75 (0, 0)) ∧ OwnB wx w.heap.size (some ⟨GS, 0, none⟩) 16 S0 ∧ OwnB wx w.heap.size (some ⟨GN, 0, none⟩) 12 N0 ∧ w.heap.size ≤ G ∧ Below w.heap.size w wx)
  case first =>
    refine start_ (n := 5) (S := fun _ => True) (ds := []) #[false, false, false, false, false] (by kernel_rfl) rfl rfl trivial (fun hHeld => ?_)
    have B := bl_drew (Below.refl w.heap.size w)
    generalize w.drew = X0 at B ⊢
    refine three_ (i := 0) (j := 1) (k := 3) (Ni := some 8) (Nj := some 9) (Nk := some 1) #[true, false, false, false, false] #[false, true, false, false, false] #[false, false, false, true, false] rfl rfl rfl rfl rfl rfl (by kernel_rfl) (by decide) (by decide) (by decide) (fun K hK => ?_) (fun K hK => ?_) (fun K hK => ?_)
    · refine value_ (v := .slice (some ⟨X0.heap.size, 0, none⟩) 16 16) (w1 := X0.alloc (.cells Z16 5)) (by rfl) rfl (by go_simp) ?_
      have hb := bl_alloc (Below.refl _ X0) (.cells Z16 5)
      have oS := (hz16 X0).base_le B.size
      replace B := bl_then B hb
      clear hb
      obtain ⟨GS, hGe⟩ : ∃ G, X0.heap.size = G := ⟨_, rfl⟩
      rw [hGe] at oS
      rw [hGe]
      clear hGe
      refine hK.out _ _ trivial (fun hHeld => ?_)
      clear hK K
      generalize X0.alloc (.cells Z16 5) = X1 at B oS ⊢
      refine norm_ (a' := ?_) ?_ ?_
      rotate_left
      · show Act.put _ (some 8) _ = _
        simp only [Act.put, List.setIfInBounds_toArray, List.set_cons_zero, List.set_cons_succ]
        rfl
      refine two_ (i := 1) (j := 3) (Ni := some 9) (Nj := some 1) #[true, true, false, false, false] #[true, false, false, true, false] rfl rfl rfl rfl (by kernel_rfl) (by decide) (by decide) (fun K hK => ?_) (fun K hK => ?_)
      · refine value_ (v := .slice (some ⟨X1.heap.size, 0, none⟩) 12 12) (w1 := X1.alloc (.cells Z12 5)) (by rfl) rfl (by go_simp) ?_
        have hb := bl_alloc (Below.refl _ X1) (.cells Z12 5)
        have oN := (hz12 X1).base_le B.size
        replace oS := oS.ext hb
        replace B := bl_then B hb
        clear hb
        obtain ⟨GN, hGe⟩ : ∃ G, X1.heap.size = G := ⟨_, rfl⟩
        rw [hGe] at oN
        rw [hGe]
        clear hGe
        refine hK.out _ _ trivial (fun hHeld => ?_)
        clear hK K
        generalize X1.alloc (.cells Z12 5) = X2 at B oS oN ⊢
        refine norm_ (a' := ?_) ?_ ?_
        rotate_left
        · show Act.put _ (some 9) _ = _
          simp only [Act.put, List.setIfInBounds_toArray, List.set_cons_zero, List.set_cons_succ]
          rfl
        refine pure_ (i := 2) (N := some 10) (v := ?_) (a' := ?_) #[true, true, true, false, false] rfl rfl (by kernel_rfl) (fun _ _ _ h => h) (Or.inl ⟨by rfl, ?_⟩) ?_ ?_
        rotate_left
        · intro w'
          go_simp
          try with_reducible rfl
        rotate_left
        · simp only [Act.put, List.setIfInBounds_toArray, List.set_cons_zero, List.set_cons_succ]
          rfl
        refine one_ (i := 3) (N := some 1) #[true, true, true, true, false] rfl rfl (by kernel_rfl) (by decide) (fun K hK => ?_)
        refine value_ (v := .pointer (some ⟨X2.heap.size, 0, none⟩)) (w1 := X2.alloc (.cells #[.int .i64 0, .slice none 0 0, .int .i64 0, .slice none 0 0, .slice none 0 0] 75)) (by rfl) rfl (by go_simp) ?_
        have hb := bl_alloc (Below.refl _ X2) (.cells #[.int .i64 0, .slice none 0 0, .int .i64 0, .slice none 0 0, .slice none 0 0] 75)
        have fg := blk_new X2 #[.int .i64 0, .slice none 0 0, .int .i64 0, .slice none 0 0, .slice none 0 0] 75
        have hGs := B.size
        replace oS := oS.ext hb
        replace oN := oN.ext hb
        replace B := bl_then B hb
        clear hb
        obtain ⟨G, hGe⟩ : ∃ G, X2.heap.size = G := ⟨_, rfl⟩
        rw [hGe] at fg hGs
        rw [hGe]
        clear hGe
        refine hK.out _ _ trivial (fun hHeld => ?_)
        clear hK K
        generalize X2.alloc (.cells #[.int .i64 0, .slice none 0 0, .int .i64 0, .slice none 0 0, .slice none 0 0] 75) = X3 at B oS oN fg ⊢
        refine norm_ (a' := ?_) ?_ ?_
        rotate_left
        · show Act.put _ (some 1) _ = _
          simp only [Act.put, List.setIfInBounds_toArray, List.set_cons_zero, List.set_cons_succ]
          rfl
        have xc := fun i => cell_blk fg i
        have xf := (blk_facts fg).2.1
        refine one_ (i := 4) (N := none) #[true, true, true, true, true] rfl rfl (by kernel_rfl) (by decide) (fun K hK => ?_)
        refine skip_ (w1 := (((((X3.setCell ⟨G, 0, none⟩ (.int .i64 1)).setCell ⟨G, 1, none⟩ (.slice (some ⟨GS, 0, none⟩) 16 16)).setCell ⟨G, 2, none⟩ (.int .i64 1)).setCell ⟨G, 3, none⟩ (.slice (some ⟨GN, 0, none⟩) 12 12)).setCell ⟨G, 4, none⟩ (.slice none 0 0))) (by rfl) rfl (by go_simp) ?_
        refine hK.out _ _ trivial (fun hHeld => ?_)
        clear hK K xc xf
        refine done_ (by kernel_rfl) ?_
        go_wp2_with fail
        go_meet
        have hf := blk_set (blk_set (blk_set (blk_set (blk_set fg 0 (.int .i64 1)) 1 (.slice (some ⟨GS, 0, none⟩) 16 16)) 2 (.int .i64 1)) 3 (.slice (some ⟨GN, 0, none⟩) 12 12)) 4 (.slice none 0 0)
        refine ⟨G, GS, GN, rfl, by rw [hS16.out, hN12.out]; exact hf, five_blk oS fg (by decide) _ _ _ _ _, five_blk oN fg (by decide) _ _ _ _ _, hGs, bl_set (bl_set (bl_set (bl_set (bl_set B hGs _) hGs _) hGs _) hGs _) hGs _⟩
      · refine value_ (v := .pointer (some ⟨X1.heap.size, 0, none⟩)) (w1 := X1.alloc (.cells #[.int .i64 0, .slice none 0 0, .int .i64 0, .slice none 0 0, .slice none 0 0] 75)) (by rfl) rfl (by go_simp) ?_
        have hb := bl_alloc (Below.refl _ X1) (.cells #[.int .i64 0, .slice none 0 0, .int .i64 0, .slice none 0 0, .slice none 0 0] 75)
        have fg := blk_new X1 #[.int .i64 0, .slice none 0 0, .int .i64 0, .slice none 0 0, .slice none 0 0] 75
        have hGs := B.size
        replace oS := oS.ext hb
        replace B := bl_then B hb
        clear hb
        obtain ⟨G, hGe⟩ : ∃ G, X1.heap.size = G := ⟨_, rfl⟩
        rw [hGe] at fg hGs
        rw [hGe]
        clear hGe
        refine hK.out _ _ trivial (fun hHeld => ?_)
        clear hK K
        generalize X1.alloc (.cells #[.int .i64 0, .slice none 0 0, .int .i64 0, .slice none 0 0, .slice none 0 0] 75) = X2 at B oS fg ⊢
        refine norm_ (a' := ?_) ?_ ?_
        rotate_left
        · show Act.put _ (some 1) _ = _
          simp only [Act.put, List.setIfInBounds_toArray, List.set_cons_zero, List.set_cons_succ]
          rfl
        refine one_ (i := 1) (N := some 9) #[true, true, false, true, false] rfl rfl (by kernel_rfl) (by decide) (fun K hK => ?_)
        refine value_ (v := .slice (some ⟨X2.heap.size, 0, none⟩) 12 12) (w1 := X2.alloc (.cells Z12 5)) (by rfl) rfl (by go_simp) ?_
        have hb := bl_alloc (Below.refl _ X2) (.cells Z12 5)
        have oN := (hz12 X2).base_le B.size
        replace oS := oS.ext hb
        replace fg := blk_ext hb (lt_blk fg) fg
        replace B := bl_then B hb
        clear hb
        obtain ⟨GN, hGe⟩ : ∃ G, X2.heap.size = G := ⟨_, rfl⟩
        rw [hGe] at oN
        rw [hGe]
        clear hGe
        refine hK.out _ _ trivial (fun hHeld => ?_)
        clear hK K
        generalize X2.alloc (.cells Z12 5) = X3 at B oS fg oN ⊢
        refine norm_ (a' := ?_) ?_ ?_
        rotate_left
        · show Act.put _ (some 9) _ = _
          simp only [Act.put, List.setIfInBounds_toArray, List.set_cons_zero, List.set_cons_succ]
          rfl
        refine pure_ (i := 2) (N := some 10) (v := ?_) (a' := ?_) #[true, true, true, true, false] rfl rfl (by kernel_rfl) (fun _ _ _ h => h) (Or.inl ⟨by rfl, ?_⟩) ?_ ?_
        rotate_left
        · intro w'
          go_simp
          try with_reducible rfl
        rotate_left
        · simp only [Act.put, List.setIfInBounds_toArray, List.set_cons_zero, List.set_cons_succ]
          rfl
        have xc := fun i => cell_blk fg i
        have xf := (blk_facts fg).2.1
        refine one_ (i := 4) (N := none) #[true, true, true, true, true] rfl rfl (by kernel_rfl) (by decide) (fun K hK => ?_)
        refine skip_ (w1 := (((((X3.setCell ⟨G, 0, none⟩ (.int .i64 1)).setCell ⟨G, 1, none⟩ (.slice (some ⟨GS, 0, none⟩) 16 16)).setCell ⟨G, 2, none⟩ (.int .i64 1)).setCell ⟨G, 3, none⟩ (.slice (some ⟨GN, 0, none⟩) 12 12)).setCell ⟨G, 4, none⟩ (.slice none 0 0))) (by rfl) rfl (by go_simp) ?_
        refine hK.out _ _ trivial (fun hHeld => ?_)
        clear hK K xc xf
        refine done_ (by kernel_rfl) ?_
        go_wp2_with fail
        go_meet
        have hf := blk_set (blk_set (blk_set (blk_set (blk_set fg 0 (.int .i64 1)) 1 (.slice (some ⟨GS, 0, none⟩) 16 16)) 2 (.int .i64 1)) 3 (.slice (some ⟨GN, 0, none⟩) 12 12)) 4 (.slice none 0 0)
        refine ⟨G, GS, GN, rfl, by rw [hS16.out, hN12.out]; exact hf, five_blk oS fg (by decide) _ _ _ _ _, five_blk oN fg (by decide) _ _ _ _ _, hGs, bl_set (bl_set (bl_set (bl_set (bl_set B hGs _) hGs _) hGs _) hGs _) hGs _⟩
    · refine value_ (v := .slice (some ⟨X0.heap.size, 0, none⟩) 12 12) (w1 := X0.alloc (.cells Z12 5)) (by rfl) rfl (by go_simp) ?_
      have hb := bl_alloc (Below.refl _ X0) (.cells Z12 5)
      have oN := (hz12 X0).base_le B.size
      replace B := bl_then B hb
      clear hb
      obtain ⟨GN, hGe⟩ : ∃ G, X0.heap.size = G := ⟨_, rfl⟩
      rw [hGe] at oN
      rw [hGe]
      clear hGe
      refine hK.out _ _ trivial (fun hHeld => ?_)
      clear hK K
      generalize X0.alloc (.cells Z12 5) = X1 at B oN ⊢
      refine norm_ (a' := ?_) ?_ ?_
      rotate_left
      · show Act.put _ (some 9) _ = _
        simp only [Act.put, List.setIfInBounds_toArray, List.set_cons_zero, List.set_cons_succ]
        rfl
      refine two_ (i := 0) (j := 3) (Ni := some 8) (Nj := some 1) #[true, true, false, false, false] #[false, true, false, true, false] rfl rfl rfl rfl (by kernel_rfl) (by decide) (by decide) (fun K hK => ?_) (fun K hK => ?_)
      · refine value_ (v := .slice (some ⟨X1.heap.size, 0, none⟩) 16 16) (w1 := X1.alloc (.cells Z16 5)) (by rfl) rfl (by go_simp) ?_
        have hb := bl_alloc (Below.refl _ X1) (.cells Z16 5)
        have oS := (hz16 X1).base_le B.size
        replace oN := oN.ext hb
        replace B := bl_then B hb
        clear hb
        obtain ⟨GS, hGe⟩ : ∃ G, X1.heap.size = G := ⟨_, rfl⟩
        rw [hGe] at oS
        rw [hGe]
        clear hGe
        refine hK.out _ _ trivial (fun hHeld => ?_)
        clear hK K
        generalize X1.alloc (.cells Z16 5) = X2 at B oN oS ⊢
        refine norm_ (a' := ?_) ?_ ?_
        rotate_left
        · show Act.put _ (some 8) _ = _
          simp only [Act.put, List.setIfInBounds_toArray, List.set_cons_zero, List.set_cons_succ]
          rfl
        refine pure_ (i := 2) (N := some 10) (v := ?_) (a' := ?_) #[true, true, true, false, false] rfl rfl (by kernel_rfl) (fun _ _ _ h => h) (Or.inl ⟨by rfl, ?_⟩) ?_ ?_
        rotate_left
        · intro w'
          go_simp
          try with_reducible rfl
        rotate_left
        · simp only [Act.put, List.setIfInBounds_toArray, List.set_cons_zero, List.set_cons_succ]
          rfl
        refine one_ (i := 3) (N := some 1) #[true, true, true, true, false] rfl rfl (by kernel_rfl) (by decide) (fun K hK => ?_)
        refine value_ (v := .pointer (some ⟨X2.heap.size, 0, none⟩)) (w1 := X2.alloc (.cells #[.int .i64 0, .slice none 0 0, .int .i64 0, .slice none 0 0, .slice none 0 0] 75)) (by rfl) rfl (by go_simp) ?_
        have hb := bl_alloc (Below.refl _ X2) (.cells #[.int .i64 0, .slice none 0 0, .int .i64 0, .slice none 0 0, .slice none 0 0] 75)
        have fg := blk_new X2 #[.int .i64 0, .slice none 0 0, .int .i64 0, .slice none 0 0, .slice none 0 0] 75
        have hGs := B.size
        replace oS := oS.ext hb
        replace oN := oN.ext hb
        replace B := bl_then B hb
        clear hb
        obtain ⟨G, hGe⟩ : ∃ G, X2.heap.size = G := ⟨_, rfl⟩
        rw [hGe] at fg hGs
        rw [hGe]
        clear hGe
        refine hK.out _ _ trivial (fun hHeld => ?_)
        clear hK K
        generalize X2.alloc (.cells #[.int .i64 0, .slice none 0 0, .int .i64 0, .slice none 0 0, .slice none 0 0] 75) = X3 at B oS oN fg ⊢
        refine norm_ (a' := ?_) ?_ ?_
        rotate_left
        · show Act.put _ (some 1) _ = _
          simp only [Act.put, List.setIfInBounds_toArray, List.set_cons_zero, List.set_cons_succ]
          rfl
        have xc := fun i => cell_blk fg i
        have xf := (blk_facts fg).2.1
        refine one_ (i := 4) (N := none) #[true, true, true, true, true] rfl rfl (by kernel_rfl) (by decide) (fun K hK => ?_)
        refine skip_ (w1 := (((((X3.setCell ⟨G, 0, none⟩ (.int .i64 1)).setCell ⟨G, 1, none⟩ (.slice (some ⟨GS, 0, none⟩) 16 16)).setCell ⟨G, 2, none⟩ (.int .i64 1)).setCell ⟨G, 3, none⟩ (.slice (some ⟨GN, 0, none⟩) 12 12)).setCell ⟨G, 4, none⟩ (.slice none 0 0))) (by rfl) rfl (by go_simp) ?_
        refine hK.out _ _ trivial (fun hHeld => ?_)
        clear hK K xc xf
        refine done_ (by kernel_rfl) ?_
        go_wp2_with fail
        go_meet
        have hf := blk_set (blk_set (blk_set (blk_set (blk_set fg 0 (.int .i64 1)) 1 (.slice (some ⟨GS, 0, none⟩) 16 16)) 2 (.int .i64 1)) 3 (.slice (some ⟨GN, 0, none⟩) 12 12)) 4 (.slice none 0 0)
        refine ⟨G, GS, GN, rfl, by rw [hS16.out, hN12.out]; exact hf, five_blk oS fg (by decide) _ _ _ _ _, five_blk oN fg (by decide) _ _ _ _ _, hGs, bl_set (bl_set (bl_set (bl_set (bl_set B hGs _) hGs _) hGs _) hGs _) hGs _⟩
      · refine value_ (v := .pointer (some ⟨X1.heap.size, 0, none⟩)) (w1 := X1.alloc (.cells #[.int .i64 0, .slice none 0 0, .int .i64 0, .slice none 0 0, .slice none 0 0] 75)) (by rfl) rfl (by go_simp) ?_
        have hb := bl_alloc (Below.refl _ X1) (.cells #[.int .i64 0, .slice none 0 0, .int .i64 0, .slice none 0 0, .slice none 0 0] 75)
        have fg := blk_new X1 #[.int .i64 0, .slice none 0 0, .int .i64 0, .slice none 0 0, .slice none 0 0] 75
        have hGs := B.size
        replace oN := oN.ext hb
        replace B := bl_then B hb
        clear hb
        obtain ⟨G, hGe⟩ : ∃ G, X1.heap.size = G := ⟨_, rfl⟩
        rw [hGe] at fg hGs
        rw [hGe]
        clear hGe
        refine hK.out _ _ trivial (fun hHeld => ?_)
        clear hK K
        generalize X1.alloc (.cells #[.int .i64 0, .slice none 0 0, .int .i64 0, .slice none 0 0, .slice none 0 0] 75) = X2 at B oN fg ⊢
        refine norm_ (a' := ?_) ?_ ?_
        rotate_left
        · show Act.put _ (some 1) _ = _
          simp only [Act.put, List.setIfInBounds_toArray, List.set_cons_zero, List.set_cons_succ]
          rfl
        refine one_ (i := 0) (N := some 8) #[true, true, false, true, false] rfl rfl (by kernel_rfl) (by decide) (fun K hK => ?_)
        refine value_ (v := .slice (some ⟨X2.heap.size, 0, none⟩) 16 16) (w1 := X2.alloc (.cells Z16 5)) (by rfl) rfl (by go_simp) ?_
        have hb := bl_alloc (Below.refl _ X2) (.cells Z16 5)
        have oS := (hz16 X2).base_le B.size
        replace oN := oN.ext hb
        replace fg := blk_ext hb (lt_blk fg) fg
        replace B := bl_then B hb
        clear hb
        obtain ⟨GS, hGe⟩ : ∃ G, X2.heap.size = G := ⟨_, rfl⟩
        rw [hGe] at oS
        rw [hGe]
        clear hGe
        refine hK.out _ _ trivial (fun hHeld => ?_)
        clear hK K
        generalize X2.alloc (.cells Z16 5) = X3 at B oN fg oS ⊢
        refine norm_ (a' := ?_) ?_ ?_
        rotate_left
        · show Act.put _ (some 8) _ = _
          simp only [Act.put, List.setIfInBounds_toArray, List.set_cons_zero, List.set_cons_succ]
          rfl
        refine pure_ (i := 2) (N := some 10) (v := ?_) (a' := ?_) #[true, true, true, true, false] rfl rfl (by kernel_rfl) (fun _ _ _ h => h) (Or.inl ⟨by rfl, ?_⟩) ?_ ?_
        rotate_left
        · intro w'
          go_simp
          try with_reducible rfl
        rotate_left
        · simp only [Act.put, List.setIfInBounds_toArray, List.set_cons_zero, List.set_cons_succ]
          rfl
        have xc := fun i => cell_blk fg i
        have xf := (blk_facts fg).2.1
        refine one_ (i := 4) (N := none) #[true, true, true, true, true] rfl rfl (by kernel_rfl) (by decide) (fun K hK => ?_)
        refine skip_ (w1 := (((((X3.setCell ⟨G, 0, none⟩ (.int .i64 1)).setCell ⟨G, 1, none⟩ (.slice (some ⟨GS, 0, none⟩) 16 16)).setCell ⟨G, 2, none⟩ (.int .i64 1)).setCell ⟨G, 3, none⟩ (.slice (some ⟨GN, 0, none⟩) 12 12)).setCell ⟨G, 4, none⟩ (.slice none 0 0))) (by rfl) rfl (by go_simp) ?_
        refine hK.out _ _ trivial (fun hHeld => ?_)
        clear hK K xc xf
        refine done_ (by kernel_rfl) ?_
        go_wp2_with fail
        go_meet
        have hf := blk_set (blk_set (blk_set (blk_set (blk_set fg 0 (.int .i64 1)) 1 (.slice (some ⟨GS, 0, none⟩) 16 16)) 2 (.int .i64 1)) 3 (.slice (some ⟨GN, 0, none⟩) 12 12)) 4 (.slice none 0 0)
        refine ⟨G, GS, GN, rfl, by rw [hS16.out, hN12.out]; exact hf, five_blk oS fg (by decide) _ _ _ _ _, five_blk oN fg (by decide) _ _ _ _ _, hGs, bl_set (bl_set (bl_set (bl_set (bl_set B hGs _) hGs _) hGs _) hGs _) hGs _⟩
    · refine value_ (v := .pointer (some ⟨X0.heap.size, 0, none⟩)) (w1 := X0.alloc (.cells #[.int .i64 0, .slice none 0 0, .int .i64 0, .slice none 0 0, .slice none 0 0] 75)) (by rfl) rfl (by go_simp) ?_
      have hb := bl_alloc (Below.refl _ X0) (.cells #[.int .i64 0, .slice none 0 0, .int .i64 0, .slice none 0 0, .slice none 0 0] 75)
      have fg := blk_new X0 #[.int .i64 0, .slice none 0 0, .int .i64 0, .slice none 0 0, .slice none 0 0] 75
      have hGs := B.size
      replace B := bl_then B hb
      clear hb
      obtain ⟨G, hGe⟩ : ∃ G, X0.heap.size = G := ⟨_, rfl⟩
      rw [hGe] at fg hGs
      rw [hGe]
      clear hGe
      refine hK.out _ _ trivial (fun hHeld => ?_)
      clear hK K
      generalize X0.alloc (.cells #[.int .i64 0, .slice none 0 0, .int .i64 0, .slice none 0 0, .slice none 0 0] 75) = X1 at B fg ⊢
      refine norm_ (a' := ?_) ?_ ?_
      rotate_left
      · show Act.put _ (some 1) _ = _
        simp only [Act.put, List.setIfInBounds_toArray, List.set_cons_zero, List.set_cons_succ]
        rfl
      refine two_ (i := 0) (j := 1) (Ni := some 8) (Nj := some 9) #[true, false, false, true, false] #[false, true, false, true, false] rfl rfl rfl rfl (by kernel_rfl) (by decide) (by decide) (fun K hK => ?_) (fun K hK => ?_)
      · refine value_ (v := .slice (some ⟨X1.heap.size, 0, none⟩) 16 16) (w1 := X1.alloc (.cells Z16 5)) (by rfl) rfl (by go_simp) ?_
        have hb := bl_alloc (Below.refl _ X1) (.cells Z16 5)
        have oS := (hz16 X1).base_le B.size
        replace fg := blk_ext hb (lt_blk fg) fg
        replace B := bl_then B hb
        clear hb
        obtain ⟨GS, hGe⟩ : ∃ G, X1.heap.size = G := ⟨_, rfl⟩
        rw [hGe] at oS
        rw [hGe]
        clear hGe
        refine hK.out _ _ trivial (fun hHeld => ?_)
        clear hK K
        generalize X1.alloc (.cells Z16 5) = X2 at B fg oS ⊢
        refine norm_ (a' := ?_) ?_ ?_
        rotate_left
        · show Act.put _ (some 8) _ = _
          simp only [Act.put, List.setIfInBounds_toArray, List.set_cons_zero, List.set_cons_succ]
          rfl
        refine one_ (i := 1) (N := some 9) #[true, true, false, true, false] rfl rfl (by kernel_rfl) (by decide) (fun K hK => ?_)
        refine value_ (v := .slice (some ⟨X2.heap.size, 0, none⟩) 12 12) (w1 := X2.alloc (.cells Z12 5)) (by rfl) rfl (by go_simp) ?_
        have hb := bl_alloc (Below.refl _ X2) (.cells Z12 5)
        have oN := (hz12 X2).base_le B.size
        replace oS := oS.ext hb
        replace fg := blk_ext hb (lt_blk fg) fg
        replace B := bl_then B hb
        clear hb
        obtain ⟨GN, hGe⟩ : ∃ G, X2.heap.size = G := ⟨_, rfl⟩
        rw [hGe] at oN
        rw [hGe]
        clear hGe
        refine hK.out _ _ trivial (fun hHeld => ?_)
        clear hK K
        generalize X2.alloc (.cells Z12 5) = X3 at B oS fg oN ⊢
        refine norm_ (a' := ?_) ?_ ?_
        rotate_left
        · show Act.put _ (some 9) _ = _
          simp only [Act.put, List.setIfInBounds_toArray, List.set_cons_zero, List.set_cons_succ]
          rfl
        refine pure_ (i := 2) (N := some 10) (v := ?_) (a' := ?_) #[true, true, true, true, false] rfl rfl (by kernel_rfl) (fun _ _ _ h => h) (Or.inl ⟨by rfl, ?_⟩) ?_ ?_
        rotate_left
        · intro w'
          go_simp
          try with_reducible rfl
        rotate_left
        · simp only [Act.put, List.setIfInBounds_toArray, List.set_cons_zero, List.set_cons_succ]
          rfl
        have xc := fun i => cell_blk fg i
        have xf := (blk_facts fg).2.1
        refine one_ (i := 4) (N := none) #[true, true, true, true, true] rfl rfl (by kernel_rfl) (by decide) (fun K hK => ?_)
        refine skip_ (w1 := (((((X3.setCell ⟨G, 0, none⟩ (.int .i64 1)).setCell ⟨G, 1, none⟩ (.slice (some ⟨GS, 0, none⟩) 16 16)).setCell ⟨G, 2, none⟩ (.int .i64 1)).setCell ⟨G, 3, none⟩ (.slice (some ⟨GN, 0, none⟩) 12 12)).setCell ⟨G, 4, none⟩ (.slice none 0 0))) (by rfl) rfl (by go_simp) ?_
        refine hK.out _ _ trivial (fun hHeld => ?_)
        clear hK K xc xf
        refine done_ (by kernel_rfl) ?_
        go_wp2_with fail
        go_meet
        have hf := blk_set (blk_set (blk_set (blk_set (blk_set fg 0 (.int .i64 1)) 1 (.slice (some ⟨GS, 0, none⟩) 16 16)) 2 (.int .i64 1)) 3 (.slice (some ⟨GN, 0, none⟩) 12 12)) 4 (.slice none 0 0)
        refine ⟨G, GS, GN, rfl, by rw [hS16.out, hN12.out]; exact hf, five_blk oS fg (by decide) _ _ _ _ _, five_blk oN fg (by decide) _ _ _ _ _, hGs, bl_set (bl_set (bl_set (bl_set (bl_set B hGs _) hGs _) hGs _) hGs _) hGs _⟩
      · refine value_ (v := .slice (some ⟨X1.heap.size, 0, none⟩) 12 12) (w1 := X1.alloc (.cells Z12 5)) (by rfl) rfl (by go_simp) ?_
        have hb := bl_alloc (Below.refl _ X1) (.cells Z12 5)
        have oN := (hz12 X1).base_le B.size
        replace fg := blk_ext hb (lt_blk fg) fg
        replace B := bl_then B hb
        clear hb
        obtain ⟨GN, hGe⟩ : ∃ G, X1.heap.size = G := ⟨_, rfl⟩
        rw [hGe] at oN
        rw [hGe]
        clear hGe
        refine hK.out _ _ trivial (fun hHeld => ?_)
        clear hK K
        generalize X1.alloc (.cells Z12 5) = X2 at B fg oN ⊢
        refine norm_ (a' := ?_) ?_ ?_
        rotate_left
        · show Act.put _ (some 9) _ = _
          simp only [Act.put, List.setIfInBounds_toArray, List.set_cons_zero, List.set_cons_succ]
          rfl
        refine one_ (i := 0) (N := some 8) #[true, true, false, true, false] rfl rfl (by kernel_rfl) (by decide) (fun K hK => ?_)
        refine value_ (v := .slice (some ⟨X2.heap.size, 0, none⟩) 16 16) (w1 := X2.alloc (.cells Z16 5)) (by rfl) rfl (by go_simp) ?_
        have hb := bl_alloc (Below.refl _ X2) (.cells Z16 5)
        have oS := (hz16 X2).base_le B.size
        replace oN := oN.ext hb
        replace fg := blk_ext hb (lt_blk fg) fg
        replace B := bl_then B hb
        clear hb
        obtain ⟨GS, hGe⟩ : ∃ G, X2.heap.size = G := ⟨_, rfl⟩
        rw [hGe] at oS
        rw [hGe]
        clear hGe
        refine hK.out _ _ trivial (fun hHeld => ?_)
        clear hK K
        generalize X2.alloc (.cells Z16 5) = X3 at B oN fg oS ⊢
        refine norm_ (a' := ?_) ?_ ?_
        rotate_left
        · show Act.put _ (some 8) _ = _
          simp only [Act.put, List.setIfInBounds_toArray, List.set_cons_zero, List.set_cons_succ]
          rfl
        refine pure_ (i := 2) (N := some 10) (v := ?_) (a' := ?_) #[true, true, true, true, false] rfl rfl (by kernel_rfl) (fun _ _ _ h => h) (Or.inl ⟨by rfl, ?_⟩) ?_ ?_
        rotate_left
        · intro w'
          go_simp
          try with_reducible rfl
        rotate_left
        · simp only [Act.put, List.setIfInBounds_toArray, List.set_cons_zero, List.set_cons_succ]
          rfl
        have xc := fun i => cell_blk fg i
        have xf := (blk_facts fg).2.1
        refine one_ (i := 4) (N := none) #[true, true, true, true, true] rfl rfl (by kernel_rfl) (by decide) (fun K hK => ?_)
        refine skip_ (w1 := (((((X3.setCell ⟨G, 0, none⟩ (.int .i64 1)).setCell ⟨G, 1, none⟩ (.slice (some ⟨GS, 0, none⟩) 16 16)).setCell ⟨G, 2, none⟩ (.int .i64 1)).setCell ⟨G, 3, none⟩ (.slice (some ⟨GN, 0, none⟩) 12 12)).setCell ⟨G, 4, none⟩ (.slice none 0 0))) (by rfl) rfl (by go_simp) ?_
        refine hK.out _ _ trivial (fun hHeld => ?_)
        clear hK K xc xf
        refine done_ (by kernel_rfl) ?_
        go_wp2_with fail
        go_meet
        have hf := blk_set (blk_set (blk_set (blk_set (blk_set fg 0 (.int .i64 1)) 1 (.slice (some ⟨GS, 0, none⟩) 16 16)) 2 (.int .i64 1)) 3 (.slice (some ⟨GN, 0, none⟩) 12 12)) 4 (.slice none 0 0)
        refine ⟨G, GS, GN, rfl, by rw [hS16.out, hN12.out]; exact hf, five_blk oS fg (by decide) _ _ _ _ _, five_blk oN fg (by decide) _ _ _ _ _, hGs, bl_set (bl_set (bl_set (bl_set (bl_set B hGs _) hGs _) hGs _) hGs _) hGs _⟩
  case rest =>
    obtain ⟨G, GS, GN, rfl, fg, oS, oN, hG, B⟩ := hcut
    obtain ⟨hc, hf, hz⟩ := blk_facts fg
    go_wp2_with fail
    refine (c_write 1 1 (some ⟨GS, 0, none⟩) 16 S0 (some ⟨GN, 0, none⟩) 12 N0 none 0 [] 0 L0 _ ⟨oS.ok, oN.ok, .inl rfl, by decide⟩ HE0.out HL0.out).mono ?_; rintro e w2 ⟨⟨Ab, cb, rfl, ob⟩, hb2⟩
    replace fg := blk_ext hb2 (lt_blk fg) fg
    replace oS := oS.ext hb2
    replace oN := oN.ext hb2
    replace B := bl_then B hb2
    clear hc hf hz hb2
    replace fg := Lib.hid fg
    go_wp2_with fail
    refine (c_read Ab cb L0 _ ob.ok (by rw [hl38.out]; decide)).mono ?_
    rintro e w3 ⟨⟨AS, cS, AN, cN, AT, cT, he, hH3⟩, hb3⟩
    rw [hrd.out.1, hrd.out.2.1, hrd.out.2.2.1, hrd.out.2.2.2.1, hrd.out.2.2.2.2.1, hrd.out.2.2.2.2.2.1, hrd.out.2.2.2.2.2.2] at he
    rw [hrd.out.2.2.1, hrd.out.2.2.2.2.1, hrd.out.2.2.2.2.2.1] at hH3
    subst he
    replace fg := blk_ext hb3 (lt_blk fg.out) fg.out
    replace oS := oS.ext hb3
    replace oN := oN.ext hb3
    replace B := bl_then B hb3
    have b1 := bl_alloc (Below.refl _ w3) (.cells #[.int .i64 1, .slice AS S0.length cS, .int .i64 1, .slice AN N0.length cN, .slice AT 0 cT] 75)
    have b2 := bl_alloc (Below.refl _ (w3.alloc (.cells #[.int .i64 1, .slice AS S0.length cS, .int .i64 1, .slice AN N0.length cN, .slice AT 0 cT] 75))) (.cells #[.int .u8 7] 5)
    have b3 := bl_alloc (Below.refl _ ((w3.alloc (.cells #[.int .i64 1, .slice AS S0.length cS, .int .i64 1, .slice AN N0.length cN, .slice AT 0 cT] 75)).alloc (.cells #[.int .u8 7] 5))) (.cells #[.slice (some ⟨w3.heap.size + 1, 0, none⟩) 1 1, .int .i64 0, .int .i64 257] 98)
    have f1 := blk_ext b1 (lt_blk fg) fg
    have f2 := blk_ext b2 (lt_blk f1) f1
    have f3 := blk_ext b3 (lt_blk f2) f2
    have fx1 := blk_new w3 #[.int .i64 1, .slice AS S0.length cS, .int .i64 1, .slice AN N0.length cN, .slice AT 0 cT] 75
    have fx2 := blk_ext b2 (lt_blk fx1) fx1
    have fx3 := Lib.hid (blk_ext b3 (lt_blk fx2) fx2)
    have xc : (((w3.alloc (.cells #[.int .i64 1, .slice AS S0.length cS, .int .i64 1, .slice AN N0.length cN, .slice AT 0 cT] 75)).alloc (.cells #[.int .u8 7] 5)).alloc (.cells #[.slice (some ⟨w3.heap.size + 1, 0, none⟩) 1 1, .int .i64 0, .int .i64 257] 98)).cell? ⟨G, 4, none⟩ = some (.slice none 0 0) := (cell_blk f3 4).trans rfl
    have xf : (((w3.alloc (.cells #[.int .i64 1, .slice AS S0.length cS, .int .i64 1, .slice AN N0.length cN, .slice AT 0 cT] 75)).alloc (.cells #[.int .u8 7] 5)).alloc (.cells #[.slice (some ⟨w3.heap.size + 1, 0, none⟩) 1 1, .int .i64 0, .int .i64 257] 98)).frozen? ⟨G, 4, none⟩ = false := (blk_facts f3).2.1 4
    replace f3 := Lib.hid f3
    clear hb3 ob b1 b2 b3 f1 f2 fx1 fx2
    replace fg := Lib.hid fg
    go_upto_region 5 with fail
    have fS := Lib.hid (blk_new ((w3.alloc (.cells #[.int .i64 1, .slice AS S0.length cS, .int .i64 1, .slice AN N0.length cN, .slice AT 0 cT] 75)).alloc (.cells #[.int .u8 7] 5)) #[.slice (some ⟨w3.heap.size + 1, 0, none⟩) 1 1, .int .i64 0, .int .i64 257] 98)
    have n1 := size_al w3 (.cells #[.int .i64 1, .slice AS S0.length cS, .int .i64 1, .slice AN N0.length cN, .slice AT 0 cT] 75)
    have n2 := size_al (w3.alloc (.cells #[.int .i64 1, .slice AS S0.length cS, .int .i64 1, .slice AN N0.length cN, .slice AT 0 cT] 75)) (.cells #[.int .u8 7] 5)
    have oV := Lib.hid ((own_one (w3.alloc (.cells #[.int .i64 1, .slice AS S0.length cS, .int .i64 1, .slice AN N0.length cN, .slice AT 0 cT] 75)) (w3.heap.size + 1) n1.symm 7).ext (bl_alloc (Below.refl _ _) (.cells #[.slice (some ⟨w3.heap.size + 1, 0, none⟩) 1 1, .int .i64 0, .int .i64 257] 98)))
    have oS3 := Lib.hid (((oS.ext (bl_alloc (Below.refl _ _) (.cells #[.int .i64 1, .slice AS S0.length cS, .int .i64 1, .slice AN N0.length cN, .slice AT 0 cT] 75))).ext (bl_alloc (Below.refl _ _) (.cells #[.int .u8 7] 5))).ext (bl_alloc (Below.refl _ _) (.cells #[.slice (some ⟨w3.heap.size + 1, 0, none⟩) 1 1, .int .i64 0, .int .i64 257] 98)))
    have oN3 := Lib.hid (((oN.ext (bl_alloc (Below.refl _ _) (.cells #[.int .i64 1, .slice AS S0.length cS, .int .i64 1, .slice AN N0.length cN, .slice AT 0 cT] 75))).ext (bl_alloc (Below.refl _ _) (.cells #[.int .u8 7] 5))).ext (bl_alloc (Below.refl _ _) (.cells #[.slice (some ⟨w3.heap.size + 1, 0, none⟩) 1 1, .int .i64 0, .int .i64 257] 98)))
    have hX3 := Lib.hid (((hH3.ext (bl_alloc (Below.refl _ _) (.cells #[.int .i64 1, .slice AS S0.length cS, .int .i64 1, .slice AN N0.length cN, .slice AT 0 cT] 75))).ext (bl_alloc (Below.refl _ _) (.cells #[.int .u8 7] 5))).ext (bl_alloc (Below.refl _ _) (.cells #[.slice (some ⟨w3.heap.size + 1, 0, none⟩) 1 1, .int .i64 0, .int .i64 257] 98)))
    have B3 := Lib.hid (bl_alloc (bl_alloc (bl_alloc B (.cells #[.int .i64 1, .slice AS S0.length cS, .int .i64 1, .slice AN N0.length cN, .slice AT 0 cT] 75)) (.cells #[.int .u8 7] 5)) (.cells #[.slice (some ⟨w3.heap.size + 1, 0, none⟩) 1 1, .int .i64 0, .int .i64 257] 98))
    have hGlt : G < w3.heap.size := lt_blk fg.out
    rw [n2, n1] at fS
    obtain ⟨W5, hW5⟩ : ∃ W, (((w3.alloc (.cells #[.int .i64 1, .slice AS S0.length cS, .int .i64 1, .slice AN N0.length cN, .slice AT 0 cT] 75)).alloc (.cells #[.int .u8 7] 5)).alloc (.cells #[.slice (some ⟨w3.heap.size + 1, 0, none⟩) 1 1, .int .i64 0, .int .i64 257] 98)).setCell ⟨G, 4, none⟩ (.slice (some ⟨w3.heap.size + 1 + 1, 0, none⟩) 1 1) = W := ⟨_, rfl⟩
    have fg5 : W5.heap[G]? = some (.cells #[.int .i64 1, .slice (some ⟨GS, 0, none⟩) S0.length 16, .int .i64 1, .slice (some ⟨GN, 0, none⟩) N0.length 12, .slice (some ⟨w3.heap.size + 1 + 1, 0, none⟩) T0.length 1] 75 (0, 0)) := by rw [← hW5, hT1.out]; exact blk_set f3.out 4 _
    have fx5 : W5.heap[w3.heap.size]? = some (.cells #[.int .i64 1, .slice AS S0.length cS, .int .i64 1, .slice AN N0.length cN, .slice AT 0 cT] 75 (0, 0)) := by rw [← hW5]; exact blk_far fx3.out (by omega) _
    have fS5 : W5.heap[w3.heap.size + 1 + 1]? = some (.cells #[.slice (some ⟨w3.heap.size + 1, 0, none⟩) 1 1, .int .i64 0, .int .i64 257] 98 (0, 0)) := by rw [← hW5]; exact blk_far fS.out (by omega) _
    have oS5 : OwnB W5 w.heap.size (some ⟨GS, 0, none⟩) 16 S0 := by rw [← hW5]; exact oS3.out.set_blk f3.out (by decide) _
    have oN5 : OwnB W5 w.heap.size (some ⟨GN, 0, none⟩) 12 N0 := by rw [← hW5]; exact oN3.out.set_blk f3.out (by decide) _
    have oV5 : OwnB W5 (w3.heap.size + 1) (some ⟨w3.heap.size + 1, 0, none⟩) 1 [7] := by rw [← hW5]; exact oV.out.set_blk f3.out (by decide) _
    have hX5 : OkH W5 AS cS S0 AN cN N0 AT [] := by
      rw [← hW5]
      exact ⟨hX3.out.1.set_ne (head_ne f3.out) _, hX3.out.2.1.set_ne (head_ne f3.out) _, .inl rfl, by decide⟩
    have B5 : Below w.heap.size w W5 := by rw [← hW5]; exact bl_set B3.out (p := ⟨G, 4, none⟩) hG _
    have hT5 : RT W5 (some ⟨w3.heap.size + 1 + 1, 0, none⟩) T0 := by
      rw [hT0.out]
      refine .inr ⟨_, 0, rfl, fun i hi => ?_⟩
      obtain rfl : i = 0 := by simpa using hi
      exact ⟨⟨some ⟨w3.heap.size + 1, 0, none⟩, 1, (cell_blk fS5 0).trans rfl, oV5.ok⟩, (cell_blk fS5 1).trans rfl, (cell_blk fS5 2).trans rfl⟩
    have hH5 : OkH W5 (some ⟨GS, 0, none⟩) 16 S0 (some ⟨GN, 0, none⟩) 12 N0 (some ⟨w3.heap.size + 1 + 1, 0, none⟩) T0 := ⟨oS5.ok, oN5.ok, hT5, by rw [hT1.out]; decide⟩
    rw [hW5]
    obtain ⟨hc5, -, -⟩ := blk_facts fg5
    replace fg5 := Lib.hid fg5; replace fx5 := Lib.hid fx5; replace hX5 := Lib.hid hX5; replace hH5 := Lib.hid hH5; replace B5 := Lib.hid B5
    clear hW5 xc xf f3 fx3 fg fS oV oS3 oN3 hX3 B3 fS5 oS5 oN5 oV5 hT5 oS oN hH3 B n1 n2
    go_wp2_with fail
    refine (pieces_any 1 1 (some ⟨GS, 0, none⟩) 16 S0 (some ⟨GN, 0, none⟩) 12 N0 (some ⟨w3.heap.size + 1 + 1, 0, none⟩) 1 T0 _ hH5.out HR1.out 50 hn50.out (by decide)).mono ?_
    rw [hpc.out]
    rintro e w6 ⟨⟨Ap, cp, rfl, op⟩, hb6⟩
    have hP6 := op.rp
    have fg6 := blk_ext hb6 (lt_blk fg5.out) fg5.out
    have fx6 := blk_ext hb6 (lt_blk fx5.out) fx5.out
    have hX6 := Lib.hid (hX5.out.ext hb6)
    have hH6 := Lib.hid (hH5.out.ext hb6)
    have B6 := Lib.hid (bl_then B5.out hb6)
    obtain ⟨bp, offp, rfl, p0, p1, p2, p3, p4⟩ := hP6.some_ (k := 1) (by decide)
    obtain ⟨hc6, -, -⟩ := blk_facts fg6
    obtain ⟨hd6, -, -⟩ := blk_facts fx6
    replace fg6 := Lib.hid fg6; replace fx6 := Lib.hid fx6
    clear hc5 hb6 op
    have hl9 : ((L0.length : Int) == 38) = true := by rw [hl38.out]; rfl
    go_wp2_with fail
    refine (total_any 1 1 AS cS S0 AN cN N0 AT cT [] _ hX6.out (by decide) rfl 38 (by rw [HL0.out, hl38.out]) (by decide) 70 rfl).mono ?_; rintro e w7 ⟨rfl, hb7⟩
    have fg7 := blk_ext hb7 (lt_blk fg6.out) fg6.out
    have fx7 := blk_ext hb7 (lt_blk fx6.out) fx6.out
    have hX7 := Lib.hid (hX6.out.ext hb7)
    have hH7 := Lib.hid (hH6.out.ext hb7)
    have B7 := Lib.hid (bl_then B6.out hb7)
    replace p0 := cell_ext hb7 p0; replace p1 := cell_ext hb7 p1; replace p2 := cell_ext hb7 p2; replace p3 := cell_ext hb7 p3; replace p4 := cell_ext hb7 p4
    simp only [List.getElem_cons_succ, List.getElem_cons_zero, Nat.one_mul] at p0 p1 p2 p3 p4
    obtain ⟨hc7, -, -⟩ := blk_facts fg7
    obtain ⟨hd7, -, -⟩ := blk_facts fx7
    replace fg7 := Lib.hid fg7; replace fx7 := Lib.hid fx7
    clear hc6 hd6 hb7 fg6 fx6
    go_wp2_with fail
    refine (right_any 1 1 (some ⟨GS, 0, none⟩) 16 S0 (some ⟨GN, 0, none⟩) 12 N0 (some ⟨w3.heap.size + 1 + 1, 0, none⟩) 1 T0 _ hH7.out true HR1.out).mono ?_; rintro e w8 ⟨rfl, hb8⟩
    have fg8 := blk_ext hb8 (lt_blk fg7.out) fg7.out
    have fx8 := blk_ext hb8 (lt_blk fx7.out) fx7.out
    have hX8 := Lib.hid (hX7.out.ext hb8)
    have hH8 := Lib.hid (hH7.out.ext hb8)
    have B8 := Lib.hid (bl_then B7.out hb8)
    obtain ⟨hc8, -, -⟩ := blk_facts fg8
    obtain ⟨hd8, -, -⟩ := blk_facts fx8
    clear hc7 hd7 hb8 fg7 fx7 fg8 fx8 p0 p1 p2 p3 p4
    go_wp2_with fail
    refine (same_heads 1 1 (some ⟨GS, 0, none⟩) 16 S0 (some ⟨GN, 0, none⟩) 12 N0 (some ⟨w3.heap.size + 1 + 1, 0, none⟩) 1 T0 1 1 AS cS S0 AN cN N0 AT cT [] _ hH8.out hX8.out false hsm.out).mono ?_; rintro e w9 ⟨rfl, hb9⟩
    have B9 := Lib.hid (bl_then B8.out hb9)
    have o9 := Lib.hid (hz257 w9)
    have B10 := Lib.hid (bl_alloc B9.out (.cells Z257 5))
    clear hc8 hd8 hb9
    go_wp2_with fail
    refine (c_split _ 257 D0 _ 2 257 hD257.out o9.out.ok (by rw [hD257.out]; decide) hsp.out).mono ?_; rintro e w11 ⟨⟨A11, c11, rfl⟩, hb11⟩
    have B11 := Lib.hid (bl_then B10.out hb11)
    have v1 := Lib.hid (((own_one w11 w11.heap.size rfl 1).ok).ext (bl_alloc (Below.refl _ _) (.cells #[.int .u8 2, .int .u8 3] 5)))
    have n1 := size_al w11 (.cells #[.int .u8 1] 5)
    have v2 := Lib.hid (own_two (w11.alloc (.cells #[.int .u8 1] 5)) (w11.heap.size + 1) n1.symm 2 3).ok
    have n2 := size_al (w11.alloc (.cells #[.int .u8 1] 5)) (.cells #[.int .u8 2, .int .u8 3] 5)
    rw [n1] at n2
    have B12 := Lib.hid (bl_alloc (bl_alloc (bl_alloc B11.out (.cells #[.int .u8 1] 5)) (.cells #[.int .u8 2, .int .u8 3] 5)) (.cells #[.slice (some ⟨w11.heap.size, 0, none⟩) 1 1, .slice (some ⟨w11.heap.size + 1, 0, none⟩) 2 2] 22))
    replace n2 := Lib.hid n2
    clear hb11 n1
    go_wp2_with fail
    refine (c_join _ 2 [[1], [2, 3]] [1, 2, 3] _ 2 rfl (rbb2 v1.out rfl v2.out rfl _ n2.out.symm) (by decide) (by decide) rfl).mono ?_; rintro e w13 ⟨⟨A13, c13, rfl, -⟩, hb13⟩
    have B13 := Lib.hid (bl_then B12.out hb13)
    go_wp2_with fail
    go_ret
    exact ⟨rfl, B13.out⟩
end Go.Proofs.Ytlcclaicodghcaa
