import Derived.Test.YtkfalgdhpojejaaWFuses
namespace Go.Proofs.Ytkfalgdhpojejaa
open Go.RowKit

theorem pair_ext {w w' : World} {b : Nat} {x y z v : Value} {a : Addr} (hb : Below w.heap.size w w') (h : (w.cell? ⟨b, 0, none⟩ = some x ∧ w.cell? ⟨b, 1, none⟩ = some y ∧ w.cell? ⟨b, 2, none⟩ = some z) ∧ w.cell? a = some v) :
    (w'.cell? ⟨b, 0, none⟩ = some x ∧ w'.cell? ⟨b, 1, none⟩ = some y ∧ w'.cell? ⟨b, 2, none⟩ = some z) ∧ w'.cell? a = some v := ⟨box_ext hb h.1, cell_ext hb h.2⟩
theorem pair_swap {w : World} {o o' : Obj} {b b2 o2 : Nat} {x y z v : Value} (hb : b < w.heap.size) (hb2 : b2 < w.heap.size) (h : ((w.alloc o).cell? ⟨b, 0, none⟩ = some x ∧ (w.alloc o).cell? ⟨b, 1, none⟩ = some y ∧ (w.alloc o).cell? ⟨b, 2, none⟩ = some z) ∧ (w.alloc o).cell? ⟨b2, o2, none⟩ = some v) :
    ((w.alloc o').cell? ⟨b, 0, none⟩ = some x ∧ (w.alloc o').cell? ⟨b, 1, none⟩ = some y ∧ (w.alloc o').cell? ⟨b, 2, none⟩ = some z) ∧ (w.alloc o').cell? ⟨b2, o2, none⟩ = some v := by
  refine ⟨box_swap hb h.1, ?_⟩
  have h2 := h.2
  rw [World.cell?_alloc_lt _ _ _ hb2] at h2
  rw [World.cell?_alloc_lt _ _ _ hb2]; exact h2
theorem pair_set3 {w : World} {b b' b2 o2 : Nat} (hne : b ≠ b') (hne2 : b2 ≠ b') {x y z u v t q : Value} (h : (w.cell? ⟨b, 0, none⟩ = some x ∧ w.cell? ⟨b, 1, none⟩ = some y ∧ w.cell? ⟨b, 2, none⟩ = some z) ∧ w.cell? ⟨b2, o2, none⟩ = some q) :
    ((((w.setCell ⟨b', 0, none⟩ u).setCell ⟨b', 1, none⟩ v).setCell ⟨b', 2, none⟩ t).cell? ⟨b, 0, none⟩ = some x ∧ (((w.setCell ⟨b', 0, none⟩ u).setCell ⟨b', 1, none⟩ v).setCell ⟨b', 2, none⟩ t).cell? ⟨b, 1, none⟩ = some y ∧ (((w.setCell ⟨b', 0, none⟩ u).setCell ⟨b', 1, none⟩ v).setCell ⟨b', 2, none⟩ t).cell? ⟨b, 2, none⟩ = some z) ∧ (((w.setCell ⟨b', 0, none⟩ u).setCell ⟨b', 1, none⟩ v).setCell ⟨b', 2, none⟩ t).cell? ⟨b2, o2, none⟩ = some q := by
  refine ⟨box_set3 hne h.1, ?_⟩
  rw [World.cell?_setCell_far _ _ _ _ (Ne.symm hne2), World.cell?_setCell_far _ _ _ _ (Ne.symm hne2), World.cell?_setCell_far _ _ _ _ (Ne.symm hne2)]
  exact h.2
theorem c_blockF (n : Int) (m : UInt8) (hm : n = (m.toNat : Int)) (w : World) (bs : List UInt8) (hbs : List.replicate 64 m = bs) :
    Calls Try.prog 31 #[.int .u8 n] w fun e w' => (∃ A c, e = .returned (.slice A bs.length c) ∧ RBF (w.heap.size ≤ ·) w' A bs ∧ bs.length ≤ c ∧ bs.length ≤ 140737488351232) ∧ Below w.heap.size w w' := by
  subst hm hbs
  refine (block_any m w).mono ?_
  rintro e w' ⟨⟨v, rfl, hv⟩, hb⟩
  obtain ⟨A, c, rfl, h1, h2, h3⟩ := hv
  exact ⟨⟨A, c, rfl, h3, h1, h2⟩, hb⟩
theorem rbf_set3 {φ : Nat → Prop} {w : World} {A : Option Addr} {bs : List UInt8} (h : RBF φ w A bs) {b : Nat} (hb : ¬ φ b) (x y z : Value) :
    RBF φ (((w.setCell ⟨b, 0, none⟩ x).setCell ⟨b, 1, none⟩ y).setCell ⟨b, 2, none⟩ z) A bs := h.kept ((((Kept.refl _ w).set hb x).set hb y).set hb z)
/-- The writes of the law, after j rounds; the block that is wanted. -/
def PJ (L : List UInt8) (I : Int) (j : Nat) : List PutD := (L.take j).map fun m => (I, List.replicate 64 m)
def wantTo (L : List UInt8) (K : List Bool) : Nat → List UInt8
  | 0 => zero64
  | j + 1 => if K.getD j false then List.replicate 64 (L.getD j 0) else wantTo L K j
theorem PJ_succ {L : List UInt8} {I : Int} {j : Nat} (h : j < L.length) : PJ L I (j + 1) = PJ L I j ++ [(I, List.replicate 64 L[j])] := by
  unfold PJ; rw [List.take_succ_eq_append_getElem h, List.map_append]; rfl
theorem PJ_len {L : List UInt8} {I : Int} {j : Nat} (h : j ≤ L.length) : (PJ L I j).length = j := by simp [PJ, h]
theorem PJ_get {L : List UInt8} {I : Int} {n j : Nat} (hj : j < n) (hn : n ≤ L.length) : (PJ L I n).getD j (0, []) = (I, List.replicate 64 (L.getD j 0)) := by
  have hl : j < L.length := Nat.lt_of_lt_of_le hj hn
  simp [PJ, List.getD, hj, hl]
theorem PJ_ok {L : List UInt8} {I : Int} {nb n : Nat} (h0 : 0 ≤ I) (h1 : I < nb) : okP nb (PJ L I n) := by
  intro k hk
  obtain ⟨m, _, e⟩ := List.mem_map.1 (List.getElem_mem hk)
  rw [← e]; exact ⟨h0, h1⟩
theorem want_lay {L : List UInt8} {K : List Bool} {B : List (List UInt8)} {I : Int} {n : Nat} (hn : n ≤ L.length) (h0 : 0 ≤ I) (h1 : I < B.length) (hB : B.getD I.toNat [] = zero64) : ∀ k, k ≤ n → (layTo B (PJ L I n) (keepF K) k).getD I.toNat [] = wantTo L K k
  | 0, _ => hB
  | k + 1, h => by
    have ih := want_lay (K := K) hn h0 h1 hB k (Nat.le_of_lt h)
    have hl := layTo_length B (PJ L I n) (keepF K) k
    rw [layTo, wantTo, PJ_get h hn]
    unfold keepF at ih hl ⊢
    by_cases hk : K.getD k false = true
    · rw [if_pos hk, if_pos hk]
      have : I.toNat < (layTo B (PJ L I n) (fun i => K.getD i false) k).length := by omega
      generalize List.replicate 64 (L.getD k 0) = q
      generalize layTo B (PJ L I n) (fun i => K.getD i false) k = X at this
      simp [List.getD, this]
    · rw [if_neg hk, if_neg hk]; exact ih

set_option maxRecDepth 20000 in
set_option maxHeartbeats 4000000 in
theorem last_any (n at_ : Int) (A : Option Addr) (c : Nat) (AK : Option Addr) (cK : Nat) (w : World) (L : List UInt8) (K : List Bool)
    (hR : OkB w A c L) (hK : RL w AK K) (hn : 0 ≤ n) (hn' : n ≤ 255) (ho : 0 ≤ at_) (ho' : at_ ≤ 255) :
    Calls Try.prog 8 #[.agg #[.int .u8 n, .int .u8 at_, .slice A L.length c, .slice AK K.length cK]] w fun e w' => e = .returned (.bool true) ∧ Below w.heap.size w w' := by
  have g0 := bl_alloc (Below.refl _ w) (.cells #[.int .u8 n, .int .u8 at_, .slice A L.length c, .slice AK K.length cK] 63)
  have g := Lib.hid g0
  clear g0
  have HR := Lib.hid hR
  have HK := Lib.hid hK
  clear hR hK
  have h3 : (20 : Int) < L.length ∨ ((L.length : Int) ≤ 20 ∧ (40 : Int) < K.length) ∨ ((L.length : Int) ≤ 20 ∧ (K.length : Int) ≤ 40) := by omega
  go_enter Try.func8, Try.ntmps8
  go_upto_region 6 with (go_at_call 10; refine (shown_any _).mono ?_; rintro e w1 ⟨rfl, hb⟩; replace g := Lib.hid (bl_then g.out hb); clear hb)
  rcases h3 with h3 | ⟨h3, h4⟩ | ⟨h3, h4⟩
  · go_wp2_with fail
    go_ret
    exact ⟨rfl, g.out⟩
  · go_wp2_with fail
    go_ret
    exact ⟨rfl, g.out⟩
  · obtain ⟨k, hk⟩ : ∃ x, n.tmod 20 = x := ⟨_, rfl⟩
    have hk2 : n % 20 = k := by rw [← hk, Int.tmod_eq_emod_of_nonneg hn]
    have hk0 : 0 ≤ k := by omega
    have hk1 : k < 20 := by omega
    have hN0 : (1 + k) ≠ 0 := by omega
    obtain ⟨I, hI⟩ : ∃ x, at_.tmod (1 + k) = x := ⟨_, rfl⟩
    have hI0 : 0 ≤ I := by rw [← hI]; exact Int.tmod_nonneg _ ho
    have hI1 : I < 1 + k := by rw [← hI]; exact Int.tmod_lt_of_pos _ (by omega)
    have hI2 : at_ % (1 + k) = I := by rw [← hI, Int.tmod_eq_emod_of_nonneg ho]
    obtain ⟨B, hB⟩ : ∃ x, newB (1 + k) = x := ⟨_, rfl⟩
    obtain ⟨P0, hP0⟩ : ∃ x : List PutD, x = [] := ⟨_, rfl⟩
    obtain ⟨zb, hzb⟩ : ∃ x : List UInt8, zero64 = x := ⟨_, rfl⟩
    have hBv : B = List.replicate (1 + k).toNat zero64 := by rw [← hB]; exact if_pos ⟨by omega, by omega⟩
    have hBl : (B.length : Int) = 1 + k := by rw [hBv]; simp; omega
    have hE := Lib.hid (show newE (1 + k) = 0 from if_pos ⟨by omega, by omega⟩)
    have hF := Lib.hid (show newF (1 + k) = -1 from if_pos ⟨by omega, by omega⟩)
    have b0 := Lib.hid (show 0 < B.length by omega)
    have b1 := Lib.hid (show B.length ≤ 4096 by omega)
    have hin := Lib.hid (show (0 : Int) ≤ I ∧ I < B.length by omega)
    have hBz := Lib.hid (show B.getD I.toNat [] = zero64 by rw [hBv]; have : I.toNat < (1 + k).toNat := by omega
                                                            simp [List.getD, this])
    have hz0 := Lib.hid (show List.replicate 64 0 = zb from hzb)
    replace hB := Lib.hid hB
    replace hP0 := Lib.hid hP0
    replace hzb := Lib.hid hzb
    clear hBv hBl
    go_upto_region 9 with (go_at_call 12; refine (c_new (1 + k) _ (by omega) (by omega) 0 B P0 (-1) hE.out hB.out hP0.out hF.out).mono ?_; rintro e w8 ⟨⟨AB, cb, AP, cp, rfl, d8⟩, hb8⟩; replace g := Lib.hid (bl_then g.out hb8); clear hb8)
    have g8 := Lib.hid g.out.size
    have ha := bl_alloc (Below.refl _ w8) (.cells #[.slice AB B.length cb, .slice AP P0.length cp, .int .i64 (-1)] 25)
    have c8 := box_new (Below.refl _ (w8.alloc (.cells #[.slice AB B.length cb, .slice AP P0.length cp, .int .i64 (-1)] 25)))
    replace d8 := d8.ext ha
    replace g := Lib.hid (bl_then g.out ha)
    clear ha
    go_upto_region 11 with (go_at_call 31; refine (c_block 0 0 rfl _ zb hz0.out).mono ?_; rintro e w11 ⟨⟨Az, cz, rfl, rz⟩, hb11⟩; replace c8 := box_ext hb11 c8; replace d8 := d8.ext hb11; replace g := Lib.hid (bl_then g.out hb11); clear hb11)
    have hne := Lib.hid (blk_lt c8.1)
    have dF0 := (OkD.okF d8).mono (ψ := fun b => b ≠ w11.heap.size) (fun b hb => Nat.ne_of_lt hb)
    have dF := Lib.hid (dF0.ext (bl_alloc (Below.refl _ w11) (.cells #[.slice AB B.length cb, .slice AP P0.length cp, .int .i64 (-1)] 25)))
    clear dF0
    have rz0 := Lib.hid (rz.1.low.mono (ψ := fun b => b ≠ w11.heap.size) (fun b hb => Nat.ne_of_lt hb.2))
    have rz1 := Lib.hid (rz0.out.kept (Kept.below _ (bl_alloc (Below.refl _ w11) (.cells #[.slice AB B.length cb, .slice AP P0.length cp, .int .i64 (-1)] 25))))
    have rzl := Lib.hid rz.2
    clear rz rz0
    have sx0 := Lib.hid (show w11.heap.size < (w11.alloc (.cells #[.slice AB B.length cb, .slice AP P0.length cp, .int .i64 (-1)] 25)).heap.size by simp)
    have fz0 := (box1 (Below.refl _ (w11.alloc (.cells #[.slice AB B.length cb, .slice AP P0.length cp, .int .i64 (-1)] 25)))).2.1
    go_upto_region 13 with fail
    have ha := bl_alloc (Below.refl _ w11) (.cells #[.slice AB B.length cb, .slice AP P0.length cp, .int .i64 (-1)] 25)
    have cx := box_new (Below.refl _ (w11.alloc (.cells #[.slice AB B.length cb, .slice AP P0.length cp, .int .i64 (-1)] 25)))
    replace c8 := box_ext ha c8
    replace d8 := d8.ext ha
    replace g := Lib.hid (bl_then g.out ha)
    clear ha
    go_loopw [11, 13, 14, 15] (fun v i _ _ wr => ∃ j : Nat, j ≤ L.length ∧ i = .int .i64 j ∧ (∃ Aw cw vw, v = .slice Aw (List.length vw) cw ∧ Hid (RBF (fun b => b ≠ w11.heap.size) wr Aw vw ∧ vw.length ≤ cw ∧ vw.length ≤ 140737488351232) ∧ Hid (vw = wantTo L K j)) ∧ ∃ ABx cbx APx cpx Px, (wr.cell? ⟨w11.heap.size, 0, none⟩ = some (.slice ABx B.length cbx) ∧ wr.cell? ⟨w11.heap.size, 1, none⟩ = some (.slice APx Px.length cpx) ∧ wr.cell? ⟨w11.heap.size, 2, none⟩ = some (.int .i64 (-1))) ∧ Hid (OkF (fun b => b ≠ w11.heap.size) wr ABx APx cpx B Px) ∧ Hid (Px = PJ L I j) ∧ (wr.cell? ⟨w8.heap.size, 0, none⟩ = some (.slice AB B.length cb) ∧ wr.cell? ⟨w8.heap.size, 1, none⟩ = some (.slice AP P0.length cp) ∧ wr.cell? ⟨w8.heap.size, 2, none⟩ = some (.int .i64 (-1))) ∧ Hid (OkF (fun b => b ≠ w11.heap.size) wr AB AP cp B P0) ∧ (∀ o, wr.frozen? ⟨w11.heap.size, o, none⟩ = false) ∧ Hid (w11.heap.size < wr.heap.size) ∧ Hid (Below w.heap.size w wr)) (fun _ i _ _ _ => 30 - (intOf i).toNat)
    case atStart => exact ⟨0, Nat.zero_le _, rfl, ⟨Az, cz, zb, rfl, ⟨rz1.out, rzl.out⟩, hzb.out.symm⟩, AB, cb, AP, cp, P0, cx, dF, (by show _ = _; rw [hP0.out]; rfl), c8, dF, fz0, sx0, g⟩
    case round =>
      clear g dF c8 cx d8 fz0 sx0 rz1 rzl
      obtain ⟨j, hj, rfl, ⟨Aw, cw, vw, rfl, hvw, hwt⟩, ABx, cbx, APx, cpx, Px, bxc, ox, hPx, c8, dF, fz, hsz, g⟩ := hrel
      have p1 := Lib.hid (show Px.length ≤ 1000000 by rw [hPx.out, PJ_len hj]; omega)
      have okx := Lib.hid (show okP B.length Px by rw [hPx.out]; exact PJ_ok hin.out.1 hin.out.2)
      have hvl := Lib.hid hvw.out.2
      by_cases hlt : j < L.length
      · obtain ⟨bl, ol, hAl, hlc⟩ : ∃ bl ol, A = some ⟨bl, ol, none⟩ ∧ w.cell? ⟨bl, ol + j, none⟩ = some (.int .u8 (L[j].toNat : Int)) := by
          rcases HR.out.1 with h | ⟨bl, ol, _, e1, e2⟩
          · rw [h] at hlt; simp at hlt
          · exact ⟨bl, ol, e1, e2 j hlt⟩
        subst hAl
        have hcl := cell_ext g.out hlc
        have hlb := Lib.hid (show bl < w11.heap.size from Nat.lt_trans (Nat.lt_of_lt_of_le (blk_lt hlc) g8.out) hne.out)
        obtain ⟨m8, hm8⟩ : ∃ x, L[j] = x := ⟨_, rfl⟩
        rw [hm8] at hcl
        obtain ⟨bN, hbN⟩ : ∃ x, List.replicate 64 m8 = x := ⟨_, rfl⟩
        obtain ⟨P1, hP1⟩ : ∃ x, writeP Px 0 I bN = x := ⟨_, rfl⟩
        have hbl : bN.length = 64 := by rw [← hbN]; simp
        have hPn := Lib.hid (show P1 = PJ L I (j + 1) by rw [PJ_succ hlt, ← hP1, hPx.out, hm8, hbN]; rfl)
        have hE1 := Lib.hid (show writeE B (-1) I bN = 0 by unfold writeE; rw [if_pos hin.out, if_pos hbl, if_neg (by omega)])
        have hF1 := Lib.hid (show writeF (-1) 0 = -1 from rfl)
        have hgd : L.getD j 0 = m8 := by simp [hlt, hm8]
        have hw2 := Lib.hid (show wantTo L K (j + 1) = if K.getD j false then bN else vw by rw [wantTo, hgd, hbN, hwt.out])
        have hsz' := hsz.out
        have hj0 : (0 : Int) ≤ (j : Int) := Int.natCast_nonneg _
        have hj9 : (j : Int) < L.length := by omega
        have bxl := And.intro bxc hcl
        clear hlc hbl hgd
        replace hm8 := Lib.hid hm8
        replace hbN := Lib.hid hbN
        replace hP1 := Lib.hid hP1
        have h5 : (∃ h : j < K.length, K[j] = true) ∨ (∃ h : j < K.length, K[j] = false) ∨ K.length ≤ j := by
          by_cases h : j < K.length
          · cases e : K[j]
            · exact .inr (.inl ⟨h, e⟩)
            · exact .inl ⟨h, e⟩
          · exact .inr (.inr (by omega))
        rcases h5 with ⟨hk5, hk6⟩ | ⟨hk5, hk6⟩ | hk5
        · have hw1 := Lib.hid (show bN = wantTo L K (j + 1) by rw [hw2.out, if_pos (by simp [hk5, hk6])])
          obtain ⟨bk, ok', rfl, hkc0⟩ : ∃ bk ok', AK = some ⟨bk, ok', none⟩ ∧ w.cell? ⟨bk, ok' + j, none⟩ = some (.bool K[j]) := by
            rcases HK.out with h | ⟨bk, ok', e1, e2⟩
            · rw [h] at hk5; simp at hk5
            · exact ⟨bk, ok', e1, e2 j hk5⟩
          have hkc := cell_ext g.out hkc0
          rw [hk6] at hkc
          clear hkc0
          clear hk6
          go_upto_region 15 with fail
          go_cut [14, 15] from 53 to 87 (fun sx se wx => ∃ bn ABn cbn APn cpn, sx = .pointer (some ⟨bn, 0, none⟩) ∧ se = .int .i64 0 ∧ wr.heap.size ≤ bn ∧ (wx.cell? ⟨bn, 0, none⟩ = some (.slice ABn B.length cbn) ∧ wx.cell? ⟨bn, 1, none⟩ = some (.slice APn P1.length cpn) ∧ wx.cell? ⟨bn, 2, none⟩ = some (.int .i64 (-1))) ∧ OkF (fun b => b ≠ w11.heap.size) wx ABn APn cpn B P1 ∧ Below wr.heap.size wr wx)
          case first =>
            go_region_held3 (fun W' => (W'.cell? ⟨w11.heap.size, 0, none⟩ = some (.slice ABx B.length cbx) ∧ W'.cell? ⟨w11.heap.size, 1, none⟩ = some (.slice APx Px.length cpx) ∧ W'.cell? ⟨w11.heap.size, 2, none⟩ = some (.int .i64 (-1))) ∧ W'.cell? ⟨bl, ol + j, none⟩ = some (.int .u8 (m8.toNat : Int)))
              (with_reducible (first | exact pair_ext (bl_drew (Below.refl _ _)) bxl | exact pair_ext (bl_drew (bl_alloc (Below.refl _ wr) _)) bxl | (refine pair_ext hbc ?_; assumption) | (refine pair_ext hbb ?_; assumption) | (refine pair_ext (bl_alloc (Below.refl _ _) _) ?_; assumption) | (refine pair_swap (o := .cells #[.slice none 0 0, .slice none 0 0, .int .i64 0] 25) hbc' (Nat.lt_trans hlb.out hbc') ?_; assumption) | (refine pair_set3 (b' := wb.heap.size) hnb (Nat.ne_of_lt (Nat.lt_of_lt_of_le (Nat.lt_trans hlb.out hsz.out) hsw)) ?_; assumption) | (refine pair_set3 (b' := wr.heap.size) (Nat.ne_of_lt hsz.out) (Nat.ne_of_lt (Nat.lt_trans hlb.out hsz.out)) ?_; assumption)))
              (first
                | (go_at_call 31; refine (c_block _ m8 rfl _ bN hbN.out).mono ?_; rintro e wb ⟨⟨Ab, ccb, rfl, hbk⟩, hbb⟩; have hsw : wr.heap.size ≤ wb.heap.size := (by have := hbb.size; (try simp at this); omega); have hnb : w11.heap.size ≠ wb.heap.size := (by omega); have hbW : Below wr.heap.size wr wb := (by with_reducible (first | exact bl_then (bl_drew (Below.refl _ wr)) hbb | exact bl_then (bl_drew (bl_alloc (Below.refl _ wr) _)) hbb)); (try (have hq := (by with_reducible exact box1d hbb); obtain ⟨ca, fa, la⟩ := hq)))
                | (go_at_call 23; refine (c_writeF (fun b => b ≠ w11.heap.size ∧ b < wr.heap.size) ABx cbx APx cpx (-1) I Ab ccb bN _ B Px ?_ p1.out ?_ (by omega) (by omega) 0 P1 (-1) hE1.out hP1.out hF1.out).mono ?_; (with_reducible (first | exact okF_of ox.out hbW | exact okF_of ox.out (bl_alloc hbW _))); (with_reducible (first | exact hbk | exact hbk.ext (bl_alloc (Below.refl _ _) _))); rintro e wc ⟨⟨ABn, cbn, APn, cpn, rfl, hdn⟩, hbc⟩; have hbc' : w11.heap.size < wc.heap.size := (by have := hbc.size; (try simp at this); omega); (first | (have hq := (by with_reducible exact box1 hbc); obtain ⟨can, fan, lan⟩ := hq) | (have can := fun o => (hbc.cell (p := ⟨wr.heap.size, o, none⟩) la).trans (ca o); have fan := fun o => (hbc.frozen (p := ⟨wr.heap.size, o, none⟩) la).trans (fa o)) | skip))
                | fail)
            all_goals (go_wp2_with fail; go_meet)
            · exact ⟨wc.heap.size, ABn, cbn, APn, cpn, rfl, rfl, by have := hbc.size; omega, box_new (Below.refl _ _), (hdn.mono (fun b hb => by rcases hb with hb | hb <;> omega)).ext (bl_alloc (Below.refl _ _) _), bl_alloc (bl_then hbW hbc) _⟩
            · exact ⟨wb.heap.size, ABn, cbn, APn, cpn, rfl, rfl, hsw, set_cell3 wc _ _ _ _ ⟨can 0, can 1, can 2⟩, (hdn.set3 (by simp; omega) _ _ _).mono (fun b hb => by rcases hb with hb | hb; exact hb.1; simp at hb; omega), bl_set (bl_set (bl_set (bl_then (bl_alloc hbW _) hbc) hsw _) hsw _) hsw _⟩
            · exact ⟨wr.heap.size, ABn, cbn, APn, cpn, rfl, rfl, Nat.le_refl _, set_cell3 wc _ _ _ _ ⟨can 0, can 1, can 2⟩, (hdn.set3 (by omega) _ _ _).mono (fun b hb => by rcases hb with hb | hb <;> omega), bl_set (bl_set (bl_set (bl_then hbW hbc) (Nat.le_refl _) _) (Nat.le_refl _) _) (Nat.le_refl _) _⟩
          case rest =>
            obtain ⟨bn, ABn, cbn, APn, cpn, rfl, rfl, hbn, cn, dn, gw⟩ := hcut
            replace c8 := box_ext gw c8
            replace bxc := box_ext gw bxc
            replace hcl := cell_ext gw hcl
            replace dF := Lib.hid (dF.out.ext gw)
            replace hvw := Lib.hid (hvw.out.1.kept (Kept.below _ gw))
            have fz' : ∀ o, wc.frozen? ⟨w11.heap.size, o, none⟩ = false := fun o => (gw.frozen (p := ⟨w11.heap.size, o, none⟩) hsz.out).trans (fz o)
            replace hsz := Lib.hid (Nat.lt_of_lt_of_le hsz.out gw.size)
            replace g := Lib.hid (bl_then g.out gw)
            replace hkc := cell_ext gw hkc
            clear gw fz bxl
            go_wp2_with (go_at_call 31; refine (c_blockF _ m8 rfl _ bN hbN.out).mono ?_; rintro e wd ⟨⟨Ad, cd, rfl, rd⟩, hbd⟩; replace c8 := box_ext hbd c8; replace bxc := box_ext hbd bxc; replace cn := box_ext hbd cn; replace dn := dn.ext hbd; replace dF := Lib.hid (dF.out.ext hbd); replace fz' := fun o => (hbd.frozen (p := ⟨w11.heap.size, o, none⟩) hsz.out).trans (fz' o); have hszd := Lib.hid hsz.out; replace hsz := Lib.hid (Nat.lt_of_lt_of_le hsz.out hbd.size); replace g := Lib.hid (bl_then g.out hbd); clear hbd)
            go_roundw
            case rel =>
              have hne' : w8.heap.size ≠ w11.heap.size := Nat.ne_of_lt hne.out
              have hle : w.heap.size ≤ w11.heap.size := Nat.le_of_lt (Nat.lt_of_le_of_lt g8.out hne.out)
              exact ⟨j + 1, by omega, by go_num, ⟨Ad, cd, bN, rfl, ⟨rbf_set3 (rd.1.mono (fun b hb => Nat.ne_of_gt (Nat.lt_of_lt_of_le hszd.out hb))) (fun h => h rfl) _ _ _, rd.2⟩, hw1.out⟩, ABn, cbn, APn, cpn, P1, set_cell3 _ _ _ _ _ bxc, dn.set3 (fun h => h rfl) _ _ _, hPn.out, box_set3 hne' c8, dF.out.set3 (fun h => h rfl) _ _ _, by intro o; simp [World.frozen?_setCell, fz' o], by have := hsz.out; simp; omega, bl_set (bl_set (bl_set g.out hle _) hle _) hle _⟩
            case measure => simp [intOf]; omega
        · have hw1 := Lib.hid (show vw = wantTo L K (j + 1) by rw [hw2.out, if_neg (by simp [hk5, hk6])])
          obtain ⟨bk, ok', rfl, hkc0⟩ : ∃ bk ok', AK = some ⟨bk, ok', none⟩ ∧ w.cell? ⟨bk, ok' + j, none⟩ = some (.bool K[j]) := by
            rcases HK.out with h | ⟨bk, ok', e1, e2⟩
            · rw [h] at hk5; simp at hk5
            · exact ⟨bk, ok', e1, e2 j hk5⟩
          have hkc := cell_ext g.out hkc0
          rw [hk6] at hkc
          clear hkc0
          clear hk6
          go_upto_region 15 with fail
          go_cut [14, 15] from 53 to 87 (fun sx se wx => ∃ bn ABn cbn APn cpn, sx = .pointer (some ⟨bn, 0, none⟩) ∧ se = .int .i64 0 ∧ wr.heap.size ≤ bn ∧ (wx.cell? ⟨bn, 0, none⟩ = some (.slice ABn B.length cbn) ∧ wx.cell? ⟨bn, 1, none⟩ = some (.slice APn P1.length cpn) ∧ wx.cell? ⟨bn, 2, none⟩ = some (.int .i64 (-1))) ∧ OkF (fun b => b ≠ w11.heap.size) wx ABn APn cpn B P1 ∧ Below wr.heap.size wr wx)
          case first =>
            go_region_held3 (fun W' => (W'.cell? ⟨w11.heap.size, 0, none⟩ = some (.slice ABx B.length cbx) ∧ W'.cell? ⟨w11.heap.size, 1, none⟩ = some (.slice APx Px.length cpx) ∧ W'.cell? ⟨w11.heap.size, 2, none⟩ = some (.int .i64 (-1))) ∧ W'.cell? ⟨bl, ol + j, none⟩ = some (.int .u8 (m8.toNat : Int)))
              (with_reducible (first | exact pair_ext (bl_drew (Below.refl _ _)) bxl | exact pair_ext (bl_drew (bl_alloc (Below.refl _ wr) _)) bxl | (refine pair_ext hbc ?_; assumption) | (refine pair_ext hbb ?_; assumption) | (refine pair_ext (bl_alloc (Below.refl _ _) _) ?_; assumption) | (refine pair_swap (o := .cells #[.slice none 0 0, .slice none 0 0, .int .i64 0] 25) hbc' (Nat.lt_trans hlb.out hbc') ?_; assumption) | (refine pair_set3 (b' := wb.heap.size) hnb (Nat.ne_of_lt (Nat.lt_of_lt_of_le (Nat.lt_trans hlb.out hsz.out) hsw)) ?_; assumption) | (refine pair_set3 (b' := wr.heap.size) (Nat.ne_of_lt hsz.out) (Nat.ne_of_lt (Nat.lt_trans hlb.out hsz.out)) ?_; assumption)))
              (first
                | (go_at_call 31; refine (c_block _ m8 rfl _ bN hbN.out).mono ?_; rintro e wb ⟨⟨Ab, ccb, rfl, hbk⟩, hbb⟩; have hsw : wr.heap.size ≤ wb.heap.size := (by have := hbb.size; (try simp at this); omega); have hnb : w11.heap.size ≠ wb.heap.size := (by omega); have hbW : Below wr.heap.size wr wb := (by with_reducible (first | exact bl_then (bl_drew (Below.refl _ wr)) hbb | exact bl_then (bl_drew (bl_alloc (Below.refl _ wr) _)) hbb)); (try (have hq := (by with_reducible exact box1d hbb); obtain ⟨ca, fa, la⟩ := hq)))
                | (go_at_call 23; refine (c_writeF (fun b => b ≠ w11.heap.size ∧ b < wr.heap.size) ABx cbx APx cpx (-1) I Ab ccb bN _ B Px ?_ p1.out ?_ (by omega) (by omega) 0 P1 (-1) hE1.out hP1.out hF1.out).mono ?_; (with_reducible (first | exact okF_of ox.out hbW | exact okF_of ox.out (bl_alloc hbW _))); (with_reducible (first | exact hbk | exact hbk.ext (bl_alloc (Below.refl _ _) _))); rintro e wc ⟨⟨ABn, cbn, APn, cpn, rfl, hdn⟩, hbc⟩; have hbc' : w11.heap.size < wc.heap.size := (by have := hbc.size; (try simp at this); omega); (first | (have hq := (by with_reducible exact box1 hbc); obtain ⟨can, fan, lan⟩ := hq) | (have can := fun o => (hbc.cell (p := ⟨wr.heap.size, o, none⟩) la).trans (ca o); have fan := fun o => (hbc.frozen (p := ⟨wr.heap.size, o, none⟩) la).trans (fa o)) | skip))
                | fail)
            all_goals (go_wp2_with fail; go_meet)
            · exact ⟨wc.heap.size, ABn, cbn, APn, cpn, rfl, rfl, by have := hbc.size; omega, box_new (Below.refl _ _), (hdn.mono (fun b hb => by rcases hb with hb | hb <;> omega)).ext (bl_alloc (Below.refl _ _) _), bl_alloc (bl_then hbW hbc) _⟩
            · exact ⟨wb.heap.size, ABn, cbn, APn, cpn, rfl, rfl, hsw, set_cell3 wc _ _ _ _ ⟨can 0, can 1, can 2⟩, (hdn.set3 (by simp; omega) _ _ _).mono (fun b hb => by rcases hb with hb | hb; exact hb.1; simp at hb; omega), bl_set (bl_set (bl_set (bl_then (bl_alloc hbW _) hbc) hsw _) hsw _) hsw _⟩
            · exact ⟨wr.heap.size, ABn, cbn, APn, cpn, rfl, rfl, Nat.le_refl _, set_cell3 wc _ _ _ _ ⟨can 0, can 1, can 2⟩, (hdn.set3 (by omega) _ _ _).mono (fun b hb => by rcases hb with hb | hb <;> omega), bl_set (bl_set (bl_set (bl_then hbW hbc) (Nat.le_refl _) _) (Nat.le_refl _) _) (Nat.le_refl _) _⟩
          case rest =>
            obtain ⟨bn, ABn, cbn, APn, cpn, rfl, rfl, hbn, cn, dn, gw⟩ := hcut
            replace c8 := box_ext gw c8
            replace bxc := box_ext gw bxc
            replace hcl := cell_ext gw hcl
            replace dF := Lib.hid (dF.out.ext gw)
            replace hvw := Lib.hid (hvw.out.1.kept (Kept.below _ gw))
            have fz' : ∀ o, wc.frozen? ⟨w11.heap.size, o, none⟩ = false := fun o => (gw.frozen (p := ⟨w11.heap.size, o, none⟩) hsz.out).trans (fz o)
            replace hsz := Lib.hid (Nat.lt_of_lt_of_le hsz.out gw.size)
            replace g := Lib.hid (bl_then g.out gw)
            replace hkc := cell_ext gw hkc
            clear gw fz bxl
            go_wp2_with fail
            go_roundw
            case rel =>
              have hne' : w8.heap.size ≠ w11.heap.size := Nat.ne_of_lt hne.out
              have hle : w.heap.size ≤ w11.heap.size := Nat.le_of_lt (Nat.lt_of_le_of_lt g8.out hne.out)
              exact ⟨j + 1, by omega, by go_num, ⟨Aw, cw, vw, rfl, ⟨rbf_set3 hvw.out (fun h => h rfl) _ _ _, hvl.out⟩, hw1.out⟩, ABn, cbn, APn, cpn, P1, set_cell3 _ _ _ _ _ bxc, dn.set3 (fun h => h rfl) _ _ _, hPn.out, box_set3 hne' c8, dF.out.set3 (fun h => h rfl) _ _ _, by intro o; simp [World.frozen?_setCell, fz' o], by have := hsz.out; simp; omega, bl_set (bl_set (bl_set g.out hle _) hle _) hle _⟩
            case measure => simp [intOf]; omega
        · have hw1 := Lib.hid (show vw = wantTo L K (j + 1) by rw [hw2.out, if_neg (by simp [List.getD, List.getElem?_eq_none hk5])])
          go_upto_region 15 with fail
          go_cut [14, 15] from 53 to 87 (fun sx se wx => ∃ bn ABn cbn APn cpn, sx = .pointer (some ⟨bn, 0, none⟩) ∧ se = .int .i64 0 ∧ wr.heap.size ≤ bn ∧ (wx.cell? ⟨bn, 0, none⟩ = some (.slice ABn B.length cbn) ∧ wx.cell? ⟨bn, 1, none⟩ = some (.slice APn P1.length cpn) ∧ wx.cell? ⟨bn, 2, none⟩ = some (.int .i64 (-1))) ∧ OkF (fun b => b ≠ w11.heap.size) wx ABn APn cpn B P1 ∧ Below wr.heap.size wr wx)
          case first =>
            go_region_held3 (fun W' => (W'.cell? ⟨w11.heap.size, 0, none⟩ = some (.slice ABx B.length cbx) ∧ W'.cell? ⟨w11.heap.size, 1, none⟩ = some (.slice APx Px.length cpx) ∧ W'.cell? ⟨w11.heap.size, 2, none⟩ = some (.int .i64 (-1))) ∧ W'.cell? ⟨bl, ol + j, none⟩ = some (.int .u8 (m8.toNat : Int)))
              (with_reducible (first | exact pair_ext (bl_drew (Below.refl _ _)) bxl | exact pair_ext (bl_drew (bl_alloc (Below.refl _ wr) _)) bxl | (refine pair_ext hbc ?_; assumption) | (refine pair_ext hbb ?_; assumption) | (refine pair_ext (bl_alloc (Below.refl _ _) _) ?_; assumption) | (refine pair_swap (o := .cells #[.slice none 0 0, .slice none 0 0, .int .i64 0] 25) hbc' (Nat.lt_trans hlb.out hbc') ?_; assumption) | (refine pair_set3 (b' := wb.heap.size) hnb (Nat.ne_of_lt (Nat.lt_of_lt_of_le (Nat.lt_trans hlb.out hsz.out) hsw)) ?_; assumption) | (refine pair_set3 (b' := wr.heap.size) (Nat.ne_of_lt hsz.out) (Nat.ne_of_lt (Nat.lt_trans hlb.out hsz.out)) ?_; assumption)))
              (first
                | (go_at_call 31; refine (c_block _ m8 rfl _ bN hbN.out).mono ?_; rintro e wb ⟨⟨Ab, ccb, rfl, hbk⟩, hbb⟩; have hsw : wr.heap.size ≤ wb.heap.size := (by have := hbb.size; (try simp at this); omega); have hnb : w11.heap.size ≠ wb.heap.size := (by omega); have hbW : Below wr.heap.size wr wb := (by with_reducible (first | exact bl_then (bl_drew (Below.refl _ wr)) hbb | exact bl_then (bl_drew (bl_alloc (Below.refl _ wr) _)) hbb)); (try (have hq := (by with_reducible exact box1d hbb); obtain ⟨ca, fa, la⟩ := hq)))
                | (go_at_call 23; refine (c_writeF (fun b => b ≠ w11.heap.size ∧ b < wr.heap.size) ABx cbx APx cpx (-1) I Ab ccb bN _ B Px ?_ p1.out ?_ (by omega) (by omega) 0 P1 (-1) hE1.out hP1.out hF1.out).mono ?_; (with_reducible (first | exact okF_of ox.out hbW | exact okF_of ox.out (bl_alloc hbW _))); (with_reducible (first | exact hbk | exact hbk.ext (bl_alloc (Below.refl _ _) _))); rintro e wc ⟨⟨ABn, cbn, APn, cpn, rfl, hdn⟩, hbc⟩; have hbc' : w11.heap.size < wc.heap.size := (by have := hbc.size; (try simp at this); omega); (first | (have hq := (by with_reducible exact box1 hbc); obtain ⟨can, fan, lan⟩ := hq) | (have can := fun o => (hbc.cell (p := ⟨wr.heap.size, o, none⟩) la).trans (ca o); have fan := fun o => (hbc.frozen (p := ⟨wr.heap.size, o, none⟩) la).trans (fa o)) | skip))
                | fail)
            all_goals (go_wp2_with fail; go_meet)
            · exact ⟨wc.heap.size, ABn, cbn, APn, cpn, rfl, rfl, by have := hbc.size; omega, box_new (Below.refl _ _), (hdn.mono (fun b hb => by rcases hb with hb | hb <;> omega)).ext (bl_alloc (Below.refl _ _) _), bl_alloc (bl_then hbW hbc) _⟩
            · exact ⟨wb.heap.size, ABn, cbn, APn, cpn, rfl, rfl, hsw, set_cell3 wc _ _ _ _ ⟨can 0, can 1, can 2⟩, (hdn.set3 (by simp; omega) _ _ _).mono (fun b hb => by rcases hb with hb | hb; exact hb.1; simp at hb; omega), bl_set (bl_set (bl_set (bl_then (bl_alloc hbW _) hbc) hsw _) hsw _) hsw _⟩
            · exact ⟨wr.heap.size, ABn, cbn, APn, cpn, rfl, rfl, Nat.le_refl _, set_cell3 wc _ _ _ _ ⟨can 0, can 1, can 2⟩, (hdn.set3 (by omega) _ _ _).mono (fun b hb => by rcases hb with hb | hb <;> omega), bl_set (bl_set (bl_set (bl_then hbW hbc) (Nat.le_refl _) _) (Nat.le_refl _) _) (Nat.le_refl _) _⟩
          case rest =>
            obtain ⟨bn, ABn, cbn, APn, cpn, rfl, rfl, hbn, cn, dn, gw⟩ := hcut
            replace c8 := box_ext gw c8
            replace bxc := box_ext gw bxc
            replace hcl := cell_ext gw hcl
            replace dF := Lib.hid (dF.out.ext gw)
            replace hvw := Lib.hid (hvw.out.1.kept (Kept.below _ gw))
            have fz' : ∀ o, wc.frozen? ⟨w11.heap.size, o, none⟩ = false := fun o => (gw.frozen (p := ⟨w11.heap.size, o, none⟩) hsz.out).trans (fz o)
            replace hsz := Lib.hid (Nat.lt_of_lt_of_le hsz.out gw.size)
            replace g := Lib.hid (bl_then g.out gw)
            clear gw fz bxl
            go_wp2_with fail
            go_roundw
            case rel =>
              have hne' : w8.heap.size ≠ w11.heap.size := Nat.ne_of_lt hne.out
              have hle : w.heap.size ≤ w11.heap.size := Nat.le_of_lt (Nat.lt_of_le_of_lt g8.out hne.out)
              exact ⟨j + 1, by omega, by go_num, ⟨Aw, cw, vw, rfl, ⟨rbf_set3 hvw.out (fun h => h rfl) _ _ _, hvl.out⟩, hw1.out⟩, ABn, cbn, APn, cpn, P1, set_cell3 _ _ _ _ _ bxc, dn.set3 (fun h => h rfl) _ _ _, hPn.out, box_set3 hne' c8, dF.out.set3 (fun h => h rfl) _ _ _, by intro o; simp [World.frozen?_setCell, fz' o], by have := hsz.out; simp; omega, bl_set (bl_set (bl_set g.out hle _) hle _) hle _⟩
            case measure => simp [intOf]; omega
      · have hjL : j = L.length := by omega
        obtain ⟨C, hC⟩ : ∃ x, layTo B Px (keepF K) Px.length = x := ⟨_, rfl⟩
        obtain ⟨P3, hP3⟩ : ∃ x : List PutD, x = [] := ⟨_, rfl⟩
        have hCl : C.length = B.length := by rw [← hC, layTo_length]
        have hCw : C.getD I.toNat [] = vw := by rw [← hC, hPx.out, hwt.out, PJ_len hj]; exact want_lay hj hin.out.1 hin.out.2 hBz.out _ (Nat.le_refl _)
        have r1 := Lib.hid (show readE C (-1) I = 0 by unfold readE; rw [hCl, if_pos hin.out, if_neg (by omega)])
        have r2 := Lib.hid (show readB C P3 (-1) I = vw by unfold readB; rw [if_pos r1.out, hP3, ← hCw]; rfl)
        have k2 := Lib.hid (layTo_none (B := B) (P := Px) Px.length)
        have S1 := Lib.hid (show sameD B P3 (-1) B P0 (-1) = true by rw [hP3, hP0.out]; exact sameD_self _ _ _)
        have hq := Lib.hid (show (vw == vw) = true by simp)
        have bC := Lib.hid (show C.length ≤ 4096 by have := b1.out; omega)
        have p3 := Lib.hid (show P3.length ≤ 1000000 by rw [hP3]; simp)
        have hp0 : ((P0.length : Int) == 0) = true := by rw [hP0.out]; rfl
        have rl := Lib.hid (show ∀ w, RL w none [] from fun w => .inl rfl)
        have dx' := ox.out.okD
        have d8' := dF.out.okD
        have rw' : OkB wr Aw cw vw := ⟨hvw.out.1.mono fun _ _ => trivial, hvl.out⟩
        have rk := HK.out.ext g.out
        replace hC := Lib.hid hC
        replace hP3 := Lib.hid hP3
        clear hjL hCl hCw ox dF fz
        go_upto_region 22 with (first
          | (go_at_call 27; refine (c_crash ABx cbx APx cpx (-1) _ B Px dx' b1.out b0.out p1.out okx.out AK cK K rk C P3 hC.out hP3.out).mono ?_; rintro e w13 ⟨⟨ABc, cbc, APc, cpc, rfl, dc⟩, hb13⟩; replace c8 := box_ext hb13 c8; replace bxc := box_ext hb13 bxc; replace dx' := dx'.ext hb13; replace d8' := d8'.ext hb13; replace rw' := rw'.ext hb13; replace g := Lib.hid (bl_then g.out hb13); clear hb13)
          | (go_at_call 19; refine (c_read ABc cbc APc cpc (-1) I _ C P3 dc bC.out p3.out 0 vw r1.out r2.out).mono ?_; rintro e w14 ⟨⟨A16, c16, rfl, r16⟩, hb14⟩; replace c8 := box_ext hb14 c8; replace bxc := box_ext hb14 bxc; replace dx' := dx'.ext hb14; replace d8' := d8'.ext hb14; replace rw' := rw'.ext hb14; replace g := Lib.hid (bl_then g.out hb14); clear hb14) | fail)
        have ha := bl_drew (Below.refl _ w14)
        replace c8 := box_ext ha c8
        replace bxc := box_ext ha bxc
        replace dx' := dx'.ext ha
        replace d8' := d8'.ext ha
        replace rw' := rw'.ext ha
        replace r16 := r16.ext ha
        replace g := Lib.hid (bl_then g.out ha)
        clear ha
        go_region_held3 (fun W' => (W'.cell? ⟨w8.heap.size, 0, none⟩ = some (.slice AB B.length cb) ∧ W'.cell? ⟨w8.heap.size, 1, none⟩ = some (.slice AP P0.length cp) ∧ W'.cell? ⟨w8.heap.size, 2, none⟩ = some (.int .i64 (-1))) ∧ (W'.cell? ⟨w11.heap.size, 0, none⟩ = some (.slice ABx B.length cbx) ∧ W'.cell? ⟨w11.heap.size, 1, none⟩ = some (.slice APx Px.length cpx) ∧ W'.cell? ⟨w11.heap.size, 2, none⟩ = some (.int .i64 (-1))))
          (with_reducible exact ⟨c8, bxc⟩)
          (first
            | (go_at_call 21; refine (c_same A16 c16 vw Aw cw vw _ r16 rw' true hq.out).mono ?_; rintro e w16 ⟨rfl, hb16⟩; replace c8 := box_ext hb16 c8; replace bxc := box_ext hb16 bxc; replace dx' := dx'.ext hb16; replace d8' := d8'.ext hb16; replace g := Lib.hid (bl_then g.out hb16); clear hb16)
            | (go_at_call 27; refine (c_crash ABx cbx APx cpx (-1) _ B Px dx' b1.out b0.out p1.out okx.out none 0 [] (rl.out _) B P3 k2.out hP3.out).mono ?_; rintro e w16 ⟨⟨ABd, cbd, APd, cpd, rfl, dd⟩, hb16⟩; replace c8 := box_ext hb16 c8; replace bxc := box_ext hb16 bxc; replace d8' := d8'.ext hb16; replace g := Lib.hid (bl_then g.out hb16); clear hb16)
            | (go_at_call 15; refine (c_rsame ABd cbd APd cpd (-1) AB cb AP cp (-1) _ B P3 B P0 dd d8' b1.out p3.out true S1.out).mono ?_; rintro e w16 ⟨rfl, hb16⟩; replace c8 := box_ext hb16 c8; replace bxc := box_ext hb16 bxc; replace g := Lib.hid (bl_then g.out hb16); clear hb16)
            | fail)
        all_goals (go_wp2_with fail; go_ret; exact ⟨rfl, g.out⟩)
end Go.Proofs.Ytkfalgdhpojejaa
