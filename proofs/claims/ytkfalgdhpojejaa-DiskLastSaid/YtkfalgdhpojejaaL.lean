import Derived.Test.YtkfalgdhpojejaaK
namespace Go.Proofs.Ytkfalgdhpojejaa
open Go.RowKit

/-- Which writes a crash keeps. -/
def keepF (K : List Bool) : Nat → Bool := fun i => K.getD i false

set_option maxHeartbeats 2000000 in
theorem laid46_any (φ : Nat → Prop) (AB : Option Addr) (cb : Nat) (AP : Option Addr) (cp : Nat) (f : Int) (w : World) (B : List (List UInt8)) (P : List PutD) (hB : RBBF φ w AB B) (hP : RPF φ w AP P) (hlB : B.length ≤ 4096) (hlB0 : 0 < B.length) (hlP : P.length ≤ 1000000) (hok : okP B.length P) (AK : Option Addr) (cK : Nat) (K : List Bool) (BK : Nat) (hK : w.cell? ⟨BK, 0, none⟩ = some (.slice AK K.length cK)) (hRL : RL w AK K) :
    Calls Try.prog 44 #[.agg #[.slice AB B.length cb, .slice AP P.length cp, .int .i64 f], .func (.func 46) #[] #[.pointer (some ⟨BK, 0, none⟩)]] w fun e w' =>
      (∃ v, e = .returned v ∧ VD (fun b => φ b ∨ w.heap.size ≤ b) w' v (layTo B P (keepF K) P.length) [] f) ∧ Below w.heap.size w w' := by
  obtain ⟨csB, hbc, hbs⟩ := hB.cells
  have HBC := Lib.hid hbc.low
  have HBS := Lib.hid hbs
  have HBL := Lib.hid hbc.1
  have HBO := Lib.hid hbc.oneCell
  have HP := Lib.hid hP.low
  have Hok := Lib.hid hok
  have Hb0 := Lib.hid (bl_alloc (bl_alloc (Below.refl w.heap.size w) (.cells #[.slice AB B.length cb, .slice AP P.length cp, .int .i64 f] 25)) (.cells #[.slice none 0 0, .slice none 0 0, .int .i64 0] 25))
  have HK := Lib.hid hK
  have HRL := Lib.hid hRL
  have HA : Hid (∃ ad, AB = some ad) := by
    rcases hB with rfl | ⟨b, off, _, h, _⟩
    · simp at hlB0
    · exact ⟨_, h⟩
  clear hbc hbs hB hP hok hK hRL
  obtain ⟨i0, hi, hz0, hz1, hz2⟩ := info_parts info37
  go_enter Try.func44, Try.ntmps44
  go_wp2_with (first | (at_make; refine wpList_make_full _ rfl _ _ 22 rfl (w.heap.size + 2) 37 i0 (.slice none 0 0) 1 Try.underlying22 hi hz0 hz1 .i64 .i64 _ _ B.length rfl rfl rfl rfl (by rw [hz2]; omega) (by simp only [maxLen]; omega) (by simp) ?_; intro w1 hown1 hgrow1; simp only [World.size_alloc] at hown1; have hb := bl_grown (Below.refl _ _) hgrow1 (fun k hk => by cases hk); have Hb1 := Lib.hid hb; have Ho1 := Lib.hid (own_block hown1); obtain ⟨hc1, hf1, hd1, hg1, hs1⟩ := box2 hb; clear hb hgrow1 hown1) | (with_reducible refine wpList_copy_splice rfl (.tmp 12) (.tmp 14) 22 22 rfl 37 Try.underlying22 size37 (some ⟨w.heap.size + 1 + 1, 0, none⟩) AB B.length B.length B.length cb rfl rfl (w.heap.size + 1 + 1) 0 (madeCells (Value.slice none 0 0).cells (B.length * 1)).toList 37 Ho1.out csB (by rw [HBL.out]; simp) (fun _ => ⟨rfl, HA.out.elim fun ad e => ⟨ad, e, fun j v hj => cell_ext (bl_then Hb0.out Hb1.out) (HBS.out ad e j v hj)⟩⟩) (by simp [size_madeCells, HBL.out]) HBO.out _ _ Hb1.out (by simp) ?_; intro w2 hh2 hb2; obtain ⟨hc2, hf2, hd2, hg2, hs2⟩ := box2 hb2; have Hb2 := Lib.hid hb2; clear hb2 hc1 hf1 hd1 hg1 hs1))
  have Ho2 := Lib.hid (block_own (base := w.heap.size + 2) (g := w.heap.size + 1 + 1) (Nat.le_refl _) (xs := csB) (by have h : _ = _ := hh2; rw [splice_all _ _ (by rw [HBL.out]; simp [size_madeCells])] at h; exact h) HBL.out (by simp only [maxLen]; omega))
  clear hh2
  go_loopw [19] (fun i wr => ∃ k : Nat, k ≤ P.length ∧ i = .int .i64 k ∧ ∃ cs, Hid (wr.ownsRow (w.heap.size + 2) 37 1 (.slice (some ⟨w.heap.size + 1 + 1, 0, none⟩) B.length B.length) B.length cs) ∧ Hid (BlkCells (fun b => φ b ∧ b < w.heap.size) w cs (layTo B P (keepF K) k)) ∧ Hid (Below ((w.alloc (.cells #[.slice AB B.length cb, .slice AP P.length cp, .int .i64 f] 25)).alloc (.cells #[.slice none 0 0, .slice none 0 0, .int .i64 0] 25)).heap.size ((w.alloc (.cells #[.slice AB B.length cb, .slice AP P.length cp, .int .i64 f] 25)).alloc (.cells #[.slice none 0 0, .slice none 0 0, .int .i64 0] 25)) wr)) (fun i _ => P.length - (intOf i).toNat)
  case atStart => exact ⟨0, Nat.zero_le _, rfl, csB, Ho2.out, HBC.out, Hb2.out⟩
  case round =>
    obtain ⟨k, hk, rfl, cs, Ho, HBk, Hb⟩ := hrel
    clear hc2 hf2 hd2 hg2 hs2
    by_cases hlt : k < P.length
    · obtain ⟨b, off, rfl, hv0, A', c', hv1, hR⟩ := HP.out.some_ hlt
      have HR := Lib.hid hR
      replace hv0 := cell_ext (bl_then Hb0.out Hb) hv0
      replace hv1 := cell_ext (bl_then Hb0.out Hb) hv1
      obtain ⟨hat0, hat1⟩ := Hok.out k hlt
      obtain ⟨v0, hv2⟩ : ∃ v0, cs[P[k].1.toNat]? = some v0 := by
        obtain ⟨v, h1, _⟩ := HBk.2 P[k].1.toNat (by rw [layTo_length]; omega)
        exact ⟨v, h1⟩
      have hce := Ho.cellAt P[k].1.toNat (by omega)
      rw [hv2] at hce
      have hfe := Ho.frozenAt P[k].1.toNat
      have hgl : w.heap.size + 1 + 1 < wr.heap.size := blk_lt hce
      have hlo := (Ho.lt (w.heap.size + 1 + 1) rfl).2
      clear hv2 hR hlo
      have hC := (crash1_any k AK cK K BK (wr.alloc (.cells #[.int .i64 P[k].1, .slice A' P[k].2.length c'] 55)) (HRL.out.ext (bl_alloc (bl_then Hb0.out Hb) _)) (cell_ext (bl_alloc (bl_then Hb0.out Hb) _) HK.out))
      rw [show K.getD k false = keepF K k from rfl] at hC
      have HC := Lib.hid hC
      clear hC
      cases hks : keepF K k
      · rw [hks] at HC
        have Hks := Lib.hid hks
        clear hks hce hfe hgl
        go_wp2_with (go_at_call 46; refine HC.out.mono ?_; rintro e w' ⟨rfl, rfl⟩)
        go_roundw
        case rel => exact ⟨k + 1, by omega, by go_num, cs, Ho.alloc _, by rw [layTo_succ hlt, if_neg (by rw [Hks.out]; simp)]; exact HBk, bl_alloc Hb _⟩
        case measure => simp [intOf]; omega
      · rw [hks] at HC
        have Hks := Lib.hid hks
        clear hks
        go_wp2_with (go_at_call 46; refine HC.out.mono ?_; rintro e w' ⟨rfl, rfl⟩)
        go_roundw
        case rel => exact ⟨k + 1, by omega, by go_num, _, (Ho.stored _ _).1.alloc _, by rw [layTo_succ hlt, if_pos Hks.out]; exact HBk.set _ HR.out, bl_alloc (bl_set Hb (by simp) _) _⟩
        case measure => simp [intOf]; omega
    · have hk' : k = P.length := by omega
      have HE := Lib.hid hk'
      clear hk'
      obtain ⟨hc2, hf2, hd2, hg2, hs2⟩ := box2 Hb
      go_wp2_with fail
      have hb := bl_set (bl_set (bl_set (bl_set (bl_set (bl_then Hb0.out Hb) (p := ⟨w.heap.size, 0, none⟩) (Nat.le_refl _) (.slice (some ⟨w.heap.size + 1 + 1, 0, none⟩) B.length B.length)) (p := ⟨w.heap.size, 1, none⟩) (Nat.le_refl _) (.slice none 0 0)) (p := ⟨w.heap.size + 1, 0, none⟩) (Nat.le_succ _) (.slice (some ⟨w.heap.size + 1 + 1, 0, none⟩) B.length B.length)) (p := ⟨w.heap.size + 1, 1, none⟩) (Nat.le_succ _) (.slice none 0 0)) (p := ⟨w.heap.size + 1, 2, none⟩) (Nat.le_succ _) (.int .i64 f)
      have ho := ownsRow_setCell_below (ownsRow_setCell_below (ownsRow_setCell_below (ownsRow_setCell_below (ownsRow_setCell_below Ho (a := ⟨w.heap.size, 0, none⟩) (by simp) (.slice (some ⟨w.heap.size + 1 + 1, 0, none⟩) B.length B.length)) (a := ⟨w.heap.size, 1, none⟩) (by simp) (.slice none 0 0)) (a := ⟨w.heap.size + 1, 0, none⟩) (by simp) (.slice (some ⟨w.heap.size + 1 + 1, 0, none⟩) B.length B.length)) (a := ⟨w.heap.size + 1, 1, none⟩) (by simp) (.slice none 0 0)) (a := ⟨w.heap.size + 1, 2, none⟩) (by simp) (.int .i64 f)
      refine bodyPost_ret (v := .agg #[.slice (some ⟨w.heap.size + 1 + 1, 0, none⟩) B.length B.length, .slice none 0 0, .int .i64 f]) (by simp [results, Try.results44, go_sem, hd2]) rfl ⟨⟨_, rfl, some ⟨w.heap.size + 1 + 1, 0, none⟩, B.length, none, 0, ?_, Nat.le_refl _, fun _ => rfl, ?_, .inl rfl⟩, hb⟩
      · rw [layTo_length]; rfl
      · rw [← HE.out]
        exact rbbf_own ho ((HBk.kept (Kept.below _ hb)).mono fun _ h => .inl h.1) (.inr (by omega))
end Go.Proofs.Ytkfalgdhpojejaa
