import Derived.Test.YtkfalgdhpojejaaN
namespace Go.Proofs.Ytkfalgdhpojejaa
open Go.RowKit

theorem layTo_stop (B : List (List UInt8)) (P : List PutD) (ks : Nat → Bool) (k : Nat) (h : ∀ j, k ≤ j → ks j = false) : ∀ n, layTo B P ks (k + n) = layTo B P ks k
  | 0 => rfl
  | n + 1 => by rw [← Nat.add_assoc, layTo, if_neg (by rw [h _ (by omega)]; simp), layTo_stop B P ks k h n]

set_option maxHeartbeats 2000000 in
theorem rcrash_any (φ : Nat → Prop) (AB : Option Addr) (cb : Nat) (AP : Option Addr) (cp : Nat) (f : Int) (w : World) (B : List (List UInt8)) (P : List PutD) (hB : RBBF φ w AB B) (hP : RPF φ w AP P) (hlB : B.length ≤ 4096) (hlB0 : 0 < B.length) (hlP : P.length ≤ 1000000) (hok : okP B.length P)
    (AK : Option Addr) (cK : Nat) (K : List Bool) (hRL : RL w AK K) :
    Calls Try.prog 28 #[.agg #[.slice AB B.length cb, .slice AP P.length cp, .int .i64 f], .slice AK K.length cK] w fun e w' =>
      (∃ v, e = .returned v ∧ VD (fun b => φ b ∨ w.heap.size ≤ b) w' v (layTo B P (keepF K) P.length) [] (-1)) ∧ Below w.heap.size w w' := by
  obtain ⟨csB, hbc, hbs⟩ := hB.cells
  have HBC := Lib.hid hbc.low
  have HBS := Lib.hid hbs
  have HBL := Lib.hid hbc.1
  have HBO := Lib.hid hbc.oneCell
  have HA : Hid (∃ ad, AB = some ad) := by
    rcases hB with rfl | ⟨b, off, _, h, _⟩
    · simp at hlB0
    · exact ⟨_, h⟩
  have HP := Lib.hid hP.low
  have Hok := Lib.hid hok
  have HRL := Lib.hid hRL
  have Hb0 := Lib.hid (bl_alloc (bl_alloc (Below.refl w.heap.size w) (.cells #[.slice AB B.length cb, .slice AP P.length cp, .int .i64 f] 25)) (.cells #[.slice none 0 0, .slice none 0 0, .int .i64 0] 25))
  clear hbc hbs hB hP hok hRL
  obtain ⟨i0, hi, hz0, hz1, hz2⟩ := info_parts info37
  go_enter Try.func28, Try.ntmps28
  go_wp2_with (at_builtin; refine append_any _ rfl (.tmp 7) (.tmp 9) 22 rfl (w.heap.size + 2) 37 i0 (.slice none 0 0) 1 24 Try.underlying22 hi hz0 hz1 hz2 rfl (by decide) _ 0 [] rfl (own_empty _ _ (by simp) 37 1) AB B.length cb csB rfl (fun h => HA.out.elim fun ad e => by rw [h] at e; cases e) (by rw [HBL.out, Nat.mul_one]) (fun a ha j u hu => cell_ext (bl_alloc Hb0.out _) (HBS.out a ha j u hu)) HBO.out (by simp only [maxLen]; omega) (by omega) (by simp) ?_; intro v1 w1 hown1 hgrow1; simp only [Nat.zero_add, List.nil_append] at hown1; obtain ⟨g, c1, e1, hg0⟩ := hown1.form hlB0; subst e1; have hb := bl_grown (bl_alloc (Below.refl _ _) _) hgrow1 (fun k hk => by cases hk; simp); obtain ⟨hc1, hf1, hd1, hg1, hs1⟩ := box2 hb; have Hb1 := Lib.hid hb; have Ho1 := Lib.hid hown1; clear hb hgrow1 hown1)
  go_loopw [6] (fun i wr => ∃ k : Nat, k ≤ P.length ∧ i = .int .i64 k ∧ ∃ cs, Hid (wr.ownsRow (w.heap.size + 2) 37 1 (.slice (some ⟨g, 0, none⟩) B.length c1) B.length cs) ∧ Hid (BlkCells (fun b => φ b ∧ b < w.heap.size) w cs (layTo B P (keepF K) k)) ∧ Hid (Below ((w.alloc (.cells #[.slice AB B.length cb, .slice AP P.length cp, .int .i64 f] 25)).alloc (.cells #[.slice none 0 0, .slice none 0 0, .int .i64 0] 25)).heap.size ((w.alloc (.cells #[.slice AB B.length cb, .slice AP P.length cp, .int .i64 f] 25)).alloc (.cells #[.slice none 0 0, .slice none 0 0, .int .i64 0] 25)) wr)) (fun i _ => P.length - (intOf i).toNat)
  case atStart => exact ⟨0, Nat.zero_le _, rfl, csB, Ho1.out, HBC.out, Hb1.out⟩
  case round =>
    obtain ⟨k, hk, rfl, cs, Ho, HBk, Hb⟩ := hrel
    clear hc1 hf1 hd1 hg1 hs1
    obtain ⟨hc2, hf2, hd2, hg2, hs2⟩ := box2 Hb
    by_cases hgo : k < P.length ∧ k < K.length
    · obtain ⟨hlt, hltK⟩ := hgo
      obtain ⟨b, off, rfl, hv0, A', c', hv1, hR⟩ := HP.out.some_ hlt
      have HR := Lib.hid hR
      replace hv0 := cell_ext (bl_then Hb0.out Hb) hv0
      replace hv1 := cell_ext (bl_then Hb0.out Hb) hv1
      obtain ⟨bk, offk, rfl, hkc⟩ := HRL.out.resolve_left (by intro e; simp [e] at hltK)
      have hkv := cell_ext (bl_then Hb0.out Hb) (hkc k hltK)
      obtain ⟨hat0, hat1⟩ := Hok.out k hlt
      obtain ⟨v0, hv2⟩ : ∃ v0, cs[P[k].1.toNat]? = some v0 := by
        obtain ⟨v, h1, _⟩ := HBk.2 P[k].1.toNat (by rw [layTo_length]; omega)
        exact ⟨v, h1⟩
      have hce := Ho.cellAt P[k].1.toNat (by omega)
      rw [hv2] at hce
      have hfe := Ho.frozenAt P[k].1.toNat
      have Hkf : Hid (keepF K k = K[k]) := by show K.getD k false = _; simp [hltK]
      clear hv2 hR hkc
      cases hks : K[k]
      · rw [hks] at hkv
        have Hks := Lib.hid hks
        clear hks hce hfe hv0 hv1
        go_wp2_with fail
        go_roundw
        case rel => exact ⟨k + 1, by omega, by go_num, cs, Ho, by rw [layTo_succ hlt, if_neg (by rw [Hkf, Hks.out]; simp)]; exact HBk, Hb⟩
        case measure => simp [intOf]; omega
      · rw [hks] at hkv
        have Hks := Lib.hid hks
        clear hks
        go_wp2_with fail
        go_still_tail 14, (by kernel_rfl)
        change wpList _ _ _ _ _ wr.drew
        go_wp2_with fail
        go_roundw
        case rel => exact ⟨k + 1, by omega, by go_num, _, (Ho.stored _ _).1.drew, by rw [layTo_succ hlt, if_pos (by rw [Hkf, Hks.out])]; exact HBk.set _ HR.out, bl_drew (bl_set Hb (by simp; omega) _)⟩
        case measure => simp [intOf]; omega
    · have HE : Hid (layTo B P (keepF K) P.length = layTo B P (keepF K) k) := by
        rcases Nat.lt_or_ge k P.length with h | h
        · have hK : K.length ≤ k := by omega
          have := layTo_stop B P (keepF K) k (fun j hj => by show K.getD j false = false; simp [List.getD, List.getElem?_eq_none (Nat.le_trans hK hj)]) (P.length - k)
          rw [show k + (P.length - k) = P.length by omega] at this
          exact this
        · show _ = _
          rw [show k = P.length by omega]
      have hd : P.length ≤ k ∨ (k < P.length ∧ K.length ≤ k) := by omega
      clear hgo
      rcases hd with hd | ⟨hd, hd'⟩
      all_goals
        go_wp2_with fail
        have hb := bl_set (bl_set (bl_set (bl_then Hb0.out Hb) (p := ⟨w.heap.size + 1, 0, none⟩) (Nat.le_succ _) (.slice (some ⟨g, 0, none⟩) B.length c1)) (p := ⟨w.heap.size + 1, 1, none⟩) (Nat.le_succ _) (.slice none 0 0)) (p := ⟨w.heap.size + 1, 2, none⟩) (Nat.le_succ _) (.int .i64 (-1))
        have ho := ownsRow_setCell_below (ownsRow_setCell_below (ownsRow_setCell_below Ho (a := ⟨w.heap.size + 1, 0, none⟩) (by simp) (.slice (some ⟨g, 0, none⟩) B.length c1)) (a := ⟨w.heap.size + 1, 1, none⟩) (by simp) (.slice none 0 0)) (a := ⟨w.heap.size + 1, 2, none⟩) (by simp) (.int .i64 (-1))
        refine bodyPost_ret (v := .agg #[.slice (some ⟨g, 0, none⟩) B.length c1, .slice none 0 0, .int .i64 (-1)]) (by simp [results, Try.results28, go_sem, hd2]) rfl ⟨⟨_, rfl, some ⟨g, 0, none⟩, c1, none, 0, ?_, Nat.le_refl _, fun _ => rfl, ?_, .inl rfl⟩, hb⟩
        · rw [layTo_length]; rfl
        · rw [HE]
          exact rbbf_own ho ((HBk.kept (Kept.below _ hb)).mono fun _ h => .inl h.1) (.inr (by omega))
end Go.Proofs.Ytkfalgdhpojejaa
