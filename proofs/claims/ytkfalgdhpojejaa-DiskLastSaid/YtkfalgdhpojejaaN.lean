import Derived.Test.YtkfalgdhpojejaaM
import Derived.Deep.AppendLies
namespace Go.Proofs.Ytkfalgdhpojejaa
open Go.RowKit

set_option maxHeartbeats 2000000 in
theorem rflush_any (φ : Nat → Prop) (AB : Option Addr) (cb : Nat) (AP : Option Addr) (cp : Nat) (f : Int) (w : World) (B : List (List UInt8)) (P : List PutD) (hB : RBBF φ w AB B) (hP : RPF φ w AP P) (hcp : P.length ≤ cp) (hnP : AP = none → cp = 0) (hlB : B.length ≤ 4096) (hlB0 : 0 < B.length) (hlP : P.length ≤ 1000000) (hok : okP B.length P) :
    Calls Try.prog 26 #[.agg #[.slice AB B.length cb, .slice AP P.length cp, .int .i64 f]] w fun e w' =>
      (∃ v, e = .returned (.tuple #[v, .int .i64 (flushE f)]) ∧ VD (fun b => φ b ∨ w.heap.size ≤ b) w' v (flushB B P f) (flushP P f) f) ∧ Below w.heap.size w w' := by
  obtain ⟨csB, hbc, hbs⟩ := hB.cells
  have HBC := Lib.hid hbc.low
  have HBS := Lib.hid hbs
  have HBL := Lib.hid hbc.1
  have HBO := Lib.hid hbc.oneCell
  have HA : Hid (∃ ad, AB = some ad) := by
    rcases hB with rfl | ⟨b, off, _, h, _⟩
    · simp at hlB0
    · exact ⟨_, h⟩
  have HB := Lib.hid (hB.low.mono (Aw.low (s := w.heap.size) (k := 2)))
  have HPA := Lib.hid (hP.low.mono (Aw.low (s := w.heap.size) (k := 2)))
  have HP := Lib.hid hP.low
  have Hcp := Lib.hid hcp
  have Hnp := Lib.hid hnP
  have Hok := Lib.hid hok
  have Hb0 := Lib.hid (bl_alloc (bl_alloc (Below.refl w.heap.size w) (.cells #[.slice AB B.length cb, .slice AP P.length cp, .int .i64 f] 25)) (.cells #[.slice none 0 0, .slice none 0 0, .int .i64 0] 25))
  clear hbc hbs hB hP hcp hnP hok
  cases h3 : f == 0
  case' true =>
    have He : Hid (f = 0) := eq_of_beq h3
    rw [show flushE f = 13 from if_pos He, show flushB B P f = B from if_pos He, show flushP P f = P from if_pos He]
    go_enter Try.func26, Try.ntmps26
    go_wp2_with fail
    have hb := bl_alloc (bl_alloc (Below.refl w.heap.size w) (.cells #[.slice AB B.length cb, .slice AP P.length cp, .int .i64 f] 25)) (.cells #[.slice AB B.length cb, .slice AP P.length cp, .int .i64 f] 25)
    refine bodyPost_ret (v := .tuple #[.agg #[.slice AB B.length cb, .slice AP P.length cp, .int .i64 f], .int .i64 13]) (by simp [results, Try.results26, go_sem]) rfl ⟨⟨_, rfl, AB, cb, AP, cp, rfl, Hcp.out, Hnp.out, ?_, ?_⟩, hb⟩
    · exact (HB.out.kept (Kept.below _ hb)).mono Aw.out
    · exact (HPA.out.kept (Kept.below _ hb)).mono Aw.out
  case' false =>
    have He : Hid (¬ f = 0) := ne_of_beq_false h3
    rw [show flushE f = 0 from if_neg He, show flushB B P f = layTo B P (fun _ => true) P.length from if_neg He, show flushP P f = [] from if_neg He]
    obtain ⟨i0, hi, hz0, hz1, hz2⟩ := info_parts info37
    go_enter Try.func26, Try.ntmps26
    go_wp2_with (at_builtin; refine append_any _ rfl (.tmp 10) (.tmp 12) 22 rfl (w.heap.size + 2) 37 i0 (.slice none 0 0) 1 24 Try.underlying22 hi hz0 hz1 hz2 rfl (by decide) _ 0 [] rfl (own_empty _ _ (by simp) 37 1) AB B.length cb csB rfl (fun h => HA.out.elim fun ad e => by rw [h] at e; cases e) (by rw [HBL.out, Nat.mul_one]) (fun a ha j u hu => cell_ext (bl_alloc Hb0.out _) (HBS.out a ha j u hu)) HBO.out (by simp only [maxLen]; omega) (by omega) (by simp) ?_; intro v1 w1 hown1 hgrow1; simp only [Nat.zero_add, List.nil_append] at hown1; obtain ⟨g, c1, e1, hg0⟩ := hown1.form hlB0; subst e1; have hb := bl_grown (bl_alloc (Below.refl _ _) _) hgrow1 (fun k hk => by cases hk; simp); obtain ⟨hc1, hf1, hd1, hg1, hs1⟩ := box2 hb; have Hb1 := Lib.hid hb; have Ho1 := Lib.hid hown1; clear hb hgrow1 hown1)
    go_loopw [5] (fun i wr => ∃ k : Nat, k ≤ P.length ∧ i = .int .i64 k ∧ ∃ cs, Hid (wr.ownsRow (w.heap.size + 2) 37 1 (.slice (some ⟨g, 0, none⟩) B.length c1) B.length cs) ∧ Hid (BlkCells (fun b => φ b ∧ b < w.heap.size) w cs (layTo B P (fun _ => true) k)) ∧ Hid (Below ((w.alloc (.cells #[.slice AB B.length cb, .slice AP P.length cp, .int .i64 f] 25)).alloc (.cells #[.slice none 0 0, .slice none 0 0, .int .i64 0] 25)).heap.size ((w.alloc (.cells #[.slice AB B.length cb, .slice AP P.length cp, .int .i64 f] 25)).alloc (.cells #[.slice none 0 0, .slice none 0 0, .int .i64 0] 25)) wr)) (fun i _ => P.length - (intOf i).toNat)
    case atStart => exact ⟨0, Nat.zero_le _, rfl, csB, Ho1.out, HBC.out, Hb1.out⟩
    case round =>
      obtain ⟨k, hk, rfl, cs, Ho, HBk, Hb⟩ := hrel
      clear hc1 hf1 hd1 hg1 hs1
      obtain ⟨hc2, hf2, hd2, hg2, hs2⟩ := box2 Hb
      by_cases hlt : k < P.length
      · obtain ⟨b, off, rfl, hv0, A', c', hv1, hR⟩ := HP.out.some_ hlt
        have HR := Lib.hid hR
        replace hv0 := cell_ext (bl_then Hb0.out Hb) hv0
        replace hv1 := cell_ext (bl_then Hb0.out Hb) hv1
        obtain ⟨hat0, hat1⟩ := Hok.out k hlt
        obtain ⟨v0, hv2⟩ : ∃ v0, cs[P[k].1.toNat]? = some v0 := by
          obtain ⟨v, h1, _⟩ := HBk.2 P[k].1.toNat (by rw [layTo_length]; omega)
          exact ⟨v, h1⟩
        have hce := Ho.cellAt P[k].1.toNat (by omega)
        rw [hv2] at hce
        have hfe := Ho.frozenAt P[k].1.toNat
        clear hv2 hR
        go_wp2_with fail
        go_still_tail 14, (by kernel_rfl)
        change wpList _ _ _ _ _ wr.drew
        go_wp2_with fail
        go_roundw
        case rel => exact ⟨k + 1, by omega, by go_num, _, (Ho.stored _ _).1.drew, by rw [layTo_succ hlt]; exact HBk.set _ HR.out, bl_drew (bl_set Hb (by simp; omega) _)⟩
        case measure => simp [intOf]; omega
      · have hk' : k = P.length := by omega
        have HE := Lib.hid hk'
        clear hk'
        go_wp2_with fail
        have hb := bl_set (bl_set (bl_set (bl_then Hb0.out Hb) (p := ⟨w.heap.size + 1, 0, none⟩) (Nat.le_succ _) (.slice (some ⟨g, 0, none⟩) B.length c1)) (p := ⟨w.heap.size + 1, 1, none⟩) (Nat.le_succ _) (.slice none 0 0)) (p := ⟨w.heap.size + 1, 2, none⟩) (Nat.le_succ _) (.int .i64 f)
        have ho := ownsRow_setCell_below (ownsRow_setCell_below (ownsRow_setCell_below Ho (a := ⟨w.heap.size + 1, 0, none⟩) (by simp) (.slice (some ⟨g, 0, none⟩) B.length c1)) (a := ⟨w.heap.size + 1, 1, none⟩) (by simp) (.slice none 0 0)) (a := ⟨w.heap.size + 1, 2, none⟩) (by simp) (.int .i64 f)
        refine bodyPost_ret (v := .tuple #[.agg #[.slice (some ⟨g, 0, none⟩) B.length c1, .slice none 0 0, .int .i64 f], .int .i64 0]) (by simp [results, Try.results26, go_sem, hd2]) rfl ⟨⟨_, rfl, some ⟨g, 0, none⟩, c1, none, 0, ?_, Nat.le_refl _, fun _ => rfl, ?_, .inl rfl⟩, hb⟩
        · rw [layTo_length]; rfl
        · rw [← HE.out]
          exact rbbf_own ho ((HBk.kept (Kept.below _ hb)).mono fun _ h => .inl h.1) (.inr (by omega))
end Go.Proofs.Ytkfalgdhpojejaa
