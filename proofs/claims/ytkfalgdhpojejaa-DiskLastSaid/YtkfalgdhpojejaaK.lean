import Derived.Test.YtkfalgdhpojejaaJ
import Derived.Laws.CopyOwn
import Derived.StillTailTactics
namespace Go.Proofs.Ytkfalgdhpojejaa
open Go.RowKit

/-- The cells of blocks. -/
def BlkCells (φ : Nat → Prop) (w : World) (cs : List Value) (l : List (List UInt8)) : Prop :=
  cs.length = l.length ∧ ∀ i (h : i < l.length), ∃ v, cs[i]? = some v ∧ VBF φ w v l[i]
theorem BlkCells.kept {φ : Nat → Prop} {w w' : World} {cs : List Value} {l : List (List UInt8)} (h : BlkCells φ w cs l) (hk : Kept φ w w') : BlkCells φ w' cs l :=
  ⟨h.1, fun i hi => let ⟨v, h2, h3⟩ := h.2 i hi; ⟨v, h2, h3.kept hk⟩⟩
theorem BlkCells.mono {φ ψ : Nat → Prop} {w : World} {cs : List Value} {l : List (List UInt8)} (h : BlkCells φ w cs l) (hm : ∀ b, φ b → ψ b) : BlkCells ψ w cs l :=
  ⟨h.1, fun i hi => let ⟨v, h2, h3⟩ := h.2 i hi; ⟨v, h2, h3.mono hm⟩⟩
theorem BlkCells.low {φ : Nat → Prop} {w : World} {cs : List Value} {l : List (List UInt8)} (h : BlkCells φ w cs l) : BlkCells (fun b => φ b ∧ b < w.heap.size) w cs l :=
  ⟨h.1, fun i hi => let ⟨v, h2, h3⟩ := h.2 i hi; ⟨v, h2, h3.low⟩⟩
theorem BlkCells.oneCell {φ : Nat → Prop} {w : World} {cs : List Value} {l : List (List UInt8)} (h : BlkCells φ w cs l) : ∀ u ∈ cs, u.oneCell' = true := by
  intro u hu
  obtain ⟨j, hj, rfl⟩ := List.getElem_of_mem hu
  obtain ⟨v, h1, A, c, rfl, _⟩ := h.2 j (by rw [← h.1]; exact hj)
  rw [List.getElem?_eq_getElem hj] at h1
  rw [Option.some.inj h1]; rfl
theorem BlkCells.set {φ : Nat → Prop} {w : World} {cs : List Value} {l : List (List UInt8)} (h : BlkCells φ w cs l) (j : Nat) {v : Value} {bs : List UInt8} (hv : VBF φ w v bs) : BlkCells φ w (cs.set j v) (l.set j bs) := by
  refine ⟨by simp [h.1], fun i hi => ?_⟩
  simp at hi
  obtain ⟨u, h1, h2⟩ := h.2 i hi
  by_cases e : j = i
  · subst e
    exact ⟨v, by simp [h.1, hi], by simpa using hv⟩
  · exact ⟨u, by simp [e, h1], by simpa [List.getElem_set, e] using h2⟩
theorem RBBF.cells {φ : Nat → Prop} {w : World} {A : Option Addr} {l : List (List UInt8)} (h : RBBF φ w A l) : ∃ cs, BlkCells φ w cs l ∧ ∀ a, A = some a → ∀ j u, cs[j]? = some u → w.cell? (a.add j) = some u := by
  rcases h with rfl | ⟨b, off, hb, rfl, h2⟩
  · exact ⟨[], ⟨rfl, fun _ h => absurd h (Nat.not_lt_zero _)⟩, fun _ _ j u h => by simp at h⟩
  · refine ⟨(List.range l.length).map fun j => (w.cell? ⟨b, off + j, none⟩).getD undef, ⟨by simp, fun i hi => ?_⟩, fun a ha j u hu => ?_⟩
    · obtain ⟨v, h1, h3⟩ := h2 i hi
      exact ⟨v, by simp [hi, h1], h3⟩
    · cases ha
      rw [plain_add]
      have hj : j < l.length := by
        rcases Nat.lt_or_ge j l.length with h | h
        · exact h
        · simp [h] at hu
      obtain ⟨v, h1, h3⟩ := h2 j hj
      simp [hj, h1] at hu
      rw [h1, hu]
theorem rbbf_own {φ : Nat → Prop} {W : World} {base g n c : Nat} {xs : List Value} {l : List (List UInt8)} (h : W.ownsRow base 37 1 (.slice (some ⟨g, 0, none⟩) n c) n xs) (hp : BlkCells φ W xs l) (hφ : φ g) : RBBF φ W (some ⟨g, 0, none⟩) l := by
  refine .inr ⟨g, 0, hφ, rfl, fun i hi => ?_⟩
  obtain ⟨v, h1, h2⟩ := hp.2 i hi
  refine ⟨v, ?_, h2⟩
  have h3 := h.1
  have h4 := hp.1
  rw [Nat.zero_add, h.cellAt i (by omega), h1]
theorem own_block {W : World} {base g n : Nat} {e : TypeId} {xs : List Value} (h : W.ownsRow base e 1 (.slice (some ⟨g, 0, none⟩) n n) n xs) : W.heap[g]? = some (.cells xs.toArray e (0, 0)) := by
  rcases h.2 with ⟨h', _⟩ | ⟨g', cap', cur, h', hb, hg, hnc, hcm, hcs, htake⟩
  · simp at h'
  · simp only [Value.slice.injEq, Option.some.injEq, Addr.mk.injEq, and_true, true_and] at h'
    obtain ⟨rfl, rfl⟩ := h'
    rw [hg, ← htake, List.take_of_length_le (by simp [hcs])]
theorem block_own {W : World} {base g n : Nat} {e : TypeId} {xs : List Value} (hb : base ≤ g) (h : W.heap[g]? = some (.cells xs.toArray e (0, 0))) (hn : xs.length = n) (hm : n ≤ maxLen) : W.ownsRow base e 1 (.slice (some ⟨g, 0, none⟩) n n) n xs :=
  ⟨by simp [hn], .inr ⟨g, n, xs.toArray, rfl, hb, h, Nat.le_refl _, hm, by simp [hn], by subst hn; simp⟩⟩
theorem size37 : (Try.prog.info? 37).map (fun i => i.size) = some 1 := by kernel_rfl
theorem info37 : (Try.prog.info? 37).map (fun i => (i.zero, i.size, i.bytes)) = some (some (.slice none 0 0), 1, 24) := by kernel_rfl

theorem RPF.some_ {φ : Nat → Prop} {w : World} {A : Option Addr} {l : List PutD} (h : RPF φ w A l) {k : Nat} (hk : k < l.length) :
    ∃ b off, A = some ⟨b, off, none⟩ ∧ w.cell? ⟨b, off + k * 2, none⟩ = some (.int .i64 l[k].1) ∧ ∃ A' c', w.cell? ⟨b, off + k * 2 + 1, none⟩ = some (.slice A' l[k].2.length c') ∧ VBF φ w (.slice A' l[k].2.length c') l[k].2 := by
  rcases h with rfl | ⟨b, off, cs, _, h1, h2, h3⟩
  · simp at hk
  · obtain ⟨e0, v, e1, A', c', rfl, e2, e3, e4⟩ := h2.2 k hk
    exact ⟨b, off, h1, h3 _ _ e0, A', c', by rw [Nat.add_assoc]; exact h3 _ _ e1, A', c', rfl, e2, e3, e4⟩
theorem splice_all {α : Type} (L cs : List α) (h : L.length = cs.length) : splice L 0 cs = cs := by simp [splice, h]
/-- Which writes are laid into their blocks. -/
def layTo (B : List (List UInt8)) (P : List PutD) (ks : Nat → Bool) : Nat → List (List UInt8)
  | 0 => B
  | k + 1 => if ks k then (layTo B P ks k).set (P.getD k (0, [])).1.toNat (P.getD k (0, [])).2 else layTo B P ks k
theorem layTo_succ {B : List (List UInt8)} {P : List PutD} {ks : Nat → Bool} {k : Nat} (hk : k < P.length) : layTo B P ks (k + 1) = if ks k then (layTo B P ks k).set P[k].1.toNat P[k].2 else layTo B P ks k := by
  rw [layTo, show P.getD k (0, []) = P[k] by simp [hk]]
theorem layTo_length (B : List (List UInt8)) (P : List PutD) (ks : Nat → Bool) : ∀ k, (layTo B P ks k).length = B.length
  | 0 => rfl
  | k + 1 => by unfold layTo; split <;> simp [layTo_length B P ks k]
def okP (nb : Nat) (P : List PutD) : Prop := ∀ k (h : k < P.length), 0 ≤ P[k].1 ∧ P[k].1 < nb

set_option maxHeartbeats 2000000 in
theorem laid45_any (φ : Nat → Prop) (AB : Option Addr) (cb : Nat) (AP : Option Addr) (cp : Nat) (f : Int) (w : World) (B : List (List UInt8)) (P : List PutD) (hB : RBBF φ w AB B) (hP : RPF φ w AP P) (hlB : B.length ≤ 4096) (hlB0 : 0 < B.length) (hlP : P.length ≤ 1000000) (hok : okP B.length P) :
    Calls Try.prog 44 #[.agg #[.slice AB B.length cb, .slice AP P.length cp, .int .i64 f], .func (.func 45) #[] #[]] w fun e w' =>
      (∃ v, e = .returned v ∧ VD (fun b => φ b ∨ w.heap.size ≤ b) w' v (layTo B P (fun _ => true) P.length) [] f) ∧ Below w.heap.size w w' := by
  obtain ⟨csB, hbc, hbs⟩ := hB.cells
  have HBC := Lib.hid hbc.low
  have HBS := Lib.hid hbs
  have HBL := Lib.hid hbc.1
  have HBO := Lib.hid hbc.oneCell
  have HP := Lib.hid hP.low
  have Hok := Lib.hid hok
  have Hb0 := Lib.hid (bl_alloc (bl_alloc (Below.refl w.heap.size w) (.cells #[.slice AB B.length cb, .slice AP P.length cp, .int .i64 f] 25)) (.cells #[.slice none 0 0, .slice none 0 0, .int .i64 0] 25))
  have HA : Hid (∃ ad, AB = some ad) := by
    rcases hB with rfl | ⟨b, off, _, h, _⟩
    · simp at hlB0
    · exact ⟨_, h⟩
  clear hbc hbs hB hP hok
  obtain ⟨i0, hi, hz0, hz1, hz2⟩ := info_parts info37
  go_enter Try.func44, Try.ntmps44
  go_wp2_with (first | (at_make; refine wpList_make_full _ rfl _ _ 22 rfl (w.heap.size + 2) 37 i0 (.slice none 0 0) 1 Try.underlying22 hi hz0 hz1 .i64 .i64 _ _ B.length rfl rfl rfl rfl (by rw [hz2]; omega) (by simp only [maxLen]; omega) (by simp) ?_; intro w1 hown1 hgrow1; simp only [World.size_alloc] at hown1; have hb := bl_grown (Below.refl _ _) hgrow1 (fun k hk => by cases hk); have Hb1 := Lib.hid hb; have Ho1 := Lib.hid (own_block hown1); obtain ⟨hc1, hf1, hd1, hg1, hs1⟩ := box2 hb; clear hb hgrow1 hown1) | (with_reducible refine wpList_copy_splice rfl (.tmp 12) (.tmp 14) 22 22 rfl 37 Try.underlying22 size37 (some ⟨w.heap.size + 1 + 1, 0, none⟩) AB B.length B.length B.length cb rfl rfl (w.heap.size + 1 + 1) 0 (madeCells (Value.slice none 0 0).cells (B.length * 1)).toList 37 Ho1.out csB (by rw [HBL.out]; simp) (fun _ => ⟨rfl, HA.out.elim fun ad e => ⟨ad, e, fun j v hj => cell_ext (bl_then Hb0.out Hb1.out) (HBS.out ad e j v hj)⟩⟩) (by simp [size_madeCells, HBL.out]) HBO.out _ _ Hb1.out (by simp) ?_; intro w2 hh2 hb2; obtain ⟨hc2, hf2, hd2, hg2, hs2⟩ := box2 hb2; have Hb2 := Lib.hid hb2; clear hb2 hc1 hf1 hd1 hg1 hs1))
  have Ho2 := Lib.hid (block_own (base := w.heap.size + 2) (g := w.heap.size + 1 + 1) (Nat.le_refl _) (xs := csB) (by have h : _ = _ := hh2; rw [splice_all _ _ (by rw [HBL.out]; simp [size_madeCells])] at h; exact h) HBL.out (by simp only [maxLen]; omega))
  clear hh2
  go_loopw [19] (fun i wr => ∃ k : Nat, k ≤ P.length ∧ i = .int .i64 k ∧ ∃ cs, Hid (wr.ownsRow (w.heap.size + 2) 37 1 (.slice (some ⟨w.heap.size + 1 + 1, 0, none⟩) B.length B.length) B.length cs) ∧ Hid (BlkCells (fun b => φ b ∧ b < w.heap.size) w cs (layTo B P (fun _ => true) k)) ∧ Hid (Below ((w.alloc (.cells #[.slice AB B.length cb, .slice AP P.length cp, .int .i64 f] 25)).alloc (.cells #[.slice none 0 0, .slice none 0 0, .int .i64 0] 25)).heap.size ((w.alloc (.cells #[.slice AB B.length cb, .slice AP P.length cp, .int .i64 f] 25)).alloc (.cells #[.slice none 0 0, .slice none 0 0, .int .i64 0] 25)) wr)) (fun i _ => P.length - (intOf i).toNat)
  case atStart => exact ⟨0, Nat.zero_le _, rfl, csB, Ho2.out, HBC.out, Hb2.out⟩
  case round =>
    obtain ⟨k, hk, rfl, cs, Ho, HBk, Hb⟩ := hrel
    clear hc2 hf2 hd2 hg2 hs2
    by_cases hlt : k < P.length
    · obtain ⟨b, off, rfl, hv0, A', c', hv1, hR⟩ := HP.out.some_ hlt
      have HR := Lib.hid hR
      replace hv0 := cell_ext (bl_then Hb0.out Hb) hv0
      replace hv1 := cell_ext (bl_then Hb0.out Hb) hv1
      obtain ⟨hat0, hat1⟩ := Hok.out k hlt
      obtain ⟨v0, hv2⟩ : ∃ v0, cs[P[k].1.toNat]? = some v0 := by
        obtain ⟨v, h1, _⟩ := HBk.2 P[k].1.toNat (by rw [layTo_length]; omega)
        exact ⟨v, h1⟩
      have hce := Ho.cellAt P[k].1.toNat (by omega)
      rw [hv2] at hce
      have hfe := Ho.frozenAt P[k].1.toNat
      have hgl : w.heap.size + 1 + 1 < wr.heap.size := blk_lt hce
      have hlo := (Ho.lt (w.heap.size + 1 + 1) rfl).2
      clear hv2 hR hlo
      go_wp2_with (go_at_call 45; refine (flush1_any _ _).mono ?_; rintro e w' ⟨rfl, rfl⟩)
      go_roundw
      case rel => exact ⟨k + 1, by omega, by go_num, _, (Ho.stored _ _).1.alloc _, by rw [layTo_succ hlt]; exact HBk.set _ HR.out, bl_alloc (bl_set Hb (by simp) _) _⟩
      case measure => simp [intOf]; omega
    · have hk' : k = P.length := by omega
      have HE := Lib.hid hk'
      clear hk'
      obtain ⟨hc2, hf2, hd2, hg2, hs2⟩ := box2 Hb
      go_wp2_with fail
      have hb := bl_set (bl_set (bl_set (bl_set (bl_set (bl_then Hb0.out Hb) (p := ⟨w.heap.size, 0, none⟩) (Nat.le_refl _) (.slice (some ⟨w.heap.size + 1 + 1, 0, none⟩) B.length B.length)) (p := ⟨w.heap.size, 1, none⟩) (Nat.le_refl _) (.slice none 0 0)) (p := ⟨w.heap.size + 1, 0, none⟩) (Nat.le_succ _) (.slice (some ⟨w.heap.size + 1 + 1, 0, none⟩) B.length B.length)) (p := ⟨w.heap.size + 1, 1, none⟩) (Nat.le_succ _) (.slice none 0 0)) (p := ⟨w.heap.size + 1, 2, none⟩) (Nat.le_succ _) (.int .i64 f)
      have ho := ownsRow_setCell_below (ownsRow_setCell_below (ownsRow_setCell_below (ownsRow_setCell_below (ownsRow_setCell_below Ho (a := ⟨w.heap.size, 0, none⟩) (by simp) (.slice (some ⟨w.heap.size + 1 + 1, 0, none⟩) B.length B.length)) (a := ⟨w.heap.size, 1, none⟩) (by simp) (.slice none 0 0)) (a := ⟨w.heap.size + 1, 0, none⟩) (by simp) (.slice (some ⟨w.heap.size + 1 + 1, 0, none⟩) B.length B.length)) (a := ⟨w.heap.size + 1, 1, none⟩) (by simp) (.slice none 0 0)) (a := ⟨w.heap.size + 1, 2, none⟩) (by simp) (.int .i64 f)
      refine bodyPost_ret (v := .agg #[.slice (some ⟨w.heap.size + 1 + 1, 0, none⟩) B.length B.length, .slice none 0 0, .int .i64 f]) (by simp [results, Try.results44, go_sem, hd2]) rfl ⟨⟨_, rfl, some ⟨w.heap.size + 1 + 1, 0, none⟩, B.length, none, 0, ?_, Nat.le_refl _, fun _ => rfl, ?_, .inl rfl⟩, hb⟩
      · rw [layTo_length]; rfl
      · rw [← HE.out]
        exact rbbf_own ho ((HBk.kept (Kept.below _ hb)).mono fun _ h => .inl h.1) (.inr (by omega))
end Go.Proofs.Ytkfalgdhpojejaa
