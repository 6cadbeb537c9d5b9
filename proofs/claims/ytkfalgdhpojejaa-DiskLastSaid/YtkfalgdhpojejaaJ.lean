import Derived.Test.YtkfalgdhpojejaaI
namespace Go.Proofs.Ytkfalgdhpojejaa
open Go.RowKit

/-- 'append(out, src...)', out the call's own, src nil or not. -/
theorem append_any {P : Program} (w : World) {ops : Array Oper} {rest : List Oper} {o : Oper} {a : Act} {Q : Exit → Act → World → Prop} (hgd : o.guard = none) (s x : Operand) (t : TypeId)
    (ho : o.op = .call { callee := .builtin .append, args := #[s, x], argTypes := #[t, t] })
    (base : Nat) (e : TypeId) (i : TypeInfo) (z : Value) (size bytes : Nat) (ht : P.underlying t = some (.slice e)) (hi : P.info? e = some i) (hz : i.zero = some z)
    (hsize : i.size = size) (hby : i.bytes = bytes) (hzs : z.cells.size = size) (hsz : 0 < size)
    (v : Value) (n : Nat) (xs : List Value) (hs : a.eval s = v) (hown : w.ownsRow base e size v n xs)
    (A : Option Addr) (m c : Nat) (news : List Value) (hx : a.eval x = .slice A m c) (hnone : A = none → m = 0 ∧ c = 0) (hl : news.length = m * size) (hnews : ∀ ad, A = some ad → ∀ j u, news[j]? = some u → w.cell? (ad.add j) = some u) (h1 : ∀ u ∈ news, u.oneCell' = true)
    (h63 : n + m ≤ maxLen) (hbytes : (n + m) * bytes ≤ 140737488355328) (hbase : base ≤ w.heap.size)
    (h : ∀ v' w', w'.ownsRow base e size v' (n + m) (xs ++ news) → w.grownBy w' v.ownBlock → wpList P ops Q rest (a.put o.dst v') w') : wpList P ops Q (o :: rest) a w := by
  cases A with
  | some ad => exact wpList_append_own w hgd s x t ho base e i z size bytes ht hi hz hsize hby hzs hsz v n xs hs hown ad m c news hx hl (hnews ad rfl) h1 h63 hbytes hbase (fun v' w' h2 h3 _ => h v' w' h2 h3)
  | none =>
    obtain ⟨rfl, rfl⟩ := hnone rfl
    obtain rfl : news = [] := List.eq_nil_of_length_eq_zero (by simpa using hl)
    exact wpList_append_own_none hgd s x t ho base e i size ht hi v n xs hs hown hx (h v w (by simpa using hown) (World.grownBy.refl w _))

theorem own_empty (W : World) (n : Nat) (hn : n = W.heap.size) (t : TypeId) (size : Nat) : (W.alloc (.cells #[] t)).ownsRow n t size (.slice (some ⟨n, 0, none⟩) 0 0) 0 [] := by
  subst hn
  exact World.ownsRow_lit (base := W.heap.size) W #[] 0 (Nat.le_refl _) (by simp [maxLen]) (by simp)
theorem own_base {w : World} {base : Nat} {e : TypeId} {size n : Nat} {v : Value} {xs : List Value} (h : w.ownsRow base e size v n xs) {m : Nat} (hm : m ≤ base) : ∀ k, v.ownBlock = some k → m ≤ k :=
  fun k hk => Nat.le_trans hm (h.lt k hk).1

set_option maxHeartbeats 1000000 in
theorem rwrite_any (φ : Nat → Prop) (AB : Option Addr) (cb : Nat) (AP : Option Addr) (cp : Nat) (f at_ : Int) (A : Option Addr) (c : Nat) (bs : List UInt8) (w : World) (B : List (List UInt8)) (P : List PutD) (hB : RBBF φ w AB B) (hP : RPF φ w AP P) (hcp : P.length ≤ cp) (hnP : AP = none → cp = 0) (hlP : P.length ≤ 1000000) (hR : RBF φ w A bs) (hlc : bs.length ≤ c) (hl : bs.length ≤ 140737488351232) (hf : -9223372036854775808 ≤ f) (hf' : f ≤ 9223372036854775807) :
    Calls Try.prog 24 #[.agg #[.slice AB B.length cb, .slice AP P.length cp, .int .i64 f], .int .i64 at_, .slice A bs.length c] w fun e w' =>
      (∃ v, e = .returned (.tuple #[v, .int .i64 (writeE B f at_ bs)]) ∧ VD (fun b => φ b ∨ w.heap.size ≤ b) w' v B (writeP P (writeE B f at_ bs) at_ bs) (writeF f (writeE B f at_ bs))) ∧ Below w.heap.size w w' := by
  have HB := Lib.hid (hB.low.mono (Aw.low (s := w.heap.size) (k := 2)))
  have HP := Lib.hid (hP.low.mono (Aw.low (s := w.heap.size) (k := 2)))
  have HR := Lib.hid (hR.low.mono (Aw.low (s := w.heap.size) (k := 2)))
  have Hcp := Lib.hid hcp
  have Hnp := Lib.hid hnP
  have Hb0 := Lib.hid (bl_alloc (bl_alloc (Below.refl w.heap.size w) (.cells #[.slice AB B.length cb, .slice AP P.length cp, .int .i64 f] 25)) (.cells #[.slice none 0 0, .slice none 0 0, .int .i64 0] 25))
  by_cases h0 : at_ < 0
  · have He : Hid (writeE B f at_ bs = 1) := by show _ = _; unfold writeE; rw [if_neg (by omega)]
    rw [He.out]
    clear hB hP hR hcp hnP
    go_enter Try.func24, Try.ntmps24
    go_wp2_with fail
    exact bodyPost_ret (v := .tuple #[.agg #[.slice AB B.length cb, .slice AP P.length cp, .int .i64 f], .int .i64 1]) (by simp [results, Try.results24, go_sem]) rfl ⟨⟨_, rfl, AB, cb, AP, cp, rfl, Hcp.out, Hnp.out, (HB.out.kept (Kept.below _ (bl_alloc (bl_alloc (Below.refl w.heap.size w) _) _))).mono Aw.out, (HP.out.kept (Kept.below _ (bl_alloc (bl_alloc (Below.refl w.heap.size w) _) _))).mono Aw.out⟩, bl_alloc (bl_alloc (Below.refl w.heap.size w) _) _⟩
  · by_cases h1 : (B.length : Int) ≤ at_
    · have He : Hid (writeE B f at_ bs = 1) := by show _ = _; unfold writeE; rw [if_neg (by omega)]
      rw [He.out]
      clear hB hP hR hcp hnP
      go_enter Try.func24, Try.ntmps24
      go_wp2_with fail
      exact bodyPost_ret (v := .tuple #[.agg #[.slice AB B.length cb, .slice AP P.length cp, .int .i64 f], .int .i64 1]) (by simp [results, Try.results24, go_sem]) rfl ⟨⟨_, rfl, AB, cb, AP, cp, rfl, Hcp.out, Hnp.out, (HB.out.kept (Kept.below _ (bl_alloc (bl_alloc (Below.refl w.heap.size w) _) _))).mono Aw.out, (HP.out.kept (Kept.below _ (bl_alloc (bl_alloc (Below.refl w.heap.size w) _) _))).mono Aw.out⟩, bl_alloc (bl_alloc (Below.refl w.heap.size w) _) _⟩
    · cases h2 : ((bs.length : Int) != 64)
      case' true =>
        have He : Hid (writeE B f at_ bs = 1) := by show _ = _; unfold writeE; rw [if_pos (by omega), if_neg (fun e => by rw [e] at h2; simp at h2)]
        rw [He.out]
        clear hB hP hR hcp hnP
        go_enter Try.func24, Try.ntmps24
        go_wp2_with fail
        exact bodyPost_ret (v := .tuple #[.agg #[.slice AB B.length cb, .slice AP P.length cp, .int .i64 f], .int .i64 1]) (by simp [results, Try.results24, go_sem]) rfl ⟨⟨_, rfl, AB, cb, AP, cp, rfl, Hcp.out, Hnp.out, (HB.out.kept (Kept.below _ (bl_alloc (bl_alloc (Below.refl w.heap.size w) _) _))).mono Aw.out, (HP.out.kept (Kept.below _ (bl_alloc (bl_alloc (Below.refl w.heap.size w) _) _))).mono Aw.out⟩, bl_alloc (bl_alloc (Below.refl w.heap.size w) _) _⟩
      case' false =>
        have h2' : bs.length = 64 := by simp at h2; omega
        cases h3 : f == 0
        case' true =>
          have He : Hid (writeE B f at_ bs = 13) := by show _ = _; unfold writeE; rw [if_pos (by omega), if_pos h2', if_pos (by simpa using h3)]
          rw [He.out]
          clear hB hP hR hcp hnP h2'
          go_enter Try.func24, Try.ntmps24
          go_wp2_with fail
          exact bodyPost_ret (v := .tuple #[.agg #[.slice AB B.length cb, .slice AP P.length cp, .int .i64 f], .int .i64 13]) (by simp [results, Try.results24, go_sem]) rfl ⟨⟨_, rfl, AB, cb, AP, cp, rfl, Hcp.out, Hnp.out, (HB.out.kept (Kept.below _ (bl_alloc (bl_alloc (Below.refl w.heap.size w) _) _))).mono Aw.out, (HP.out.kept (Kept.below _ (bl_alloc (bl_alloc (Below.refl w.heap.size w) _) _))).mono Aw.out⟩, bl_alloc (bl_alloc (Below.refl w.heap.size w) _) _⟩
        case' false =>
          have He : Hid (writeE B f at_ bs = 0) := by show _ = _; unfold writeE; rw [if_pos (by omega), if_pos h2', if_neg (by simpa using h3)]
          rw [He.out]
          have HN : Hid (AP = none → P.length = 0 ∧ cp = 0) := fun h => by have := hnP h; omega
          obtain ⟨cs, hpc, hcs⟩ := hP.cells
          have HPC := Lib.hid (hpc.low.mono (Aw.low (s := w.heap.size) (k := 2)))
          have HL := Lib.hid hpc.1
          have HCS := Lib.hid hcs
          have HO := Lib.hid hpc.oneCell
          clear h2' hB hP hR hcp hnP hpc hcs
          obtain ⟨i0, hi, hz0, hz1, hz2⟩ := info_parts info55
          by_cases h5 : 0 < f
          · go_enter Try.func24, Try.ntmps24
            go_wp2_with (first | (at_builtin; refine append_any _ rfl (.tmp 27) (.tmp 29) 23 rfl (w.heap.size + 2) 55 i0 (.agg #[.int .i64 0, .slice none 0 0]) 2 32 Try.underlying23 hi hz0 hz1 hz2 rfl (by decide) _ 0 [] rfl (own_empty _ _ (by simp) 55 2) AP P.length cp cs rfl HN.out HL.out (fun a ha j u hu => cell_ext (bl_alloc Hb0.out _) (HCS.out a ha j u hu)) HO.out (by simp only [maxLen]; omega) (by omega) (by simp) ?_; intro v1 w1 hown1 hgrow1; simp only [Nat.zero_add, List.nil_append] at hown1; have hb := bl_grown (bl_alloc (Below.refl _ _) _) hgrow1 (fun k hk => by cases hk; simp); obtain ⟨hc1, hf1, hd1, hg1, hs1⟩ := box2 hb; have Hb1 := Lib.hid hb; have Ho1 := Lib.hid hown1; clear hb hgrow1 hown1) | (at_builtin; refine append_any _ rfl (.tmp 30) (.tmp 34) 23 rfl (w.heap.size + 2) 55 i0 (.agg #[.int .i64 0, .slice none 0 0]) 2 32 Try.underlying23 hi hz0 hz1 hz2 rfl (by decide) v1 P.length cs rfl (Ho1.out.alloc _) (some ⟨w1.heap.size, 0, none⟩) 1 1 [.int .i64 at_, .slice A bs.length c] rfl (fun h => by cases h) rfl (fun a ha => by cases ha; exact two_new _ _ _ _) (by simp [Value.oneCell']) (by simp only [maxLen]; omega) (by omega) (by simp; omega) ?_; intro v2 w2 hown2 hgrow2; have hb2 := bl_grown (bl_alloc Hb1.out (.cells #[.int .i64 at_, .slice A bs.length c] 55)) hgrow2 (own_base Ho1.out (by simp)); obtain ⟨A4, c4, rfl, hl5, hn5, hR5⟩ := rp_own (φ := Aw φ w.heap.size 2) hown2 ((HPC.out.kept (Kept.below _ (bl_then Hb0.out hb2))).snoc (bs := bs) (VBF.kept ⟨A, c, rfl, hlc, hl, HR.out⟩ (Kept.below _ (bl_then Hb0.out hb2)))) (Aw.high (Nat.le_refl _)); have HR5 := Lib.hid hR5; have Hn5 := Lib.hid hn5; obtain ⟨hc4, hf4, hd4, hg4, hs4⟩ := box2 hb2; have Hb4 := Lib.hid hb2; clear hb2 hgrow2 hown2 hR5 hn5 hc1 hf1 hd1 hg1 hs1))
            have hb := bl_set (bl_set (bl_set (bl_set (bl_set (bl_then Hb0.out Hb4.out) (p := ⟨w.heap.size, 1, none⟩) (Nat.le_refl _) (.slice A4 (P.length + 1) c4)) (p := ⟨w.heap.size, 2, none⟩) (Nat.le_refl _) (.int .i64 (f - 1))) (p := ⟨w.heap.size + 1, 0, none⟩) (Nat.le_succ _) (.slice AB B.length cb)) (p := ⟨w.heap.size + 1, 1, none⟩) (Nat.le_succ _) (.slice A4 (P.length + 1) c4)) (p := ⟨w.heap.size + 1, 2, none⟩) (Nat.le_succ _) (.int .i64 (f - 1))
            have hk := Kept.set (Kept.set (Kept.set (Kept.set (Kept.set (Kept.refl (Aw φ w.heap.size 2) w2) (p := ⟨w.heap.size, 1, none⟩) (Aw.no0 (by omega)) (.slice A4 (P.length + 1) c4)) (p := ⟨w.heap.size, 2, none⟩) (Aw.no0 (by omega)) (.int .i64 (f - 1))) (p := ⟨w.heap.size + 1, 0, none⟩) (Aw.no (by omega)) (.slice AB B.length cb)) (p := ⟨w.heap.size + 1, 1, none⟩) (Aw.no (by omega)) (.slice A4 (P.length + 1) c4)) (p := ⟨w.heap.size + 1, 2, none⟩) (Aw.no (by omega)) (.int .i64 (f - 1))
            refine bodyPost_ret (v := .tuple #[.agg #[.slice AB B.length cb, .slice A4 (P.length + 1) c4, .int .i64 (f - 1)], .int .i64 0]) (by simp [results, Try.results24, go_sem, hd4]) rfl ⟨⟨_, rfl, AB, cb, A4, c4, ?_, ?_, Hn5.out, (HB.out.kept (Kept.below _ hb)).mono Aw.out, ?_⟩, hb⟩
            · simp [writeP, writeF]; omega
            · simpa [writeP] using hl5
            · simpa [writeP] using (HR5.out.kept hk).mono Aw.out
          · go_enter Try.func24, Try.ntmps24
            go_wp2_with (first | (at_builtin; refine append_any _ rfl (.tmp 27) (.tmp 29) 23 rfl (w.heap.size + 2) 55 i0 (.agg #[.int .i64 0, .slice none 0 0]) 2 32 Try.underlying23 hi hz0 hz1 hz2 rfl (by decide) _ 0 [] rfl (own_empty _ _ (by simp) 55 2) AP P.length cp cs rfl HN.out HL.out (fun a ha j u hu => cell_ext (bl_alloc Hb0.out _) (HCS.out a ha j u hu)) HO.out (by simp only [maxLen]; omega) (by omega) (by simp) ?_; intro v1 w1 hown1 hgrow1; simp only [Nat.zero_add, List.nil_append] at hown1; have hb := bl_grown (bl_alloc (Below.refl _ _) _) hgrow1 (fun k hk => by cases hk; simp); obtain ⟨hc1, hf1, hd1, hg1, hs1⟩ := box2 hb; have Hb1 := Lib.hid hb; have Ho1 := Lib.hid hown1; clear hb hgrow1 hown1) | (at_builtin; refine append_any _ rfl (.tmp 30) (.tmp 34) 23 rfl (w.heap.size + 2) 55 i0 (.agg #[.int .i64 0, .slice none 0 0]) 2 32 Try.underlying23 hi hz0 hz1 hz2 rfl (by decide) v1 P.length cs rfl (Ho1.out.alloc _) (some ⟨w1.heap.size, 0, none⟩) 1 1 [.int .i64 at_, .slice A bs.length c] rfl (fun h => by cases h) rfl (fun a ha => by cases ha; exact two_new _ _ _ _) (by simp [Value.oneCell']) (by simp only [maxLen]; omega) (by omega) (by simp; omega) ?_; intro v2 w2 hown2 hgrow2; have hb2 := bl_grown (bl_alloc Hb1.out (.cells #[.int .i64 at_, .slice A bs.length c] 55)) hgrow2 (own_base Ho1.out (by simp)); obtain ⟨A4, c4, rfl, hl5, hn5, hR5⟩ := rp_own (φ := Aw φ w.heap.size 2) hown2 ((HPC.out.kept (Kept.below _ (bl_then Hb0.out hb2))).snoc (bs := bs) (VBF.kept ⟨A, c, rfl, hlc, hl, HR.out⟩ (Kept.below _ (bl_then Hb0.out hb2)))) (Aw.high (Nat.le_refl _)); have HR5 := Lib.hid hR5; have Hn5 := Lib.hid hn5; obtain ⟨hc4, hf4, hd4, hg4, hs4⟩ := box2 hb2; have Hb4 := Lib.hid hb2; clear hb2 hgrow2 hown2 hR5 hn5 hc1 hf1 hd1 hg1 hs1))
            have hb := bl_set (bl_set (bl_set (bl_set (bl_then Hb0.out Hb4.out) (p := ⟨w.heap.size, 1, none⟩) (Nat.le_refl _) (.slice A4 (P.length + 1) c4)) (p := ⟨w.heap.size + 1, 0, none⟩) (Nat.le_succ _) (.slice AB B.length cb)) (p := ⟨w.heap.size + 1, 1, none⟩) (Nat.le_succ _) (.slice A4 (P.length + 1) c4)) (p := ⟨w.heap.size + 1, 2, none⟩) (Nat.le_succ _) (.int .i64 f)
            have hk := Kept.set (Kept.set (Kept.set (Kept.set (Kept.refl (Aw φ w.heap.size 2) w2) (p := ⟨w.heap.size, 1, none⟩) (Aw.no0 (by omega)) (.slice A4 (P.length + 1) c4)) (p := ⟨w.heap.size + 1, 0, none⟩) (Aw.no (by omega)) (.slice AB B.length cb)) (p := ⟨w.heap.size + 1, 1, none⟩) (Aw.no (by omega)) (.slice A4 (P.length + 1) c4)) (p := ⟨w.heap.size + 1, 2, none⟩) (Aw.no (by omega)) (.int .i64 f)
            refine bodyPost_ret (v := .tuple #[.agg #[.slice AB B.length cb, .slice A4 (P.length + 1) c4, .int .i64 f], .int .i64 0]) (by simp [results, Try.results24, go_sem, hd4]) rfl ⟨⟨_, rfl, AB, cb, A4, c4, ?_, ?_, Hn5.out, (HB.out.kept (Kept.below _ hb)).mono Aw.out, ?_⟩, hb⟩
            · simp [writeP, writeF]; omega
            · simpa [writeP] using hl5
            · simpa [writeP] using (HR5.out.kept hk).mono Aw.out
end Go.Proofs.Ytkfalgdhpojejaa
