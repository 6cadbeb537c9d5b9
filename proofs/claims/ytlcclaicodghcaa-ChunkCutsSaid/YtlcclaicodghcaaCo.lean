import Derived.Test.YtlcclaicodghcaaCm
import Derived.Test.YtlcclaicodghcaaCh
import Derived.Test.YtlcclaicodghcaaWLast
namespace Go.Proofs.Ytlcclaicodghcaa
open Go.RowKit
open Go.Proofs.YtlcclaicodghcaaW.PrintLast

/-- 'append(full, src..)', full without room: a row of its own. -/
theorem append_full {P : Program} (w : World) {ops : Array Oper} {rest : List Oper} {o : Oper} {a : Act} {Q : Exit → Act → World → Prop} (hgd : o.guard = none) (s x : Operand) (t : TypeId)
    (ho : o.op = .call { callee := .builtin .append, args := #[s, x], argTypes := #[t, t] })
    (i : TypeInfo) (ht : P.underlying t = some (.slice 5)) (hi : P.info? 5 = some i) (hz : i.zero = some (.int .u8 0)) (hsize : i.size = 1) (hby : i.bytes = 1)
    (ad : Addr) (bs : List UInt8) (n : Nat) (hn : bs.length = n) (hs : a.eval s = .slice (some ad) n n) (hok0 : OkB w (some ad) n bs)
    (ad' : Addr) (c' : Nat) (x' : List UInt8) (m : Nat) (hm : x'.length = m) (hx : a.eval x = .slice (some ad') m c') (hok : OkB w (some ad') c' x') (hpos : 0 < m)
    (h63 : bs.length + x'.length ≤ 140737488351232)
    (h : ∀ A2 c2 L w', Hid (L = bs ++ x') → Hid (OwnB w' w.heap.size A2 c2 L) → Below w.heap.size w w' → wpList P ops Q rest (a.put o.dst (.slice A2 L.length c2)) w') : wpList P ops Q (o :: rest) a w := by
  subst hn hm
  refine wpList_append_grows w hgd s x t ho 5 i (.int .u8 0) 1 1 ht hi hz hsize hby rfl (by decide) (some ad) bs.length bs.length (bs.map encB) hs (fun e => by cases e) (by simp) (fun b hb => by cases hb; exact hok0.1.news) ad' x'.length c' (x'.map encB) hx (by simp) hok.1.news (encB_one x') (by omega) (by simp only [maxLen]; omega) (by omega) (fun v' w' h1 h2 => ?_)
  rw [← List.map_append] at h1
  obtain ⟨A2, c2, rfl, h3⟩ := OwnB.of h1 (by rw [List.length_append]; exact h63)
  exact h A2 c2 _ w' rfl h3 (bl_grown (Below.refl _ _) h2 (fun k hk => by cases hk))
/-- 'append(out, src..)' as one step of a region. -/
theorem step_appendB {P : Program} {ops : Array Oper} {oi : Oper} {Nd : Option Tmp} {a : Act} {w : World} {K : Act → World → Prop} {Q : Exit → Act → World → Prop} (hw : Region.wanted oi (yielded ops a.tmps) = true) (hN : oi.dst = Nd) (s x : Operand) (t : TypeId)
    (ho : oi.op = .call { callee := .builtin .append, args := #[s, x], argTypes := #[t, t] })
    (base : Nat) (i : TypeInfo) (ht : P.underlying t = some (.slice 5)) (hi : P.info? 5 = some i) (hz : i.zero = some (.int .u8 0)) (hsize : i.size = 1) (hby : i.bytes = 1)
    (A : Option Addr) (c : Nat) (bs : List UInt8) (hs : a.eval s = .slice A bs.length c) (hown : OwnB w base A c bs)
    (A' : Option Addr) (c' : Nat) (x' : List UInt8) (hx : a.eval x = .slice A' x'.length c') (hok : OkB w A' c' x')
    (h63 : bs.length + x'.length ≤ 140737488351232) (hbase : base ≤ w.heap.size)
    (h : ∀ A2 c2 L w', Hid (L = bs ++ x') → Hid (OwnB w' base A2 c2 L) → w.grownBy w' (Value.slice A bs.length c).ownBlock → K (a.put Nd (.slice A2 L.length c2)) w') :
    if Region.wanted oi (yielded ops a.tmps) = true then Oper.wp P oi a w K Q else K (a.put Nd undef) w := by
  cases A' with
  | some ad =>
    obtain ⟨v', w', hrun, h2, h3, _⟩ := run_append_own (P := P) w base t oi.type 5 i _ 1 1 ht hi hz hsize hby rfl (by decide) _ _ _ hown.1 ad x'.length c' (x'.map encB) (by simp) hok.1.news (encB_one x') (by simp only [maxLen]; omega) (by omega) hbase
    rw [← List.map_append] at h2
    obtain ⟨A2, c2, rfl, h5⟩ := OwnB.of h2 (by rw [List.length_append]; exact h63)
    exact value_ hw hN (by simp [execOp, ho, resolve, invoke, builtin, hs, hx, hrun, Result.andThen]) (h A2 c2 _ w' rfl h5 h3)
  | none =>
    obtain rfl := hok.1.none_
    obtain rfl := hok.2.2.2 rfl
    have hrun := run_append_owned_none (P := P) w base t oi.type 5 i 1 ht hi _ _ _ hown.1
    simp only [List.length_nil] at hx
    exact value_ hw hN (by simp [execOp, ho, resolve, invoke, builtin, hs, hx, hrun, Result.andThen]) (h A c bs w (by show _ = _; simp) hown (World.grownBy.refl w _))
theorem num_one (x : UInt8) : numL (x.toNat : Int) 1 = [x] := by
  have h : x.toNat < 256 := x.toNat_lt
  unfold numL
  rw [if_pos ⟨by omega, by omega, by rw [show (1 : Int).toNat = 1 from rfl, Nat.pow_one]; omega⟩, Int.toNat_natCast]
  simp [numB]
theorem five_ext {w1 X : World} {B : Nat} {a0 a1 a2 a3 a4 : Value} (hb : Below w1.heap.size w1 X)
    (h : w1.cell? ⟨B, 0, none⟩ = some a0 ∧ w1.cell? ⟨B, 1, none⟩ = some a1 ∧ w1.cell? ⟨B, 2, none⟩ = some a2 ∧ w1.cell? ⟨B, 3, none⟩ = some a3 ∧ w1.cell? ⟨B, 4, none⟩ = some a4) :
    X.cell? ⟨B, 0, none⟩ = some a0 ∧ X.cell? ⟨B, 1, none⟩ = some a1 ∧ X.cell? ⟨B, 2, none⟩ = some a2 ∧ X.cell? ⟨B, 3, none⟩ = some a3 ∧ X.cell? ⟨B, 4, none⟩ = some a4 :=
  ⟨cell_ext hb h.1, cell_ext hb h.2.1, cell_ext hb h.2.2.1, cell_ext hb h.2.2.2.1, cell_ext hb h.2.2.2.2⟩
theorem rwrite_bad (v : Int) (r : Int) (AS : Option Addr) (cS : Nat) (S : List UInt8) (AN : Option Addr) (cN : Nat) (N : List UInt8) (AT : Option Addr) (cT : Nat) (T : List SectD) (w : World) (hH : OkH w AS cS S AN cN N AT T) (hR : rightH v S r N T = false) :
    Calls Try.prog 45 #[.agg #[.int .i64 v, .slice AS S.length cS, .int .i64 r, .slice AN N.length cN, .slice AT T.length cT]] w fun e w' => e = .returned (.tuple #[.slice none 0 0, .int .i64 1]) ∧ Below w.heap.size w w' := by
  have g0 := bl_alloc (Below.refl _ w) (.cells #[.int .i64 v, .slice AS S.length cS, .int .i64 r, .slice AN N.length cN, .slice AT T.length cT] 75)
  replace hH := Lib.hid (hH.ext g0)
  have G := Lib.hid g0
  replace hR := Lib.hid hR
  clear g0
  go_enter Try.func45, Try.ntmps45
  go_wp2_with fail
  refine (rright_any v r AS cS S AN cN N AT cT T _ hH.out false hR.out).mono ?_; rintro e w1 ⟨rfl, hb1⟩
  go_wp2_with fail
  go_ret2
  exact ⟨rfl, bl_then G.out hb1⟩

set_option maxRecDepth 20000 in
set_option maxHeartbeats 4000000 in
theorem rwrite_any (x : UInt8) (r : Int) (AS : Option Addr) (cS : Nat) (S : List UInt8) (AN : Option Addr) (cN : Nat) (N : List UInt8) (AT : Option Addr) (cT : Nat) (T : List SectD) (w : World) (hH : OkH w AS cS S AN cN N AT T) (hR : rightH (x.toNat : Int) S r N T = true) (L2 L3 : List UInt8) (hL2 : numL r 4 = L2) (hL3 : numL T.length 2 = L3) :
    Calls Try.prog 45 #[.agg #[.int .i64 (x.toNat : Int), .slice AS S.length cS, .int .i64 r, .slice AN N.length cN, .slice AT T.length cT]] w fun e w' => (∃ A c, e = .returned (.tuple #[.slice A (headB (x.toNat : Int) S r N T).length c, .int .i64 0]) ∧ OwnB w' w.heap.size A c (headB (x.toNat : Int) S r N T)) ∧ Below w.heap.size w w' := by
  have g0 := bl_alloc (Below.refl _ w) (.cells #[.int .i64 (x.toNat : Int), .slice AS S.length cS, .int .i64 r, .slice AN N.length cN, .slice AT T.length cT] 75)
  replace hH := Lib.hid (hH.ext g0)
  have G := Lib.hid g0
  have hr := rightH_iff.1 hR
  have v1 := Lib.hid hr
  have hx9 : (x.toNat : Int) % 256 = (x.toNat : Int) := by have := hr.1; have := hr.2.1; omega
  have hxw : IntKind.u8.wrap (x.toNat : Int) = (x.toNat : Int) := hx9
  have T9 : T.length ≤ 64 := hr.2.2.2.2.2.2.1
  have hL1 := Lib.hid (show numL (x.toNat : Int) 1 = [x] from num_one x)
  have d2 := numL_le7 r 4; have d3 := numL_le7 T.length 2
  rw [hL2] at d2; rw [hL3] at d3
  replace hL2 := Lib.hid hL2; replace hL3 := Lib.hid hL3
  replace hR := Lib.hid hR
  obtain ⟨i0, hi, hz0, hz1, hz2⟩ := info_parts info5
  clear g0 hr
  go_enter Try.func45, Try.ntmps45
  go_wp2_with fail
  refine (rright_any (x.toNat : Int) r AS cS S AN cN N AT cT T _ hH.out true hR.out).mono ?_; rintro e w1 ⟨rfl, hb1⟩
  have x5 : w1.cell? ⟨w.heap.size, 0, none⟩ = some (.int .i64 (x.toNat : Int)) ∧ w1.cell? ⟨w.heap.size, 1, none⟩ = some (.slice AS S.length cS) ∧ w1.cell? ⟨w.heap.size, 2, none⟩ = some (.int .i64 r) ∧ w1.cell? ⟨w.heap.size, 3, none⟩ = some (.slice AN N.length cN) ∧ w1.cell? ⟨w.heap.size, 4, none⟩ = some (.slice AT T.length cT) :=
    ⟨box_at hb1 0, box_at hb1 1, box_at hb1 2, box_at hb1 3, box_at hb1 4⟩
  have h1 := Lib.hid (hH.out.ext hb1)
  have G1 := Lib.hid (bl_then G.out hb1)
  clear hb1
  obtain ⟨mk, hmk⟩ : ∃ mk : List UInt8, mk = [80, 89, 88] := ⟨_, rfl⟩
  have hmk3 := Lib.hid (show mk.length = 3 by rw [hmk]; rfl)
  replace hmk := Lib.hid hmk
  have hS0 : OkB w1 AS cS S := h1.out.1
  have hN0 : OkB w1 AN cN N := h1.out.2.1
  have hT0 : RT w1 AT T := h1.out.2.2.1
  have hcv : ∀ (g n c : Nat) (W : World), (convert 22 22 (.slice (some ⟨g, 0, none⟩) n c)).run Try.prog W = .ok (.slice (some ⟨g, 0, none⟩) n c) (markAt W g) := conv_run
  have b1 := bl_mark (bl_alloc (Below.refl w1.heap.size w1) (.cells #[.int .u8 80, .int .u8 89, .int .u8 88] 5)) (g := w1.heap.size) (Nat.le_refl _)
  have xm := (five_ext b1 x5).1
  have om : OkB (markAt (w1.alloc (.cells #[.int .u8 80, .int .u8 89, .int .u8 88] 5)) w1.heap.size) (some ⟨w1.heap.size, 0, none⟩) 3 mk := by rw [hmk.out]; exact (own_mark w1 _ rfl).ok.reads (Reads.mark (Reads.refl _) _)
  have hsz : (markAt (w1.alloc (.cells #[.int .u8 80, .int .u8 89, .int .u8 88] 5)) w1.heap.size).heap.size = w1.heap.size + 1 := by rw [mark_size]; simp
  replace hS0 := Lib.hid hS0; replace hN0 := Lib.hid hN0; replace hT0 := Lib.hid hT0
  replace x5 := Lib.hid x5
  replace b1 := Lib.hid b1
  have om2 := om.ext (bl_alloc (Below.refl _ _) (.cells #[.int .u8 (x.toNat : Int)] 5))
  have ox2 := (own_one (markAt (w1.alloc (.cells #[.int .u8 80, .int .u8 89, .int .u8 88] 5)) w1.heap.size) (w1.heap.size + 1) hsz.symm x).ok
  replace om2 := Lib.hid om2; replace ox2 := Lib.hid ox2; replace om := Lib.hid om
  have hbx := Lib.hid (bl_alloc b1.out (.cells #[.int .u8 (x.toNat : Int)] 5))
  go_wp2_with (at_builtin; refine append_full _ rfl (.tmp 14) (.tmp 18) 22 rfl i0 Try.underlying22 hi hz0 hz1 hz2 ⟨w1.heap.size, 0, none⟩ mk 3 hmk3.out rfl om2.out ⟨w1.heap.size + 1, 0, none⟩ 1 [x] 1 rfl rfl ox2.out (by decide) (by have := hmk3.out; simp only [List.length_singleton]; omega) ?_; intro Ao co Lo w2 hLo Ho hb2)
  have B0 := bl_then hbx.out hb2
  have Ho0 := Ho.out.base_le hbx.out.size
  clear hbx om2 ox2 om hsz xm b1 hb2 Ho
  have hLo9 : Lo.length = 4 := by rw [hLo.out, List.length_append, hmk3.out]; rfl
  have hp := Lib.hid hLo9
  have hLo8 : Lo.length ≤ 4 := by omega
  clear hLo9
  go_cut [5] (fun s5 wx => ∃ A c L, s5 = .slice A (List.length L) c ∧ Hid (L = mk ++ [x] ++ S ++ L2 ++ N) ∧ Hid (OwnB wx w1.heap.size A c L) ∧ Hid (Below w1.heap.size w1 wx))
  case first =>
    refine start_ (n := 12) (S := (fun W' => W'.cell? ⟨w.heap.size, 0, none⟩ = some (.int .i64 (x.toNat : Int)) ∧ W'.cell? ⟨w.heap.size, 1, none⟩ = some (.slice AS S.length cS) ∧ W'.cell? ⟨w.heap.size, 2, none⟩ = some (.int .i64 r) ∧ W'.cell? ⟨w.heap.size, 3, none⟩ = some (.slice AN N.length cN) ∧ W'.cell? ⟨w.heap.size, 4, none⟩ = some (.slice AT T.length cT))) (ds := []) #[false, false, false, false, false, false, false, false, false, false, false, false] (by kernel_rfl) rfl rfl (five_ext (bl_then B0 (bl_drew (Below.refl w2.heap.size w2))) x5.out) (fun hHeld => ?_)
    have B := bl_then B0 (bl_drew (Below.refl w2.heap.size w2))
    have o := Ho0.ext (bl_drew (Below.refl w2.heap.size w2))
    clear B0 Ho0
    generalize w2.drew = X0 at B o hHeld ⊢
    refine take_ (i := 0) (N := some 20) (v := ?_) (a' := ?_) #[true, false, false, false, false, false, false, false, false, false, false, false] rfl rfl (by kernel_rfl) (fun _ _ _ h => h) (Or.inl ⟨by rfl, ?_⟩) hHeld ?_ ?_
    rotate_left
    · rintro w' ⟨s0, s1, s2, s3, s4⟩
      go_simp
      try with_reducible rfl
    rotate_left
    · simp only [Act.put, List.setIfInBounds_toArray, List.set_cons_zero, List.set_cons_succ]
      rfl
    refine take_ (i := 1) (N := some 21) (v := ?_) (a' := ?_) #[true, true, false, false, false, false, false, false, false, false, false, false] rfl rfl (by kernel_rfl) (fun _ _ _ h => h) (Or.inl ⟨by rfl, ?_⟩) hHeld ?_ ?_
    rotate_left
    · rintro w' ⟨s0, s1, s2, s3, s4⟩
      go_simp
      try with_reducible rfl
    rotate_left
    · simp only [Act.put, List.setIfInBounds_toArray, List.set_cons_zero, List.set_cons_succ]
      rfl
    refine take_ (i := 4) (N := some 24) (v := ?_) (a' := ?_) #[true, true, false, false, true, false, false, false, false, false, false, false] rfl rfl (by kernel_rfl) (fun _ _ _ h => h) (Or.inl ⟨by rfl, ?_⟩) hHeld ?_ ?_
    rotate_left
    · rintro w' ⟨s0, s1, s2, s3, s4⟩
      go_simp
      try with_reducible rfl
    rotate_left
    · simp only [Act.put, List.setIfInBounds_toArray, List.set_cons_zero, List.set_cons_succ]
      rfl
    refine take_ (i := 8) (N := some 28) (v := ?_) (a' := ?_) #[true, true, false, false, true, false, false, false, true, false, false, false] rfl rfl (by kernel_rfl) (fun _ _ _ h => h) (Or.inl ⟨by rfl, ?_⟩) hHeld ?_ ?_
    rotate_left
    · rintro w' ⟨s0, s1, s2, s3, s4⟩
      go_simp
      try with_reducible rfl
    rotate_left
    · simp only [Act.put, List.setIfInBounds_toArray, List.set_cons_zero, List.set_cons_succ]
      rfl
    refine take_ (i := 2) (N := some 22) (v := ?_) (a' := ?_) #[true, true, true, false, true, false, false, false, true, false, false, false] rfl rfl (by kernel_rfl) (fun _ _ _ h => h) (Or.inl ⟨by rfl, ?_⟩) hHeld ?_ ?_
    rotate_left
    · rintro w' ⟨s0, s1, s2, s3, s4⟩
      go_simp
      try with_reducible rfl
    rotate_left
    · simp only [Act.put, List.setIfInBounds_toArray, List.set_cons_zero, List.set_cons_succ]
      rfl
    refine take_ (i := 5) (N := some 25) (v := ?_) (a' := ?_) #[true, true, true, false, true, true, false, false, true, false, false, false] rfl rfl (by kernel_rfl) (fun _ _ _ h => h) (Or.inl ⟨by rfl, ?_⟩) hHeld ?_ ?_
    rotate_left
    · rintro w' ⟨s0, s1, s2, s3, s4⟩
      go_simp
      try with_reducible rfl
    rotate_left
    · simp only [Act.put, List.setIfInBounds_toArray, List.set_cons_zero, List.set_cons_succ]
      rfl
    refine take_ (i := 9) (N := some 29) (v := ?_) (a' := ?_) #[true, true, true, false, true, true, false, false, true, true, false, false] rfl rfl (by kernel_rfl) (fun _ _ _ h => h) (Or.inl ⟨by rfl, ?_⟩) hHeld ?_ ?_
    rotate_left
    · rintro w' ⟨s0, s1, s2, s3, s4⟩
      go_simp
      try with_reducible rfl
    rotate_left
    · simp only [Act.put, List.setIfInBounds_toArray, List.set_cons_zero, List.set_cons_succ]
      rfl
    refine one_ (i := 3) (N := some 23) #[true, true, true, true, true, true, false, false, true, true, false, false] rfl rfl (by kernel_rfl) (by decide) (fun K hK => ?_)
    refine step_appendB (by rfl) rfl (.tmp 20) (.tmp 22) 22 rfl w1.heap.size i0 Try.underlying22 hi hz0 hz1 hz2 Ao co Lo rfl o AS cS S rfl (hS0.out.ext B) (by have := hp.out; have := v1.out; omega) B.size ?_
    intro A1 c1 M1 Y1 hM1 O1 hg1
    replace B := bl_grown B hg1 (OwnB.low o (Nat.le_refl _))
    clear hg1
    have S' := five_ext B x5.out
    clear hHeld
    refine hK.out _ _ S' (fun hHeld => ?_)
    clear hK K S'
    refine norm_ (a' := ?_) ?_ ?_
    rotate_left
    · show Act.put _ (some 23) _ = _
      simp only [Act.put, List.setIfInBounds_toArray, List.set_cons_zero, List.set_cons_succ]
      rfl
    refine one_ (i := 6) (N := some 26) #[true, true, true, true, true, true, true, false, true, true, false, false] rfl rfl (by kernel_rfl) (by decide) (fun K hK => ?_)
    refine goes_ Try.func72 (by kernel_rfl) rfl #[.int .i64 r, .int .i64 4] (by rfl) rfl rfl (by simp only [List.map_toArray, List.map_cons, List.map_nil]; rfl) ?_
    with_reducible refine (c_rnumber r 4 L2 _ (by have := v1.out; omega) (by have := v1.out; omega) hL2.out).mono ?_
    rintro e Y2 ⟨⟨Ap, cp, rfl, op⟩, hb⟩
    refine ⟨_, rfl, ?_⟩
    have O1' := O1.out.ext hb
    have p := op.ok
    replace B := bl_then B hb
    clear op hb
    have S' := five_ext B x5.out
    clear hHeld
    refine hK.out _ _ S' (fun hHeld => ?_)
    clear hK K S'
    refine norm_ (a' := ?_) ?_ ?_
    rotate_left
    · show Act.put _ (some 26) _ = _
      simp only [Act.put, List.setIfInBounds_toArray, List.set_cons_zero, List.set_cons_succ]
      rfl
    refine one_ (i := 7) (N := some 27) #[true, true, true, true, true, true, true, true, true, true, false, false] rfl rfl (by kernel_rfl) (by decide) (fun K hK => ?_)
    refine step_appendB (by rfl) rfl (.tmp 23) (.tmp 26) 22 rfl w1.heap.size i0 Try.underlying22 hi hz0 hz1 hz2 A1 c1 M1 rfl O1' Ap cp L2 rfl p (by have := hp.out; have := v1.out; rw [hM1.out, List.length_append]; omega) B.size ?_
    intro A3 c3 M3 Y3 hM3 O3 hg3
    replace B := bl_grown B hg3 (OwnB.low O1' (Nat.le_refl _))
    clear hg3
    have S' := five_ext B x5.out
    clear hHeld
    refine hK.out _ _ S' (fun hHeld => ?_)
    clear hK K S'
    refine norm_ (a' := ?_) ?_ ?_
    rotate_left
    · show Act.put _ (some 27) _ = _
      simp only [Act.put, List.setIfInBounds_toArray, List.set_cons_zero, List.set_cons_succ]
      rfl
    refine one_ (i := 10) (N := some 30) #[true, true, true, true, true, true, true, true, true, true, true, false] rfl rfl (by kernel_rfl) (by decide) (fun K hK => ?_)
    refine step_appendB (by rfl) rfl (.tmp 27) (.tmp 29) 22 rfl w1.heap.size i0 Try.underlying22 hi hz0 hz1 hz2 A3 c3 M3 rfl O3.out AN cN N rfl (hN0.out.ext B) (by have := hp.out; have := v1.out; rw [hM3.out, List.length_append, hM1.out, List.length_append]; omega) B.size ?_
    intro A4 c4 M4 Y4 hM4 O4 hg4
    replace B := bl_grown B hg4 (OwnB.low O3.out (Nat.le_refl _))
    clear hg4
    have S' := five_ext B x5.out
    clear hHeld
    refine hK.out _ _ S' (fun hHeld => ?_)
    clear hK K S'
    refine norm_ (a' := ?_) ?_ ?_
    rotate_left
    · show Act.put _ (some 30) _ = _
      simp only [Act.put, List.setIfInBounds_toArray, List.set_cons_zero, List.set_cons_succ]
      rfl
    refine take_ (i := 11) (N := some 5) (v := ?_) (a' := ?_) #[true, true, true, true, true, true, true, true, true, true, true, true] rfl rfl (by kernel_rfl) (fun _ _ _ h => h) (Or.inl ⟨by rfl, ?_⟩) hHeld ?_ ?_
    rotate_left
    · rintro w' ⟨s0, s1, s2, s3, s4⟩
      go_simp
      try with_reducible rfl
    rotate_left
    · simp only [Act.put, List.setIfInBounds_toArray, List.set_cons_zero, List.set_cons_succ]
      rfl
    refine done_ (by kernel_rfl) ?_
    go_wp2_with fail
    go_meet
    exact ⟨A4, c4, M4, rfl, by show _ = _; rw [hM4.out, hM3.out, hM1.out, hLo.out], O4, B⟩
  case rest =>
    obtain ⟨A5, c5, L5, rfl, hL5, o5, B5⟩ := hcut
    have xc := (five_ext B5.out x5.out).2.2.2.2
    have l5 : L5.length ≤ 100 := by
      have h9 := hL5.out; have := v1.out; have := hmk3.out
      rw [h9]; simp only [List.length_append, List.length_singleton]; omega
    clear B0 Ho0 hp hLo8
    go_wp2_with fail
    refine (c_rnumber (T.length : Int) 2 L3 _ (by omega) (by omega) hL3.out).mono ?_; rintro e w3 ⟨⟨Aq, cq, rfl, oq⟩, hb3⟩
    have o6 := Lib.hid (o5.out.ext hb3)
    have q6 := Lib.hid oq.ok
    have B6 := Lib.hid (bl_then B5.out hb3)
    clear hb3 oq xc
    go_wp2_with (at_builtin; refine append_any _ rfl (.tmp 31) (.tmp 35) 22 rfl w1.heap.size i0 Try.underlying22 hi hz0 hz1 hz2 A5 c5 L5 rfl o6.out Aq cq L3 rfl q6.out (by omega) B6.out.size ?_; intro A7 c7 L7 w4 hL7 o7 hg7)
    have B7 := Lib.hid (bl_grown B6.out hg7 (OwnB.low o6.out (Nat.le_refl _)))
    have hLF : L7 = foreB (x.toNat : Int) S r N T.length := by rw [hL7.out, hL5.out, foreB, hL1.out, hL2.out, hL3.out, hmk.out]
    have l7 : L7.length ≤ 107 := by rw [hL7.out, List.length_append]; omega
    have HRt := Lib.hid v1.out.2.2.2.2.2.2.2
    replace hLF := Lib.hid hLF
    clear o6 q6 hg7 B6 B5 o5 hL5 l5 hL7 d2 d3
    go_loopw [5, 6] (fun o i wr => ∃ k : Nat, k ≤ T.length ∧ i = .int .i64 k ∧ (∃ Aa ca L, o = .slice Aa (List.length L) ca ∧ Hid (OwnB wr w1.heap.size Aa ca L) ∧ Hid (L = L7 ++ (T.take k).flatMap sectB)) ∧ Hid (Below w1.heap.size w1 wr)) (fun _ i _ => T.length - (intOf i).toNat)
    case atStart => exact ⟨0, Nat.zero_le _, rfl, ⟨A7, c7, L7, rfl, o7, by show _ = _; simp⟩, B7⟩
    case round =>
      obtain ⟨k, hk, rfl, ⟨Aa, ca, L, rfl, Ho, hL⟩, Hb⟩ := hrel
      have x4 := (five_ext Hb.out x5.out).2.2.2.2
      by_cases hp : k < T.length
      · obtain ⟨bk, off, hA, hcells⟩ := hT0.out.some_ hp
        subst hA
        obtain ⟨⟨Ax, cx, y0, ok1⟩, y1, y2⟩ := hcells k hp
        have hok := okS_iff.1 (right_ok HRt.out hp)
        have hss := Lib.hid (sects_succ hp)
        have hlen : L.length ≤ 107 + 300 * 64 := by
          rw [hL.out, List.length_append]
          have := sects_le (T := T.take k) (fun s hs => by
            obtain ⟨j, hj, rfl⟩ := List.mem_iff_getElem.1 hs
            rw [List.length_take] at hj
            rw [List.getElem_take]
            exact (okS_iff.1 (right_ok HRt.out (k := j) (by omega))).1)
          rw [List.length_take] at this
          omega
        obtain ⟨s, hs⟩ : ∃ s, T[k] = s := ⟨_, rfl⟩
        obtain ⟨id, ep, ln⟩ := s
        rw [hs] at y0 ok1 y1 y2 hok hss
        obtain ⟨M1, hM1⟩ : ∃ z, rowL id = z := ⟨_, rfl⟩
        obtain ⟨M2, hM2⟩ : ∃ z, numL ep 6 = z := ⟨_, rfl⟩
        obtain ⟨M3, hM3⟩ : ∃ z, numL ln 4 = z := ⟨_, rfl⟩
        have hse : L ++ M1 ++ M2 ++ M3 = L7 ++ (T.take (k + 1)).flatMap sectB := by
          rw [hss.out, hL.out, sectB, ← hM1, ← hM2, ← hM3]; simp only [List.append_assoc]
        have hse9 := sectB_le (s := (id, ep, ln)) hok.1
        have hm9 : M1.length + M2.length + M3.length ≤ 300 := by
          have e : (sectB (id, ep, ln)).length = M1.length + M2.length + M3.length := by rw [sectB, List.length_append, List.length_append, ← hM1, ← hM2, ← hM3]
          omega
        have hE := Lib.hid (rowE_ok (x := id) (by have h9 : id.length ≤ 255 := hok.1; omega))
        have q1 : -9223372036854775808 ≤ ep ∧ ep ≤ 9223372036854775807 := by have h2 : 0 ≤ ep := hok.2.1; have h3 : ep < 281474976710656 := hok.2.2.1; omega
        have q2 : -9223372036854775808 ≤ ln ∧ ln ≤ 9223372036854775807 := by have h2 : 1 ≤ ln := hok.2.2.2.1; have h3 : ln ≤ 1048576 := hok.2.2.2.2; omega
        have z0 := cell_ext Hb.out y0
        replace hok := Lib.hid hok; replace q1 := Lib.hid q1; replace q2 := Lib.hid q2
        replace hM1 := Lib.hid hM1; replace hM2 := Lib.hid hM2; replace hM3 := Lib.hid hM3; replace hse := Lib.hid hse
        replace y0 := Lib.hid y0; replace y1 := Lib.hid y1; replace y2 := Lib.hid y2; replace ok1 := Lib.hid ok1
        clear hs hss hcells hse9
        go_wp2_with fail
        refine (c_rrow Ax cx id 0 M1 _ (ok1.out.ext Hb.out) hE.out hM1.out).mono ?_; rintro e w5 ⟨⟨A8, c8, rfl, o8⟩, hb8⟩
        have oL := Lib.hid (Ho.out.ext hb8)
        have p8 := Lib.hid o8.ok
        have B8 := Lib.hid (bl_then Hb.out hb8)
        clear hb8 o8 z0 x4
        go_wp2_with fail
        have B := bl_then B8.out (bl_drew (Below.refl w5.heap.size w5))
        have o := oL.out.ext (bl_drew (Below.refl w5.heap.size w5))
        have p := p8.out.ext (bl_drew (Below.refl w5.heap.size w5))
        refine start_ (n := 20) (S := (fun W' => W'.cell? ⟨w.heap.size, 4, none⟩ = some (.slice (some ⟨bk, off, none⟩) T.length cT) ∧ W'.cell? ⟨bk, off + k * 3 + 1, none⟩ = some (.int .i64 ep) ∧ W'.cell? ⟨bk, off + k * 3 + 2, none⟩ = some (.int .i64 ln))) (ds := []) #[false, false, false, false, false, false, false, false, false, false, false, false, false, false, false, false, false, false, false, false] (by kernel_rfl) rfl rfl (And.intro (cell_ext B x5.out.2.2.2.2) (And.intro (cell_ext B y1.out) (cell_ext B y2.out))) (fun hHeld => ?_)
        clear B8 oL p8
        generalize w5.drew = X0 at B o p hHeld ⊢
        refine take_ (i := 0) (N := some 54) (v := ?_) (a' := ?_) #[true, false, false, false, false, false, false, false, false, false, false, false, false, false, false, false, false, false, false, false] rfl rfl (by kernel_rfl) (fun _ _ _ h => h) (Or.inl ⟨by rfl, ?_⟩) hHeld ?_ ?_
        rotate_left
        · rintro w' ⟨s0, s1, s2⟩
          go_simp
          try with_reducible rfl
        rotate_left
        · simp only [Act.put, List.setIfInBounds_toArray, List.set_cons_zero, List.set_cons_succ]
          rfl
        refine take_ (i := 1) (N := some 55) (v := ?_) (a' := ?_) #[true, true, false, false, false, false, false, false, false, false, false, false, false, false, false, false, false, false, false, false] rfl rfl (by kernel_rfl) (fun _ _ _ h => h) (Or.inl ⟨by rfl, ?_⟩) hHeld ?_ ?_
        rotate_left
        · rintro w' ⟨s0, s1, s2⟩
          go_simp
          try with_reducible rfl
        rotate_left
        · simp only [Act.put, List.setIfInBounds_toArray, List.set_cons_zero, List.set_cons_succ]
          rfl
        refine take_ (i := 3) (N := some 57) (v := ?_) (a' := ?_) #[true, true, false, true, false, false, false, false, false, false, false, false, false, false, false, false, false, false, false, false] rfl rfl (by kernel_rfl) (fun _ _ _ h => h) (Or.inl ⟨by rfl, ?_⟩) hHeld ?_ ?_
        rotate_left
        · rintro w' ⟨s0, s1, s2⟩
          go_simp
          try with_reducible rfl
        rotate_left
        · simp only [Act.put, List.setIfInBounds_toArray, List.set_cons_zero, List.set_cons_succ]
          rfl
        refine take_ (i := 5) (N := some 59) (v := ?_) (a' := ?_) #[true, true, false, true, false, true, false, false, false, false, false, false, false, false, false, false, false, false, false, false] rfl rfl (by kernel_rfl) (fun _ _ _ h => h) (Or.inl ⟨by rfl, ?_⟩) hHeld ?_ ?_
        rotate_left
        · rintro w' ⟨s0, s1, s2⟩
          go_simp
          try with_reducible rfl
        rotate_left
        · simp only [Act.put, List.setIfInBounds_toArray, List.set_cons_zero, List.set_cons_succ]
          rfl
        refine take_ (i := 11) (N := some 65) (v := ?_) (a' := ?_) #[true, true, false, true, false, true, false, false, false, false, false, true, false, false, false, false, false, false, false, false] rfl rfl (by kernel_rfl) (fun _ _ _ h => h) (Or.inl ⟨by rfl, ?_⟩) hHeld ?_ ?_
        rotate_left
        · rintro w' ⟨s0, s1, s2⟩
          go_simp
          try with_reducible rfl
        rotate_left
        · simp only [Act.put, List.setIfInBounds_toArray, List.set_cons_zero, List.set_cons_succ]
          rfl
        refine take_ (i := 13) (N := some 67) (v := ?_) (a' := ?_) #[true, true, false, true, false, true, false, false, false, false, false, true, false, true, false, false, false, false, false, false] rfl rfl (by kernel_rfl) (fun _ _ _ h => h) (Or.inl ⟨by rfl, ?_⟩) hHeld ?_ ?_
        rotate_left
        · rintro w' ⟨s0, s1, s2⟩
          go_simp
          try with_reducible rfl
        rotate_left
        · simp only [Act.put, List.setIfInBounds_toArray, List.set_cons_zero, List.set_cons_succ]
          rfl
        refine take_ (i := 4) (N := some 58) (v := ?_) (a' := ?_) #[true, true, false, true, true, true, false, false, false, false, false, true, false, true, false, false, false, false, false, false] rfl rfl (by kernel_rfl) (fun _ _ _ h => h) (Or.inl ⟨by rfl, ?_⟩) hHeld ?_ ?_
        rotate_left
        · rintro w' ⟨s0, s1, s2⟩
          go_simp
          try with_reducible rfl
        rotate_left
        · simp only [Act.put, List.setIfInBounds_toArray, List.set_cons_zero, List.set_cons_succ]
          rfl
        refine take_ (i := 6) (N := some 60) (v := ?_) (a' := ?_) #[true, true, false, true, true, true, true, false, false, false, false, true, false, true, false, false, false, false, false, false] rfl rfl (by kernel_rfl) (fun _ _ _ h => h) (Or.inl ⟨by rfl, ?_⟩) hHeld ?_ ?_
        rotate_left
        · rintro w' ⟨s0, s1, s2⟩
          go_simp
          try with_reducible rfl
        rotate_left
        · simp only [Act.put, List.setIfInBounds_toArray, List.set_cons_zero, List.set_cons_succ]
          rfl
        refine take_ (i := 7) (N := some 61) (v := ?_) (a' := ?_) #[true, true, false, true, true, true, true, true, false, false, false, true, false, true, false, false, false, false, false, false] rfl rfl (by kernel_rfl) (fun _ _ _ h => h) (Or.inl ⟨by rfl, ?_⟩) hHeld ?_ ?_
        rotate_left
        · rintro w' ⟨s0, s1, s2⟩
          go_simp
          try with_reducible rfl
        rotate_left
        · simp only [Act.put, List.setIfInBounds_toArray, List.set_cons_zero, List.set_cons_succ]
          rfl
        refine take_ (i := 8) (N := some 62) (v := ?_) (a' := ?_) #[true, true, false, true, true, true, true, true, true, false, false, true, false, true, false, false, false, false, false, false] rfl rfl (by kernel_rfl) (fun _ _ _ h => h) (Or.inl ⟨by rfl, ?_⟩) hHeld ?_ ?_
        rotate_left
        · rintro w' ⟨s0, s1, s2⟩
          go_simp
          try with_reducible rfl
        rotate_left
        · simp only [Act.put, List.setIfInBounds_toArray, List.set_cons_zero, List.set_cons_succ]
          rfl
        refine take_ (i := 12) (N := some 66) (v := ?_) (a' := ?_) #[true, true, false, true, true, true, true, true, true, false, false, true, true, true, false, false, false, false, false, false] rfl rfl (by kernel_rfl) (fun _ _ _ h => h) (Or.inl ⟨by rfl, ?_⟩) hHeld ?_ ?_
        rotate_left
        · rintro w' ⟨s0, s1, s2⟩
          go_simp
          try with_reducible rfl
        rotate_left
        · simp only [Act.put, List.setIfInBounds_toArray, List.set_cons_zero, List.set_cons_succ]
          rfl
        refine take_ (i := 14) (N := some 68) (v := ?_) (a' := ?_) #[true, true, false, true, true, true, true, true, true, false, false, true, true, true, true, false, false, false, false, false] rfl rfl (by kernel_rfl) (fun _ _ _ h => h) (Or.inl ⟨by rfl, ?_⟩) hHeld ?_ ?_
        rotate_left
        · rintro w' ⟨s0, s1, s2⟩
          go_simp
          try with_reducible rfl
        rotate_left
        · simp only [Act.put, List.setIfInBounds_toArray, List.set_cons_zero, List.set_cons_succ]
          rfl
        refine take_ (i := 15) (N := some 69) (v := ?_) (a' := ?_) #[true, true, false, true, true, true, true, true, true, false, false, true, true, true, true, true, false, false, false, false] rfl rfl (by kernel_rfl) (fun _ _ _ h => h) (Or.inl ⟨by rfl, ?_⟩) hHeld ?_ ?_
        rotate_left
        · rintro w' ⟨s0, s1, s2⟩
          go_simp
          try with_reducible rfl
        rotate_left
        · simp only [Act.put, List.setIfInBounds_toArray, List.set_cons_zero, List.set_cons_succ]
          rfl
        refine take_ (i := 16) (N := some 70) (v := ?_) (a' := ?_) #[true, true, false, true, true, true, true, true, true, false, false, true, true, true, true, true, true, false, false, false] rfl rfl (by kernel_rfl) (fun _ _ _ h => h) (Or.inl ⟨by rfl, ?_⟩) hHeld ?_ ?_
        rotate_left
        · rintro w' ⟨s0, s1, s2⟩
          go_simp
          try with_reducible rfl
        rotate_left
        · simp only [Act.put, List.setIfInBounds_toArray, List.set_cons_zero, List.set_cons_succ]
          rfl
        refine one_ (i := 2) (N := some 56) #[true, true, true, true, true, true, true, true, true, false, false, true, true, true, true, true, true, false, false, false] rfl rfl (by kernel_rfl) (by decide) (fun K hK => ?_)
        refine step_appendB (by rfl) rfl (.tmp 54) (.tmp 55) 22 rfl w1.heap.size i0 Try.underlying22 hi hz0 hz1 hz2 Aa ca L rfl o A8 c8 M1 rfl p (by omega) B.size ?_
        intro A1 c1 M4 Y1 hM4 O1 hg1
        replace B := bl_grown B hg1 (OwnB.low o (Nat.le_refl _))
        clear hg1
        have S' := And.intro (cell_ext B x5.out.2.2.2.2) (And.intro (cell_ext B y1.out) (cell_ext B y2.out))
        clear hHeld
        refine hK.out _ _ S' (fun hHeld => ?_)
        clear hK K S'
        refine norm_ (a' := ?_) ?_ ?_
        rotate_left
        · show Act.put _ (some 56) _ = _
          simp only [Act.put, List.setIfInBounds_toArray, List.set_cons_zero, List.set_cons_succ]
          rfl
        refine one_ (i := 9) (N := some 63) #[true, true, true, true, true, true, true, true, true, true, false, true, true, true, true, true, true, false, false, false] rfl rfl (by kernel_rfl) (by decide) (fun K hK => ?_)
        refine goes_ Try.func72 (by kernel_rfl) rfl #[.int .i64 ep, .int .i64 6] (by rfl) rfl rfl (by simp only [List.map_toArray, List.map_cons, List.map_nil]; rfl) ?_
        with_reducible refine (c_rnumber ep 6 M2 _ q1.out.1 q1.out.2 hM2.out).mono ?_
        rintro e Y2 ⟨⟨Ap, cp, rfl, op⟩, hb⟩
        refine ⟨_, rfl, ?_⟩
        have O1' := O1.out.ext hb
        have p2 := op.ok
        replace B := bl_then B hb
        clear op hb
        have S' := And.intro (cell_ext B x5.out.2.2.2.2) (And.intro (cell_ext B y1.out) (cell_ext B y2.out))
        clear hHeld
        refine hK.out _ _ S' (fun hHeld => ?_)
        clear hK K S'
        refine norm_ (a' := ?_) ?_ ?_
        rotate_left
        · show Act.put _ (some 63) _ = _
          simp only [Act.put, List.setIfInBounds_toArray, List.set_cons_zero, List.set_cons_succ]
          rfl
        refine one_ (i := 10) (N := some 64) #[true, true, true, true, true, true, true, true, true, true, true, true, true, true, true, true, true, false, false, false] rfl rfl (by kernel_rfl) (by decide) (fun K hK => ?_)
        refine step_appendB (by rfl) rfl (.tmp 56) (.tmp 63) 22 rfl w1.heap.size i0 Try.underlying22 hi hz0 hz1 hz2 A1 c1 M4 rfl O1' Ap cp M2 rfl p2 (by rw [hM4.out, List.length_append]; omega) B.size ?_
        intro A2 c2 M5 Y2 hM5 O2 hg2
        replace B := bl_grown B hg2 (OwnB.low O1' (Nat.le_refl _))
        clear hg2
        have S' := And.intro (cell_ext B x5.out.2.2.2.2) (And.intro (cell_ext B y1.out) (cell_ext B y2.out))
        clear hHeld
        refine hK.out _ _ S' (fun hHeld => ?_)
        clear hK K S'
        refine norm_ (a' := ?_) ?_ ?_
        rotate_left
        · show Act.put _ (some 64) _ = _
          simp only [Act.put, List.setIfInBounds_toArray, List.set_cons_zero, List.set_cons_succ]
          rfl
        refine one_ (i := 17) (N := some 71) #[true, true, true, true, true, true, true, true, true, true, true, true, true, true, true, true, true, true, false, false] rfl rfl (by kernel_rfl) (by decide) (fun K hK => ?_)
        refine goes_ Try.func72 (by kernel_rfl) rfl #[.int .i64 ln, .int .i64 4] (by rfl) rfl rfl (by simp only [List.map_toArray, List.map_cons, List.map_nil]; rfl) ?_
        with_reducible refine (c_rnumber ln 4 M3 _ q2.out.1 q2.out.2 hM3.out).mono ?_
        rintro e Y4 ⟨⟨Ar, cr, rfl, or⟩, hb⟩
        refine ⟨_, rfl, ?_⟩
        have O2' := O2.out.ext hb
        have p3 := or.ok
        replace B := bl_then B hb
        clear or hb
        have S' := And.intro (cell_ext B x5.out.2.2.2.2) (And.intro (cell_ext B y1.out) (cell_ext B y2.out))
        clear hHeld
        refine hK.out _ _ S' (fun hHeld => ?_)
        clear hK K S'
        refine norm_ (a' := ?_) ?_ ?_
        rotate_left
        · show Act.put _ (some 71) _ = _
          simp only [Act.put, List.setIfInBounds_toArray, List.set_cons_zero, List.set_cons_succ]
          rfl
        refine one_ (i := 18) (N := some 72) #[true, true, true, true, true, true, true, true, true, true, true, true, true, true, true, true, true, true, true, false] rfl rfl (by kernel_rfl) (by decide) (fun K hK => ?_)
        refine step_appendB (by rfl) rfl (.tmp 64) (.tmp 71) 22 rfl w1.heap.size i0 Try.underlying22 hi hz0 hz1 hz2 A2 c2 M5 rfl O2' Ar cr M3 rfl p3 (by rw [hM5.out, hM4.out, List.length_append, List.length_append]; omega) B.size ?_
        intro A3 c3 M6 Y3 hM6 O3 hg3
        replace B := bl_grown B hg3 (OwnB.low O2' (Nat.le_refl _))
        clear hg3
        have S' := And.intro (cell_ext B x5.out.2.2.2.2) (And.intro (cell_ext B y1.out) (cell_ext B y2.out))
        clear hHeld
        refine hK.out _ _ S' (fun hHeld => ?_)
        clear hK K S'
        refine norm_ (a' := ?_) ?_ ?_
        rotate_left
        · show Act.put _ (some 72) _ = _
          simp only [Act.put, List.setIfInBounds_toArray, List.set_cons_zero, List.set_cons_succ]
          rfl
        refine take_ (i := 19) (N := some 5) (v := ?_) (a' := ?_) #[true, true, true, true, true, true, true, true, true, true, true, true, true, true, true, true, true, true, true, true] rfl rfl (by kernel_rfl) (fun _ _ _ h => h) (Or.inl ⟨by rfl, ?_⟩) hHeld ?_ ?_
        rotate_left
        · rintro w' ⟨s0, s1, s2⟩
          go_simp
          try with_reducible rfl
        rotate_left
        · simp only [Act.put, List.setIfInBounds_toArray, List.set_cons_zero, List.set_cons_succ]
          rfl
        refine done_ (by kernel_rfl) ?_
        go_wp2_with fail
        exact ⟨⟨k + 1, by omega, congrArg (Value.int .i64) (by omega), ⟨A3, c3, M6, rfl, O3, by show _ = _; rw [hM6.out, hM5.out, hM4.out, hse.out]⟩, Lib.hid B⟩, by show T.length - ((k : Int) + 1).toNat < T.length - ((k : Int)).toNat; omega⟩
      · have hke : k = T.length := by omega
        subst hke
        rw [List.take_length] at hL
        have hLe : L = headB (x.toNat : Int) S r N T := by rw [hL.out, hLF.out]; rfl
        go_wp2_with fail
        go_ret2
        exact ⟨⟨Aa, ca, ret_sl2 (by rw [hLe]), by rw [← hLe]; exact Ho.out.base_le G1.out.size⟩, bl_then G1.out Hb.out⟩
/-- A head's bytes, whatever the head, as the document says. -/
theorem c_rwrite (v : Int) (r : Int) (AS : Option Addr) (cS : Nat) (S : List UInt8) (AN : Option Addr) (cN : Nat) (N : List UInt8) (AT : Option Addr) (cT : Nat) (T : List SectD) (E : Int) (L : List UInt8) (w : World) (hH : OkH w AS cS S AN cN N AT T) (hE : writeE v S r N T = E) (hL : writeL v S r N T = L) :
    Calls Try.prog 45 #[.agg #[.int .i64 v, .slice AS S.length cS, .int .i64 r, .slice AN N.length cN, .slice AT T.length cT]] w fun e w' => (∃ A c, e = .returned (.tuple #[.slice A L.length c, .int .i64 E]) ∧ OwnB w' w.heap.size A c L) ∧ Below w.heap.size w w' := by
  subst hE hL
  unfold writeE writeL
  cases h : rightH v S r N T
  · rw [if_neg (by decide), if_neg (by decide)]
    refine (rwrite_bad v r AS cS S AN cN N AT cT T w hH h).mono ?_
    rintro e w' ⟨rfl, hb⟩
    exact ⟨⟨none, 0, rfl, own_nil _ _⟩, hb⟩
  · rw [if_pos rfl, if_pos rfl]
    have h1 := (rightH_iff.1 h).1
    have h2 := (rightH_iff.1 h).2.1
    obtain ⟨x, rfl⟩ : ∃ x : UInt8, v = (x.toNat : Int) := ⟨UInt8.ofNat v.toNat, by rw [UInt8.toNat_ofNat']; omega⟩
    exact rwrite_any x r AS cS S AN cN N AT cT T w hH h _ _ rfl rfl
end Go.Proofs.Ytlcclaicodghcaa
