import Derived.Test.YtlcclaicodghcaaWCuts
import Derived.Test.YtlcclaicodghcaaXb
namespace Go.Proofs.Ytlcclaicodghcaa
open Go.RowKit

/-- Rows and the number, one behind the other. -/
def joinB (n : Nat) (l : List (List UInt8)) : List UInt8 := l.flatMap fun x => rowL x ++ numB n 4
theorem joinB_succ {n : Nat} {l : List (List UInt8)} {k : Nat} (h : k < l.length) : joinB n (l.take (k + 1)) = joinB n (l.take k) ++ rowL l[k] ++ numB n 4 := by
  unfold joinB; rw [List.take_succ_eq_append_getElem h, List.flatMap_append]; simp
theorem joinB_drop {n : Nat} {l : List (List UInt8)} {k : Nat} (h : k < l.length) : (joinB n l).drop (joinB n (l.take k)).length = rowL l[k] ++ (numB n 4 ++ joinB n (l.drop (k + 1))) := by
  have e : joinB n l = joinB n (l.take k) ++ (rowL l[k] ++ (numB n 4 ++ joinB n (l.drop (k + 1)))) := by
    conv => lhs; rw [← List.take_append_drop k l, List.drop_eq_getElem_cons h]
    unfold joinB; rw [List.flatMap_append, List.flatMap_cons]; simp
  rw [e, List.drop_left]
theorem joinB_le {n : Nat} : ∀ {l : List (List UInt8)}, (∀ x ∈ l, x.length ≤ 100) → (joinB n l).length ≤ 108 * l.length
  | [], _ => by simp [joinB]
  | x :: l, h => by
    have h1 := rowL_le x
    have h2 := h x (by simp)
    have ih := joinB_le (n := n) (l := l) fun y hy => h y (List.mem_cons_of_mem _ hy)
    have e : joinB n (x :: l) = rowL x ++ numB n 4 ++ joinB n l := rfl
    rw [e, List.length_append, List.length_append, numB_len, List.length_cons]; omega
theorem OwnB.grown {w w' : World} {base : Nat} {A : Option Addr} {c : Nat} {x : List UInt8} {row : Option Nat} (h : OwnB w base A c x) (hg : w.grownBy w' row) (hr : ∀ k, row = some k → k < base) : OwnB w' base A c x := by
  refine ⟨h.1.kept hg ?_, h.2⟩
  cases hk : (Value.slice A x.length c).ownBlock with
  | none => exact .inl rfl
  | some k =>
    refine .inr fun e => ?_
    have h1 := (h.1.lt k hk).1
    have h2 := hr k e.symm
    omega
theorem okN_four {n : Nat} (h : (n : Int) ≤ 4294967295) : okN (n : Int) 4 := ⟨by omega, by omega, by show (n : Int) < ((256 ^ 4 : Nat) : Int); omega⟩
theorem numE_four {n : Nat} (h : (n : Int) ≤ 4294967295) : numE (n : Int) 4 = 0 := if_pos (okN_four h)
theorem numL_four {n : Nat} (h : (n : Int) ≤ 4294967295) : numL (n : Int) 4 = numB n 4 := by unfold numL; rw [if_pos (okN_four h)]; rfl
/-- What is taken at a row's place. -/
theorem join_at {n : Nat} {l : List (List UInt8)} {k : Nat} (h : k < l.length) (hx : l[k].length ≤ 100) (hn : n < 4294967296) :
    (trE (joinB n l) (joinB n (l.take k)).length 100 = 0 ∧ trL (joinB n l) (joinB n (l.take k)).length 100 = l[k] ∧ trX (joinB n l) (joinB n (l.take k)).length 100 = ((joinB n (l.take k)).length + (rowL l[k]).length : Nat)) ∧
    (tnE (joinB n l) ((joinB n (l.take k)).length + (rowL l[k]).length : Nat) 4 = 0 ∧ tnN (joinB n l) ((joinB n (l.take k)).length + (rowL l[k]).length : Nat) 4 = n ∧ tnX (joinB n l) ((joinB n (l.take k)).length + (rowL l[k]).length : Nat) 4 = ((joinB n (l.take (k + 1))).length : Nat)) := by
  have hd := joinB_drop (n := n) h
  have hle : (joinB n (l.take k)).length ≤ (joinB n l).length := by
    conv => rhs; rw [← List.take_append_drop k l]
    unfold joinB; rw [List.flatMap_append, List.length_append]; omega
  obtain ⟨h1, h2⟩ := tr_row (most := 100) hle (by omega) hd
  rw [if_neg (by omega)] at h1
  obtain ⟨h3, h4⟩ := h2 h1
  have hd2 : (joinB n l).drop ((joinB n (l.take k)).length + (rowL l[k]).length) = numB n 4 ++ joinB n (l.drop (k + 1)) := by
    rw [← List.drop_drop, hd, List.drop_left]
  have hl := drop_len hle hd
  rw [List.length_append] at hl
  have h5 := tn_num (b := joinB n l) (T := (joinB n (l.take k)).length + (rowL l[k]).length) (by omega) hd2 (by omega) (by omega) (show n < 256 ^ 4 by omega)
  refine ⟨⟨h1, h3, by rw [h4]; omega⟩, h5.1, h5.2.1, ?_⟩
  rw [show ((4 : Nat) : Int) = 4 from rfl] at h5
  rw [h5.2.2, joinB_succ h, List.length_append, List.length_append, numB_len]; omega

set_option maxRecDepth 20000 in
set_option maxHeartbeats 4000000 in
theorem joins_any (A : Option Addr) (c : Nat) (l : List (List UInt8)) (n0 : Int) (w : World) (hR : RBB w A l) (hl0 : l.length ≤ 140737488351232) (hn : 0 ≤ n0) (hn' : n0 ≤ 4294967295) :
    Calls Try.prog 7 #[.slice A l.length c, .int .u32 n0] w fun e w' => e = .returned (.bool true) ∧ Below w.heap.size w w' := by
  have g := Lib.hid (Below.refl w.heap.size w)
  replace hR := Lib.hid hR
  obtain ⟨n, rfl⟩ : ∃ n : Nat, n0 = (n : Int) := ⟨n0.toNat, by omega⟩
  have h5 : (20 : Int) < l.length ∨ (l.length : Int) ≤ 20 := by omega
  rcases h5 with h5 | h5
  · go_enter Try.func7, Try.ntmps7
    go_wp2_with (go_at_call 19; refine (shown_any _).mono ?_; rintro e w1 ⟨rfl, hb⟩)
    go_ret
    exact ⟨rfl, bl_then g.out hb⟩
  · obtain ⟨i0, hi, hz0, hz1, hz2⟩ := info_parts info5
    go_enter Try.func7, Try.ntmps7
    go_wp2_with fail
    refine (shown_any _).mono ?_; rintro e w1 ⟨rfl, hb⟩; replace hR := Lib.hid (hR.out.ext hb); replace g := Lib.hid (bl_then g.out hb); clear hb
    go_wp2_with fail
    go_loopw [6, 7] (fun o i wr => ∃ pos : Nat, pos ≤ l.length ∧ i = .int .i64 pos ∧ (∃ Aa ca bs, o = .slice Aa (List.length bs) ca ∧ Hid (OwnB wr w1.heap.size Aa ca bs) ∧ Hid (bs = joinB n (l.take pos))) ∧ Hid (∀ j (_ : j < l.length), j < pos → l[j].length ≤ 100) ∧ Hid (Below w1.heap.size w1 wr)) (fun _ i _ => l.length - (intOf i).toNat)
    case atStart => exact ⟨0, Nat.zero_le _, rfl, ⟨_, _, [], rfl, own_empty _ _ rfl, rfl⟩, (fun j _ h => absurd h (Nat.not_lt_zero _)), bl_alloc (Below.refl _ _) _⟩
    case round =>
      obtain ⟨pos, hpos, rfl, ⟨Aa, ca, bs, rfl, Ho, hbs⟩, hall, Hb⟩ := hrel
      have g2 := Lib.hid (bl_then g.out Hb.out)
      by_cases hp : pos < l.length
      · obtain ⟨bk, off, hA, hcells⟩ := (hR.out.ext Hb.out).some_ hp
        subst hA
        obtain ⟨Ax, cx, hcell, okx⟩ := hcells pos hp
        obtain ⟨x, hx⟩ : ∃ x, l[pos] = x := ⟨_, rfl⟩
        rw [hx] at hcell okx
        replace hx := Lib.hid hx
        clear hcells
        by_cases hlx : (100 : Int) < x.length
        · go_wp2_with fail
          go_ret
          exact ⟨rfl, g2.out⟩
        · have hlx' : (x.length : Int) ≤ 100 := by omega
          have d3 := rowL_le x
          obtain ⟨L3, hL3⟩ : ∃ z, rowL x = z := ⟨_, rfl⟩
          rw [hL3] at d3
          replace hL3 := Lib.hid hL3
          obtain ⟨L4, hL4⟩ : ∃ z, numL (n : Int) 4 = z := ⟨_, rfl⟩
          have d4 := numL_le (n : Int) 4; rw [hL4] at d4
          replace hL4 := Lib.hid hL4
          have hbl : bs.length ≤ 108 * 20 := by
            rw [hbs.out]
            refine Nat.le_trans (joinB_le (fun y hy => ?_)) ?_
            · obtain ⟨j, hj, rfl⟩ := List.mem_iff_getElem.1 hy
              rw [List.length_take] at hj
              rw [List.getElem_take]; exact hall.out j (by omega) (by omega)
            · rw [List.length_take]; omega
          go_wp2_with fail
          refine (c_row Ax cx x 0 L3 _ okx (rowE_ok (by omega)) hL3.out).mono ?_; rintro e w2 ⟨⟨A1, c1, rfl, o1⟩, hb2⟩
          replace o1 := Lib.hid o1; replace hb2 := Lib.hid hb2
          go_wp2_with fail
          refine (c_num (n : Int) 4 0 L4 _ (by omega) (by omega) (numE_four hn') hL4.out).mono ?_; rintro e w3 ⟨⟨A2, c2, rfl, o2⟩, hb3⟩
          replace o2 := Lib.hid o2; replace hb3 := Lib.hid hb3
          have H2 := Lib.hid (Ho.out.ext hb2.out)
          have H3 := Lib.hid (H2.out.ext hb3.out)
          have B3 := Lib.hid (bl_then (bl_then Hb.out hb2.out) hb3.out)
          go_wp2_with (first | (at_builtin; refine append_any _ rfl (.tmp 59) (.tmp 60) 22 rfl w1.heap.size i0 Try.underlying22 hi hz0 hz1 hz2 Aa ca bs rfl H3.out A1 c1 L3 rfl (o1.out.ext hb3.out).ok (by omega) B3.out.size ?_; intro Ab cb bb wb kbb hob hgb) | (at_builtin; refine append_any _ rfl (.tmp 61) (.tmp 62) 22 rfl w1.heap.size i0 Try.underlying22 hi hz0 hz1 hz2 Ab cb bb rfl hob.out A2 c2 L4 rfl (o2.out.grown hgb (fun k hk => (H2.out.1.lt k hk).2)).ok (by rw [kbb.out, List.length_append]; omega) (bl_grown B3.out hgb (OwnB.low H3.out (Nat.le_refl _))).size ?_; intro Ac cc bc wc kbc hoc hgc))
          have B5 := bl_grown (bl_grown B3.out hgb (OwnB.low H3.out (Nat.le_refl _))) hgc (OwnB.low hob.out (Nat.le_refl _))
          have kk : bc = joinB n (l.take (pos + 1)) := by rw [kbc.out, kbb.out, joinB_succ hp, hbs.out, hx.out, hL3.out, ← hL4.out, numL_four hn']
          refine ⟨⟨pos + 1, by omega, congrArg (Value.int .i64) (by omega), ⟨Ac, cc, bc, rfl, hoc, kk⟩, ?_, B5⟩, by show l.length - ((pos : Int) + 1).toNat < l.length - ((pos : Int)).toNat; omega⟩
          intro j hj h
          by_cases e : j = pos
          · subst e; rw [hx.out]; omega
          · exact hall.out j hj (by omega)
      · have hpe : pos = l.length := by omega
        subst hpe
        rw [List.take_length] at hbs
        have hbl : bs.length ≤ 108 * 20 := by
          rw [hbs.out]
          refine Nat.le_trans (joinB_le (fun y hy => ?_)) ?_
          · obtain ⟨j, hj, rfl⟩ := List.mem_iff_getElem.1 hy
            exact hall.out j hj hj
          · omega
        obtain ⟨wo, hwo⟩ : ∃ wo : World, wo = wr := ⟨_, rfl⟩
        subst hwo
        have Ro := Lib.hid (hR.out.ext Hb.out)
        have Oo := Lib.hid Ho.out.ok
        go_wp2_with fail
        go_loopw [12, 13] (fun o i wr => ∃ pos : Nat, pos ≤ l.length ∧ i = .int .i64 pos ∧ o = .int .i64 ((joinB n (l.take pos)).length : Nat) ∧ Hid (Below wo.heap.size wo wr)) (fun _ i _ => l.length - (intOf i).toNat)
        case atStart => exact ⟨0, Nat.zero_le _, rfl, rfl, Below.refl _ _⟩
        case round =>
          obtain ⟨pos, hpos, rfl, rfl, Hc⟩ := hrel
          have g3 := Lib.hid (bl_then g2.out Hc.out)
          by_cases hp : pos < l.length
          · obtain ⟨bk, off, hA, hcells⟩ := (Ro.out.ext Hc.out).some_ hp
            subst hA
            obtain ⟨Ax, cx, hcell, okx⟩ := hcells pos hp
            have hJ := Lib.hid (join_at (n := n) hp (hall.out pos hp hp) (by omega))
            rw [← hbs.out] at hJ
            obtain ⟨x, hx⟩ : ∃ x, l[pos] = x := ⟨_, rfl⟩
            rw [hx] at hcell okx hJ
            obtain ⟨X1, hX1⟩ : ∃ z, (joinB n (l.take pos)).length + (rowL x).length = z := ⟨_, rfl⟩
            rw [hX1] at hJ
            obtain ⟨P1, hP1⟩ : ∃ z, (joinB n (l.take pos)).length = z := ⟨_, rfl⟩
            rw [hP1] at hJ
            replace hJ := Lib.hid hJ
            rw [hP1]
            obtain ⟨P2, hP2⟩ : ∃ z, (joinB n (l.take (pos + 1))).length = z := ⟨_, rfl⟩
            rw [hP2] at hJ
            have okb := Lib.hid (Oo.out.ext Hc.out)
            have sx := Lib.hid (show (x == x) = true by simp)
            replace hP1 := Lib.hid hP1
            replace hP2 := Lib.hid hP2
            replace hX1 := Lib.hid hX1
            replace hx := Lib.hid hx
            clear hcells
            go_wp2_with fail
            refine (c_takeRow _ _ bs P1 100 X1 0 x _ okb.out hJ.out.1.2.1 hJ.out.1.2.2 hJ.out.1.1).mono ?_; rintro e w2 ⟨⟨A1, c1, rfl, o1⟩, hb2⟩
            replace okb := Lib.hid (okb.out.ext hb2); replace okx := okx.ext hb2; replace o1 := o1.ok
            replace hcell := cell_ext hb2 hcell
            replace hb2 := Lib.hid hb2
            go_wp2_with fail
            refine (c_takeNum _ _ bs X1 4 n P2 0 _ okb.out hJ.out.2.2.1 hJ.out.2.2.2 hJ.out.2.1).mono ?_; rintro e w3 ⟨rfl, rfl⟩
            go_wp2_with fail
            refine (c_same _ _ x _ _ x _ o1 okx true sx.out).mono ?_; rintro e w3 ⟨rfl, rfl⟩
            go_wp2_with fail
            exact ⟨⟨pos + 1, by omega, congrArg (Value.int .i64) (by omega), by rw [hP2.out], bl_then Hc.out hb2.out⟩, by show l.length - ((pos : Int) + 1).toNat < l.length - ((pos : Int)).toNat; omega⟩
          · have hpe : pos = l.length := by omega
            subst hpe
            rw [List.take_length, ← hbs.out]
            go_wp2_with fail
            go_ret
            exact ⟨ret_bool (by simp), g3.out⟩
end Go.Proofs.Ytlcclaicodghcaa
