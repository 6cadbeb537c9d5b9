import Derived.Test.YtkfalgdhpojejaaY
namespace Go.Proofs.Ytkfalgdhpojejaa
open Go.RowKit

/-- What a block is behind writes. -/
theorem layTo_get {B : List (List UInt8)} {P : List PutD} {ks : Nat → Bool} {j : Nat} : ∀ k, k ≤ P.length → okP B.length P →
    (layTo B P ks k).getD j [] = B.getD j [] ∨ ∃ q, ∃ h : q < P.length, P[q].1 = (j : Int) ∧ (layTo B P ks k).getD j [] = P[q].2
  | 0, _, _ => .inl rfl
  | k + 1, h, hP => by
    have ih := layTo_get (B := B) (P := P) (ks := ks) (j := j) k (Nat.le_of_lt h) hP
    rw [layTo_succ h]
    cases ks k
    · exact ih
    · rw [if_pos rfl]
      have hp := hP k h
      by_cases e : P[k].1.toNat = j
      · right
        refine ⟨k, h, by omega, ?_⟩
        have hl := layTo_length B P ks k
        rw [e]
        have : j < (layTo B P ks k).length := by omega
        simp [List.getD, this]
      · have e2 : ((layTo B P ks k).set P[k].1.toNat P[k].2).getD j [] = (layTo B P ks k).getD j [] := by simp [List.getD, List.getElem?_set_ne e]
        rw [e2]; exact ih
/-- What the law asks of a block, of the first q writes. -/
def isTo (B C : List (List UInt8)) (P : List PutD) (j : Nat) : Nat → Bool
  | 0 => C.getD j [] == B.getD j []
  | q + 1 => isTo B C P j q || (((P.getD q (0, [])).1 == (j : Int)) && (C.getD j [] == (P.getD q (0, [])).2))
theorem isTo_up {B C : List (List UInt8)} {P : List PutD} {j q : Nat} (h : isTo B C P j q = true) : ∀ d, isTo B C P j (q + d) = true
  | 0 => h
  | d + 1 => by rw [← Nat.add_assoc, isTo, isTo_up h d]; rfl
theorem isTo_all {B C : List (List UInt8)} {P : List PutD} {j : Nat} (h : C.getD j [] = B.getD j [] ∨ ∃ q, ∃ h : q < P.length, P[q].1 = (j : Int) ∧ C.getD j [] = P[q].2) : isTo B C P j P.length = true := by
  rcases h with h | ⟨q, hq, h1, h2⟩
  · have h0 : isTo B C P j 0 = true := by rw [isTo, h]; simp
    have := isTo_up h0 P.length
    rwa [Nat.zero_add] at this
  · have h0 : isTo B C P j (q + 1) = true := by
      rw [isTo, show P.getD q (0, []) = P[q] by simp [hq], h1, h2]; simp
    have := isTo_up h0 (P.length - (q + 1))
    rwa [show q + 1 + (P.length - (q + 1)) = P.length by omega] at this
theorem isTo_succ {B C : List (List UInt8)} {P : List PutD} {j q : Nat} (hq : q < P.length) : isTo B C P j (q + 1) = (isTo B C P j q || ((P[q].1 == (j : Int)) && (C.getD j [] == P[q].2))) := by
  rw [isTo, show P.getD q (0, []) = P[q] by simp [hq]]
theorem layTo_all {B : List (List UInt8)} {P : List PutD} (n : Nat) : ∀ k, k ≤ n → layTo B P (keepF (List.replicate n true)) k = layTo B P (fun _ => true) k
  | 0, _ => rfl
  | k + 1, h => by
    rw [layTo, layTo, layTo_all n k (Nat.le_of_lt h), if_pos rfl, if_pos]
    unfold keepF
    have h' : k < n := h
    simp [List.getD, h']
theorem ex_drew {w : World} {n m : Nat} : ∃ k, (w.drewN n).drewN m = w.drewN k := ⟨_, World.drewN_drewN _ _ _⟩
theorem ex_drew3 {w : World} {n m l : Nat} : ∃ k, ((w.drewN n).drewN m).drewN l = w.drewN k := ⟨n + (m + l), by rw [World.drewN_drewN, World.drewN_drewN]⟩
def encL (b : Bool) : Value := .bool b
theorem info4 : (Try.prog.info? 4).map (fun i => (i.zero, i.size, i.bytes)) = some (some (.bool false), 1, 1) := by kernel_rfl
theorem fillL_split (k m : Nat) (hk : k < m) : (List.replicate k true ++ List.replicate (m - k) false).map encL = List.replicate k (encL true) ++ encL false :: List.replicate (m - (k + 1)) (encL false) := by
  rw [show m - k = (m - (k + 1)) + 1 by omega, List.replicate_succ]; simp
theorem fillL_at (k m : Nat) (hk : k < m) : ((List.replicate k true ++ List.replicate (m - k) false).map encL)[k]? = some (encL false) := by
  rw [fillL_split k m hk, List.getElem?_append_right (by simp)]; simp
theorem fillL_step (k m : Nat) (hk : k < m) : ((List.replicate k true ++ List.replicate (m - k) false).map encL).set k (encL true) = (List.replicate (k + 1) true ++ List.replicate (m - (k + 1)) false).map encL := by
  rw [fillL_split k m hk, List.set_append_right _ _ (by simp)]; simp [List.replicate_succ']
theorem made_l (n : Nat) : (madeCells (Value.bool false).cells (n * 1)).toList = (List.replicate n false).map encL := by
  rw [Nat.mul_one, show (Value.bool false).cells = #[.bool false] from rfl, toList_madeCells_one]; simp [encL]
theorem rl_own {W : World} {base n : Nat} {g c : Nat} {l : List Bool} (h : W.ownsRow base 4 1 (.slice (some ⟨g, 0, none⟩) n c) n (l.map encL)) (hl : l.length = n) : RL W (some ⟨g, 0, none⟩) l := by
  refine .inr ⟨g, 0, rfl, fun i hi => ?_⟩
  have := h.cellAt i (by omega)
  rw [Nat.zero_add, this]
  simp [encL, hi]

theorem c_crashN (AB : Option Addr) (cb : Nat) (AP : Option Addr) (cp : Nat) (f : Int) (w : World) (B : List (List UInt8)) (P : List PutD) (hD : OkD w AB AP cp B P) (hlB : B.length ≤ 4096) (hlB0 : 0 < B.length) (hlP : P.length ≤ 1000000) (hok : okP B.length P)
    (AK : Option Addr) (cK : Nat) (K : List Bool) (hRL : RL w AK K) (nK : Nat) (hn : K.length = nK) (B' : List (List UInt8)) (P' : List PutD) (hB' : layTo B P (keepF K) P.length = B') (hP' : P' = []) :
    Calls Try.prog 27 #[.agg #[.slice AB B.length cb, .slice AP P.length cp, .int .i64 f], .slice AK nK cK] w fun e w' =>
      (∃ AB' cb' AP' cp', e = .returned (.agg #[.slice AB' B'.length cb', .slice AP' P'.length cp', .int .i64 (-1)]) ∧ OkD w' AB' AP' cp' B' P') ∧ Below w.heap.size w w' := by
  subst hn; exact c_crash AB cb AP cp f w B P hD hlB hlB0 hlP hok AK cK K hRL B' P' hB' hP'

set_option maxRecDepth 20000 in
set_option maxHeartbeats 4000000 in
theorem keeps_any (AB : Option Addr) (cb : Nat) (AP : Option Addr) (cp : Nat) (f : Int) (AK : Option Addr) (cK : Nat) (w : World) (B : List (List UInt8)) (P : List PutD) (K : List Bool)
    (hD : OkD w AB AP cp B P) (hK : RL w AK K) (hlB : B.length ≤ 140737488351232) (hlP : P.length ≤ 140737488351232) :
    Calls Try.prog 5 #[.agg #[.slice AB B.length cb, .slice AP P.length cp, .int .i64 f], .slice AK K.length cK] w fun e w' => e = .returned (.bool true) ∧ Below w.heap.size w w' := by
  have g0 := bl_alloc (Below.refl _ w) (.cells #[.slice AB B.length cb, .slice AP P.length cp, .int .i64 f] 25)
  have g := Lib.hid g0
  have d3 := hD.ext g0
  have rk := hK.ext g0
  have L1 := Lib.hid hlB
  have L2 := Lib.hid hlP
  clear hD hK g0 hlB hlP
  obtain ⟨my, hm⟩ : ∃ x, (smallD B P 40 && rightD B P) = x := ⟨_, rfl⟩
  have h3 : my = false ∨ (my = true ∧ f = 0) ∨ (my = true ∧ f ≠ 0 ∧ (60 : Int) < K.length) ∨ (my = true ∧ f ≠ 0 ∧ (K.length : Int) ≤ 60) := by
    cases my
    · exact .inl rfl
    · right; simp only [true_and]; omega
  go_enter Try.func5, Try.ntmps5
  go_upto_region 2 with (go_at_call 10; refine (shown_any _).mono ?_; rintro e w1 ⟨rfl, hb⟩; obtain ⟨k3, -, -⟩ := box1 hb; replace d3 := d3.ext hb; replace rk := rk.ext hb; replace g := Lib.hid (bl_then g.out hb); clear hb)
  have c3 : w1.cell? ⟨w.heap.size, 0, none⟩ = _ ∧ w1.cell? ⟨w.heap.size, 1, none⟩ = _ ∧ w1.cell? ⟨w.heap.size, 2, none⟩ = _ := ⟨k3 0, k3 1, k3 2⟩
  simp only [List.getElem?_toArray, List.getElem?_cons_zero, List.getElem?_cons_succ] at c3
  clear k3
  rcases h3 with rfl | ⟨rfl, rfl⟩ | ⟨rfl, h3, h4⟩ | ⟨rfl, h3, h4⟩
  · go_wp2_with (go_at_call 22; refine (c_may AB cb AP cp f 40 _ B P d3 L1.out L2.out false hm).mono ?_; rintro e w2 ⟨rfl, hb2⟩; replace c3 := box_ext hb2 c3; replace d3 := d3.ext hb2; replace rk := rk.ext hb2; replace g := Lib.hid (bl_then g.out hb2); clear hb2)
    go_ret
    exact ⟨rfl, g.out⟩
  · go_wp2_with (go_at_call 22; refine (c_may AB cb AP cp 0 40 _ B P d3 L1.out L2.out true hm).mono ?_; rintro e w2 ⟨rfl, hb2⟩; replace c3 := box_ext hb2 c3; replace d3 := d3.ext hb2; replace rk := rk.ext hb2; replace g := Lib.hid (bl_then g.out hb2); clear hb2)
    go_ret
    exact ⟨rfl, g.out⟩
  · have f0 : (f == 0) = false := by simp [h3]
    go_wp2_with (go_at_call 22; refine (c_may AB cb AP cp f 40 _ B P d3 L1.out L2.out true hm).mono ?_; rintro e w2 ⟨rfl, hb2⟩; replace c3 := box_ext hb2 c3; replace d3 := d3.ext hb2; replace rk := rk.ext hb2; replace g := Lib.hid (bl_then g.out hb2); clear hb2)
    go_ret
    exact ⟨rfl, g.out⟩
  · have f0 : (f == 0) = false := by simp [h3]
    obtain ⟨⟨s1, s2⟩, hr⟩ := may_facts hm
    have ok := Lib.hid (right_okP hr)
    have b0 := Lib.hid (show 0 < B.length from (right_facts hr).1)
    have b1 := Lib.hid (show B.length ≤ 4096 by omega)
    have p1 := Lib.hid (show P.length ≤ 1000000 by omega)
    obtain ⟨B2, hB2⟩ : ∃ x, flushB B P f = x := ⟨_, rfl⟩
    obtain ⟨P2, hP2⟩ : ∃ x, flushP P f = x := ⟨_, rfl⟩
    obtain ⟨C, hC⟩ : ∃ x, layTo B P (keepF K) P.length = x := ⟨_, rfl⟩
    obtain ⟨P3, hP3⟩ : ∃ x : List PutD, x = [] := ⟨_, rfl⟩
    obtain ⟨T, hT⟩ : ∃ x, List.replicate P.length true = x := ⟨_, rfl⟩
    have lT := Lib.hid (show T.length = P.length by rw [← hT]; simp)
    have hP2n : P2 = [] := by rw [← hP2]; exact if_neg h3
    have hB2n : B2 = layTo B P (fun _ => true) P.length := by rw [← hB2]; exact if_neg h3
    have lB2 : B2.length = B.length := by rw [hB2n, layTo_length]
    have lC : C.length = B.length := by rw [← hC, layTo_length]
    have b2 := Lib.hid (show B2.length ≤ 4096 by omega)
    have b3 := Lib.hid (show 0 < B2.length by have := b0.out; omega)
    have p2 := Lib.hid (show P2.length ≤ 1000000 by rw [hP2n]; simp)
    have p3 := Lib.hid (show P3.length ≤ 1000000 by rw [hP3]; simp)
    have o2 := Lib.hid (show okP B2.length P2 by rw [hP2n]; intro k h; simp at h)
    have hE := Lib.hid (show flushE f = 0 from if_neg h3)
    have k1 := Lib.hid (show layTo B2 P2 (keepF K) P2.length = B2 by rw [hP2n]; rfl)
    have k2 := Lib.hid (show layTo B P (keepF T) P.length = B2 by rw [hB2n, ← hT]; exact layTo_all _ _ (Nat.le_refl _))
    have S1 := Lib.hid (sameD_self B2 P3 (-1))
    have hget : ∀ j, isTo B C P j P.length = true := fun j => isTo_all (by rw [← hC]; exact layTo_get _ (Nat.le_refl _) ok.out)
    replace hget := Lib.hid hget
    have nC : ((C.length : Int) != (B.length : Int)) = false := by rw [lC]; simp
    have nC' : (C.length : Int) = (B.length : Int) := by rw [lC]
    have nP : decide (0 < P3.length) = false := by rw [hP3]; rfl
    have pl : (P.length : Int) ≤ 40 := by omega
    have lC' := Lib.hid lC
    go_upto_region 4 with (go_at_call 22; refine (c_may AB cb AP cp f 40 _ B P d3 L1.out L2.out true hm).mono ?_; rintro e w2 ⟨rfl, hb2⟩; replace c3 := box_ext hb2 c3; replace d3 := d3.ext hb2; replace rk := rk.ext hb2; replace g := Lib.hid (bl_then g.out hb2); clear hb2)
    clear hm hr s1 s2 h4 f0 lB2 nC' lC h3 hB2n hP2n
    replace hB2 := Lib.hid hB2
    replace hP2 := Lib.hid hP2
    replace hC := Lib.hid hC
    replace hP3 := Lib.hid hP3
    replace hT := Lib.hid hT
    replace nC := Lib.hid nC
    replace nP := Lib.hid nP
    go_upto_region 5 with (go_at_call 25; refine (c_flush AB cb AP cp f _ B P d3 b1.out b0.out p1.out ok.out 0 B2 P2 hE.out hB2.out hP2.out).mono ?_; rintro e w6 ⟨⟨AB6, cb6, AP6, cp6, rfl, d6⟩, hb6⟩; replace c3 := box_ext hb6 c3; replace d3 := d3.ext hb6; replace rk := rk.ext hb6; replace g := Lib.hid (bl_then g.out hb6); clear hb6)
    have ha := bl_alloc (Below.refl _ w6) (.cells #[.slice AB6 B2.length cb6, .slice AP6 P2.length cp6, .int .i64 f] 25)
    have c6 := box_new (Below.refl _ (w6.alloc (.cells #[.slice AB6 B2.length cb6, .slice AP6 P2.length cp6, .int .i64 f] 25)))
    replace c3 := box_ext ha c3
    replace d3 := d3.ext ha
    replace rk := rk.ext ha
    replace d6 := d6.ext ha
    replace g := Lib.hid (bl_then g.out ha)
    clear ha
    go_upto_region 6 with (go_at_call 27; refine (c_crash AB cb AP cp f _ B P d3 b1.out b0.out p1.out ok.out AK cK K rk C P3 hC.out hP3.out).mono ?_; rintro e w8 ⟨⟨AB8, cb8, AP8, cp8, rfl, d8⟩, hb8⟩; replace c3 := box_ext hb8 c3; replace c6 := box_ext hb8 c6; replace d3 := d3.ext hb8; replace rk := rk.ext hb8; replace d6 := d6.ext hb8; replace g := Lib.hid (bl_then g.out hb8); clear hb8)
    have ha := bl_alloc (Below.refl _ w8) (.cells #[.slice AB8 C.length cb8, .slice AP8 P3.length cp8, .int .i64 (-1)] 25)
    have c8 := box_new (Below.refl _ (w8.alloc (.cells #[.slice AB8 C.length cb8, .slice AP8 P3.length cp8, .int .i64 (-1)] 25)))
    replace c3 := box_ext ha c3
    replace c6 := box_ext ha c6
    replace d3 := d3.ext ha
    replace rk := rk.ext ha
    replace d6 := d6.ext ha
    replace d8 := d8.ext ha
    replace g := Lib.hid (bl_then g.out ha)
    clear ha
    obtain ⟨W9, hW9⟩ : ∃ W, w8.alloc (.cells #[.slice AB8 C.length cb8, .slice AP8 P3.length cp8, .int .i64 (-1)] 25) = W := ⟨_, rfl⟩
    rw [hW9] at c3 c6 c8 d3 rk d6 d8 g ⊢
    clear hW9
    obtain ⟨i0, hi, hz0, hz1, hz2⟩ := info_parts info4
    go_wp2_with (at_make; refine wpList_make_full _ rfl _ _ 44 rfl W9.heap.size 4 i0 (.bool false) 1 Try.underlying44 hi hz0 hz1 .i64 .i64 _ _ P.length rfl rfl rfl rfl (by rw [hz2]; omega) (by simp only [maxLen]; omega) (Nat.le_refl _) ?_; intro w10 hown1 hgrow1; have Hb1 := Lib.hid (bl_grown (Below.refl _ _) hgrow1 (fun k hk => by cases hk)); have Ho1 := Lib.hid hown1; clear hgrow1 hown1)
    go_loopw [10] (fun i wr => ∃ k : Nat, k ≤ P.length ∧ i = .int .i64 k ∧ Hid (wr.ownsRow W9.heap.size 4 1 (.slice (some ⟨W9.heap.size, 0, none⟩) P.length P.length) P.length ((List.replicate k true ++ List.replicate (P.length - k) false).map encL)) ∧ Hid (Below W9.heap.size W9 wr)) (fun i _ => P.length - (intOf i).toNat)
    case atStart => exact ⟨0, Nat.zero_le _, rfl, by have h := Ho1.out; rw [made_l] at h; exact h, Hb1.out⟩
    case round =>
      obtain ⟨k, hk, rfl, Ho, Hb⟩ := hrel
      by_cases hlt : k < P.length
      · have hce := Ho.cellAt k (by omega)
        have hfe := Ho.frozenAt k
        have hx := fillL_at k P.length hlt
        rw [hx] at hce
        clear hx
        go_wp2_with fail
        go_roundw
        case rel =>
          refine ⟨k + 1, by omega, by go_num, ?_, bl_set Hb (Nat.le_refl _) _⟩
          rw [← fillL_step k P.length hlt]
          exact (Ho.stored k (.bool true)).1
        case measure => simp [intOf]; omega
      · have rT : RL wr (some ⟨W9.heap.size, 0, none⟩) T := by
          have hk' : k = P.length := by omega
          have h := Ho.out
          rw [hk', Nat.sub_self, List.replicate_zero, List.append_nil, hT.out] at h
          exact rl_own h lT.out
        replace c3 := box_ext Hb.out c3
        replace c6 := box_ext Hb.out c6
        replace c8 := box_ext Hb.out c8
        replace d3 := d3.ext Hb.out
        replace rk := rk.ext Hb.out
        replace d6 := d6.ext Hb.out
        replace d8 := d8.ext Hb.out
        replace g := Lib.hid (bl_then g.out Hb.out)
        have nC' := nC.out
        have nP' := nP.out
        go_upto_region 11 with fail
        clear Hb Ho Hb1 Ho1
        go_cut [76] (fun s wx => s = .bool false ∧ Below wr.heap.size wr wx)
        case first =>
          have gw := Lib.hid (bl_drew (Below.refl _ wr))
          have ha := bl_drew (Below.refl _ wr)
          replace c3 := box_ext ha c3
          replace c6 := box_ext ha c6
          replace c8 := box_ext ha c8
          replace d3 := d3.ext ha
          replace rk := rk.ext ha
          replace d6 := d6.ext ha
          replace d8 := d8.ext ha
          replace rT := rT.ext ha
          replace g := Lib.hid (bl_then g.out ha)
          clear ha
          go_region_held3 (fun W' => (W'.cell? ⟨w.heap.size, 0, none⟩ = some (.slice AB B.length cb) ∧ W'.cell? ⟨w.heap.size, 1, none⟩ = some (.slice AP P.length cp) ∧ W'.cell? ⟨w.heap.size, 2, none⟩ = some (.int .i64 f)) ∧ (W'.cell? ⟨w6.heap.size, 0, none⟩ = some (.slice AB6 B2.length cb6) ∧ W'.cell? ⟨w6.heap.size, 1, none⟩ = some (.slice AP6 P2.length cp6) ∧ W'.cell? ⟨w6.heap.size, 2, none⟩ = some (.int .i64 f)) ∧ (W'.cell? ⟨w8.heap.size, 0, none⟩ = some (.slice AB8 C.length cb8) ∧ W'.cell? ⟨w8.heap.size, 1, none⟩ = some (.slice AP8 P3.length cp8) ∧ W'.cell? ⟨w8.heap.size, 2, none⟩ = some (.int .i64 (-1))))
            (with_reducible exact ⟨c3, c6, c8⟩)
            (first
              | (go_at_call_of 27 (Value.agg #[.slice AB6 B2.length cb6, .slice AP6 P2.length cp6, .int .i64 f]); refine (c_crash AB6 cb6 AP6 cp6 f _ B2 P2 d6 b2.out b3.out p2.out o2.out AK cK K rk B2 P3 k1.out hP3.out).mono ?_; rintro e w16 ⟨⟨AB27, cb27, AP27, cp27, rfl, d27⟩, hb16⟩; (try replace d28 := d28.ext hb16); replace c3 := box_ext hb16 c3; replace c6 := box_ext hb16 c6; replace c8 := box_ext hb16 c8; replace d3 := d3.ext hb16; replace rT := rT.ext hb16; replace d6 := d6.ext hb16; replace rk := rk.ext hb16; replace gw := Lib.hid (bl_then gw.out hb16); replace g := Lib.hid (bl_then g.out hb16); clear hb16)
              | (go_at_call_of 27 (Value.agg #[.slice AB B.length cb, .slice AP P.length cp, .int .i64 f]); refine (c_crashN AB cb AP cp f _ B P d3 b1.out b0.out p1.out ok.out (some ⟨W9.heap.size, 0, none⟩) P.length T rT _ lT.out B2 P3 k2.out hP3.out).mono ?_; rintro e w16 ⟨⟨AB28, cb28, AP28, cp28, rfl, d28⟩, hb16⟩; (try replace d27 := d27.ext hb16); replace c3 := box_ext hb16 c3; replace c6 := box_ext hb16 c6; replace c8 := box_ext hb16 c8; replace d3 := d3.ext hb16; replace rT := rT.ext hb16; replace d6 := d6.ext hb16; replace rk := rk.ext hb16; replace gw := Lib.hid (bl_then gw.out hb16); replace g := Lib.hid (bl_then g.out hb16); clear hb16)
              | (go_at_call 15; refine (c_rsame AB27 cb27 AP27 cp27 (-1) AB28 cb28 AP28 cp28 (-1) _ B2 P3 B2 P3 d27 d28 b2.out p3.out true S1.out).mono ?_; rintro e w16 ⟨rfl, hb16⟩; replace c3 := box_ext hb16 c3; replace c6 := box_ext hb16 c6; replace c8 := box_ext hb16 c8; replace gw := Lib.hid (bl_then gw.out hb16); replace g := Lib.hid (bl_then g.out hb16); clear hb16)
              | fail)
          all_goals (go_wp2_with fail; go_meet)
          all_goals exact ⟨rfl, gw.out⟩
        case rest =>
          obtain ⟨rfl, gw⟩ := hcut
          replace c3 := box_ext gw c3
          replace c8 := box_ext gw c8
          replace d3 := d3.ext gw
          replace d8 := d8.ext gw
          replace g := Lib.hid (bl_then g.out gw)
          clear gw c6 d6 rk rT nC' nP'
          go_wp2_with fail
          have hB9 : (B.length : Int) ≤ 4096 := by have := b1.out; omega
          go_loopw [11] (fun i wr => ∃ j : Nat, j ≤ B.length ∧ i = .int .i64 j ∧ ∃ n, wr = wc.drewN n) (fun i _ => B.length - (intOf i).toNat)
          case atStart => exact ⟨0, Nat.zero_le _, rfl, 0, rfl⟩
          case round =>
            obtain ⟨j, hj, rfl, n, rfl⟩ := hrel
            by_cases hlt : j < B.length
            · have hltC : j < C.length := by have := lC'.out; omega
              obtain ⟨b1', o1', rfl, A1, x1, hv1, _, _, hR1⟩ := d3.1.plain.some_ hlt
              obtain ⟨b2', o2', rfl, A2, x2, hv2, _, _, hR2⟩ := d8.1.plain.some_ hltC
              replace hR1 := Lib.hid hR1
              replace hR2 := Lib.hid hR2
              obtain ⟨bv, hbv⟩ : ∃ x, (C[j] == B[j]) = x := ⟨_, rfl⟩
              have h0 : Hid (isTo B C P j 0 = bv) := by show _ = _; rw [isTo, ← hbv]; simp [hlt, hltC]
              replace hbv := Lib.hid hbv
              go_wp2_with fail
              go_quiet ((go_at_call 21; exact quiet2 (same_any' _ _ _ _ _ _ _ bv (hR2.out.ext (by repeat (first | exact Below.refl _ _ | apply bl_drewN))) (hR1.out.ext (by repeat (first | exact Below.refl _ _ | apply bl_drewN))) hbv.out)))
              go_wp2_with fail
              go_loopw [12, 13] (fun s i wr => ∃ q : Nat, q ≤ P.length ∧ i = .int .i64 q ∧ ∃ bq, s = .bool bq ∧ Hid (isTo B C P j q = bq) ∧ ∃ n, wr = wc.drewN n) (fun _ i _ => P.length - (intOf i).toNat)
              case atStart => exact ⟨0, Nat.zero_le _, rfl, bv, rfl, h0, by first | exact ⟨_, rfl⟩ | exact ex_drew⟩
              case round =>
                obtain ⟨q, hq, rfl, bq, rfl, hbq, n, rfl⟩ := hrel
                by_cases hlq : q < P.length
                · obtain ⟨b3', o3', rfl, hv0, A3, x3, hv3, hR3⟩ := d3.2.1.some_ hlq
                  have HS := Lib.hid (isTo_succ (B := B) (C := C) (P := P) (j := j) hlq)
                  replace hR3 : Hid (RB wc A3 P[q].2) := by
                    obtain ⟨A4, x4, e4, _, _, r4⟩ := hR3
                    injection e4 with e5 e6 e7
                    subst e5
                    exact r4.plain
                  cases bq
                  · cases h5 : P[q].1 == (j : Int)
                    · have H6 : Hid (isTo B C P j (q + 1) = false) := by show _ = _; rw [HS.out, hbq.out, h5]; rfl
                      go_wp2_with fail
                      go_quiet (fail)
                      go_wp2_with fail
                      go_roundw
                      case rel => exact ⟨q + 1, by omega, by go_num, _, rfl, H6, by first | exact ⟨_, rfl⟩ | exact ex_drew | exact ex_drew3⟩
                      case measure => simp [intOf]; omega
                    · obtain ⟨b6, hb6⟩ : ∃ x, (C[j] == P[q].2) = x := ⟨_, rfl⟩
                      have H6 : Hid (isTo B C P j (q + 1) = b6) := by show _ = _; rw [HS.out, hbq.out, h5, ← hb6]; simp [hltC]
                      replace hb6 := Lib.hid hb6
                      go_wp2_with fail
                      go_quiet ((go_at_call 21; exact quiet2 (same_any' _ _ _ _ _ _ _ b6 (hR2.out.ext (by repeat (first | exact Below.refl _ _ | apply bl_drewN))) (hR3.out.ext (by repeat (first | exact Below.refl _ _ | apply bl_drewN))) hb6.out)))
                      go_wp2_with fail
                      go_roundw
                      case rel => exact ⟨q + 1, by omega, by go_num, _, rfl, H6, by first | exact ⟨_, rfl⟩ | exact ex_drew | exact ex_drew3⟩
                      case measure => simp [intOf]; omega
                  · have H6 : Hid (isTo B C P j (q + 1) = true) := by show _ = _; rw [HS.out, hbq.out]; rfl
                    go_wp2_with fail
                    go_quiet (fail)
                    go_wp2_with fail
                    go_roundw
                    case rel => exact ⟨q + 1, by omega, by go_num, _, rfl, H6, by first | exact ⟨_, rfl⟩ | exact ex_drew | exact ex_drew3⟩
                    case measure => simp [intOf]; omega
                · obtain rfl : bq = true := by
                    have e : q = P.length := by omega
                    rw [← hbq.out, e]; exact hget.out j
                  go_wp2_with fail
                  go_roundw
                  case rel => exact ⟨j + 1, by omega, by go_num, _, rfl⟩
                  case measure => simp [intOf]; omega
            · go_wp2_with fail
              go_ret
              exact ⟨rfl, bl_drewN g.out _⟩
end Go.Proofs.Ytkfalgdhpojejaa
