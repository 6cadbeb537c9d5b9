import Derived.Test.YtkfalgdhpojejaaV
namespace Go.Proofs.Ytkfalgdhpojejaa
open Go.RowKit

theorem small_le {B : List (List UInt8)} {P : List PutD} (h : smallD B P 40 = true) : B.length ≤ 40 ∧ P.length ≤ 40 := by
  unfold smallD at h
  simp only [Bool.and_eq_true, decide_eq_true_eq] at h
  exact ⟨by omega, by omega⟩
theorem newB_len {n : Int} : (newB n).length ≤ 4096 := by
  unfold newB; split
  · simp; omega
  · simp
theorem sameD_self (B : List (List UInt8)) (P : List PutD) (f : Int) : sameD B P f B P f = true := by simp [sameD]
theorem c_small (AB : Option Addr) (cb : Nat) (AP : Option Addr) (cp : Nat) (f m : Int) (w : World) (B : List (List UInt8)) (P : List PutD) (hD : OkD w AB AP cp B P) (hlB : B.length ≤ 140737488351232) (hlP : P.length ≤ 140737488351232) (b : Bool) (hb : smallD B P m = b) :
    Calls Try.prog 11 #[.agg #[.slice AB B.length cb, .slice AP P.length cp, .int .i64 f], .int .i64 m] w fun e w' => e = .returned (.bool b) ∧ Below w.heap.size w w' := by
  subst hb; exact small_any AB cb AP cp f m w B P hD.1.plain hD.2.1.plain hlB hlP
theorem box_ext4 {w w' : World} {b1 b2 b3 b4 : Nat} {x1 y1 z1 x2 y2 z2 x3 y3 z3 x4 y4 z4 : Value} (hb : Below w.heap.size w w')
    (h : (w.cell? ⟨b1, 0, none⟩ = some x1 ∧ w.cell? ⟨b1, 1, none⟩ = some y1 ∧ w.cell? ⟨b1, 2, none⟩ = some z1) ∧ (w.cell? ⟨b2, 0, none⟩ = some x2 ∧ w.cell? ⟨b2, 1, none⟩ = some y2 ∧ w.cell? ⟨b2, 2, none⟩ = some z2) ∧ (w.cell? ⟨b3, 0, none⟩ = some x3 ∧ w.cell? ⟨b3, 1, none⟩ = some y3 ∧ w.cell? ⟨b3, 2, none⟩ = some z3) ∧ (w.cell? ⟨b4, 0, none⟩ = some x4 ∧ w.cell? ⟨b4, 1, none⟩ = some y4 ∧ w.cell? ⟨b4, 2, none⟩ = some z4)) :
    (w'.cell? ⟨b1, 0, none⟩ = some x1 ∧ w'.cell? ⟨b1, 1, none⟩ = some y1 ∧ w'.cell? ⟨b1, 2, none⟩ = some z1) ∧ (w'.cell? ⟨b2, 0, none⟩ = some x2 ∧ w'.cell? ⟨b2, 1, none⟩ = some y2 ∧ w'.cell? ⟨b2, 2, none⟩ = some z2) ∧ (w'.cell? ⟨b3, 0, none⟩ = some x3 ∧ w'.cell? ⟨b3, 1, none⟩ = some y3 ∧ w'.cell? ⟨b3, 2, none⟩ = some z3) ∧ (w'.cell? ⟨b4, 0, none⟩ = some x4 ∧ w'.cell? ⟨b4, 1, none⟩ = some y4 ∧ w'.cell? ⟨b4, 2, none⟩ = some z4) :=
  ⟨box_ext hb h.1, box_ext hb h.2.1, box_ext hb h.2.2.1, box_ext hb h.2.2.2⟩

set_option maxRecDepth 20000 in
set_option maxHeartbeats 4000000 in
theorem tells_any (AB : Option Addr) (cb : Nat) (AP : Option Addr) (cp : Nat) (f : Int) (AB' : Option Addr) (cb' : Nat) (AP' : Option Addr) (cp' : Nat) (f' n at_ : Int) (w : World) (B : List (List UInt8)) (P : List PutD) (B' : List (List UInt8)) (P' : List PutD)
    (hD : OkD w AB AP cp B P) (hD' : OkD w AB' AP' cp' B' P') (hlB : B.length ≤ 140737488351232) (hlP : P.length ≤ 140737488351232) (hlB' : B'.length ≤ 140737488351232) (hlP' : P'.length ≤ 140737488351232) (hn : -9223372036854775808 ≤ n) (hn' : n ≤ 9223372036854775807) :
    Calls Try.prog 3 #[.agg #[.slice AB B.length cb, .slice AP P.length cp, .int .i64 f, .slice AB' B'.length cb', .slice AP' P'.length cp', .int .i64 f', .int .i64 n, .int .i64 at_]] w fun e w' => e = .returned (.bool true) ∧ Below w.heap.size w w' := by
  have g0 := bl_alloc (bl_alloc (bl_alloc (Below.refl _ w) (.cells #[.slice AB B.length cb, .slice AP P.length cp, .int .i64 f, .slice AB' B'.length cb', .slice AP' P'.length cp', .int .i64 f', .int .i64 n, .int .i64 at_] 27)) (.cells #[.slice AB B.length cb, .slice AP P.length cp, .int .i64 f] 25)) (.cells #[.slice AB' B'.length cb', .slice AP' P'.length cp', .int .i64 f'] 25)
  have g := Lib.hid g0
  have d3 := hD.ext g0
  have d4 := hD'.ext g0
  clear hD hD' g0
  have N1 := Lib.hid hn
  have N2 := Lib.hid hn'
  have L1 := Lib.hid hlB
  have L2 := Lib.hid hlP
  have L3 := Lib.hid hlB'
  have L4 := Lib.hid hlP'
  clear hn hn' hlB hlP hlB' hlP'
  obtain ⟨P0, hP0⟩ : ∃ P : List PutD, P = [] := ⟨_, rfl⟩
  obtain ⟨nE, hnE⟩ : ∃ x, newE n = x := ⟨_, rfl⟩
  obtain ⟨nB, hnB⟩ : ∃ x, newB n = x := ⟨_, rfl⟩
  obtain ⟨nF, hnF⟩ : ∃ x, newF n = x := ⟨_, rfl⟩
  obtain ⟨rt, hrt⟩ : ∃ x, rightD B P = x := ⟨_, rfl⟩
  obtain ⟨sb, hsb⟩ : ∃ x, sameD B P f B' P' f' = x := ⟨_, rfl⟩
  obtain ⟨rE, hrE⟩ : ∃ x, readE B f at_ = x := ⟨_, rfl⟩
  obtain ⟨rB, hrB⟩ : ∃ x, readB B P f at_ = x := ⟨_, rfl⟩
  have lN := Lib.hid (show nB.length ≤ 4096 from hnB ▸ newB_len)
  have lP0 := Lib.hid (show P0.length ≤ 1000000 by subst hP0; simp)
  have hNN := Lib.hid (sameD_self nB P0 nF)
  have hRR := Lib.hid (show (rB == rB) = true by simp)
  replace hP0 := Lib.hid hP0
  replace hnE := Lib.hid hnE
  replace hnB := Lib.hid hnB
  replace hnF := Lib.hid hnF
  replace hrt := Lib.hid hrt
  replace hsb := Lib.hid hsb
  replace hrE := Lib.hid hrE
  replace hrB := Lib.hid hrB
  go_enter Try.func3, Try.ntmps3
  go_upto_region 6 with (go_at_call 10; refine (shown_any _).mono ?_; rintro e w1 ⟨rfl, hb⟩; obtain ⟨-, k3, k4, -, -, -, -⟩ := box3 hb; replace d3 := d3.ext hb; replace d4 := d4.ext hb; replace g := Lib.hid (bl_then g.out hb); clear hb)
  have c3 : w1.cell? ⟨w.heap.size + 1, 0, none⟩ = _ ∧ w1.cell? ⟨w.heap.size + 1, 1, none⟩ = _ ∧ w1.cell? ⟨w.heap.size + 1, 2, none⟩ = _ := ⟨k3 0, k3 1, k3 2⟩
  have c4 : w1.cell? ⟨w.heap.size + 1 + 1, 0, none⟩ = _ ∧ w1.cell? ⟨w.heap.size + 1 + 1, 1, none⟩ = _ ∧ w1.cell? ⟨w.heap.size + 1 + 1, 2, none⟩ = _ := ⟨k4 0, k4 1, k4 2⟩
  simp only [List.getElem?_toArray, List.getElem?_cons_zero, List.getElem?_cons_succ] at c3 c4
  clear k3 k4
  cases ha : smallD B P 40
  · go_wp2_with (go_at_call_of 11 (Value.agg #[.slice AB B.length cb, .slice AP P.length cp, .int .i64 f]); refine (c_small AB cb AP cp f 40 _ B P d3 L1.out L2.out false ha).mono ?_; rintro e w2 ⟨rfl, hb2⟩; replace g := Lib.hid (bl_then g.out hb2); clear hb2)
    go_ret
    exact ⟨rfl, g.out⟩
  cases hb : smallD B' P' 40
  · go_wp2_with (first | (go_at_call_of 11 (Value.agg #[.slice AB B.length cb, .slice AP P.length cp, .int .i64 f]); refine (c_small AB cb AP cp f 40 _ B P d3 L1.out L2.out true ha).mono ?_; rintro e w2 ⟨rfl, hb2⟩; replace d4 := d4.ext hb2; replace c4 := box_ext hb2 c4; replace g := Lib.hid (bl_then g.out hb2); clear hb2) | (go_at_call_of 11 (Value.agg #[.slice AB' B'.length cb', .slice AP' P'.length cp', .int .i64 f']); refine (c_small AB' cb' AP' cp' f' 40 _ B' P' d4 L3.out L4.out false hb).mono ?_; rintro e w2 ⟨rfl, hb2⟩; replace g := Lib.hid (bl_then g.out hb2); clear hb2))
    go_ret
    exact ⟨rfl, g.out⟩
  have l1 := Lib.hid (small_le ha)
  have l2 := Lib.hid (small_le hb)
  have h3 : n ≤ 100 ∨ (100 < n ∧ n ≤ 4096) ∨ (100 < n ∧ 4096 < n) := by omega
  rcases h3 with hn | ⟨hn, hm⟩ | ⟨hn, hm⟩
  · go_upto_region 8 with (first | (go_at_call_of 11 (Value.agg #[.slice AB B.length cb, .slice AP P.length cp, .int .i64 f]); refine (c_small AB cb AP cp f 40 _ B P d3 L1.out L2.out true ha).mono ?_; rintro e w2 ⟨rfl, hb2⟩; replace c3 := box_ext hb2 c3; replace c4 := box_ext hb2 c4; replace d3 := d3.ext hb2; replace d4 := d4.ext hb2; replace g := Lib.hid (bl_then g.out hb2); clear hb2) | (go_at_call_of 11 (Value.agg #[.slice AB' B'.length cb', .slice AP' P'.length cp', .int .i64 f']); refine (c_small AB' cb' AP' cp' f' 40 _ B' P' d4 L3.out L4.out true hb).mono ?_; rintro e w2 ⟨rfl, hb2⟩; replace c3 := box_ext hb2 c3; replace c4 := box_ext hb2 c4; replace d3 := d3.ext hb2; replace d4 := d4.ext hb2; replace g := Lib.hid (bl_then g.out hb2); clear hb2))
    clear ha hb
    go_upto_region 9 with (go_at_call 12; refine (c_new n _ N1.out N2.out nE nB P0 nF hnE.out hnB.out hP0.out hnF.out).mono ?_; rintro e w8 ⟨⟨AB8, cb8, AP8, cp8, rfl, d8⟩, hb8⟩; replace c3 := box_ext hb8 c3; replace c4 := box_ext hb8 c4; replace d3 := d3.ext hb8; replace d4 := d4.ext hb8; replace g := Lib.hid (bl_then g.out hb8); clear hb8)
    have ha8 := bl_alloc (Below.refl _ w8) (.cells #[.slice AB8 nB.length cb8, .slice AP8 P0.length cp8, .int .i64 nF] 25)
    have c8 := box_new (Below.refl _ (w8.alloc (.cells #[.slice AB8 nB.length cb8, .slice AP8 P0.length cp8, .int .i64 nF] 25)))
    replace c3 := box_ext ha8 c3
    replace c4 := box_ext ha8 c4
    replace d3 := d3.ext ha8
    replace d4 := d4.ext ha8
    replace d8 := d8.ext ha8
    replace g := Lib.hid (bl_then g.out ha8)
    clear ha8
    go_upto_region 10 with (go_at_call 13; refine (c_rnew n _ N1.out N2.out nE nB P0 nF hnE.out hnB.out hP0.out hnF.out).mono ?_; rintro e w9 ⟨⟨AB9, cb9, AP9, cp9, rfl, d9⟩, hb9⟩; replace c3 := box_ext hb9 c3; replace c4 := box_ext hb9 c4; replace c8 := box_ext hb9 c8; replace d3 := d3.ext hb9; replace d4 := d4.ext hb9; replace d8 := d8.ext hb9; replace g := Lib.hid (bl_then g.out hb9); clear hb9)
    have ha9 := bl_alloc (Below.refl _ w9) (.cells #[.slice AB9 nB.length cb9, .slice AP9 P0.length cp9, .int .i64 nF] 25)
    have c9 := box_new (Below.refl _ (w9.alloc (.cells #[.slice AB9 nB.length cb9, .slice AP9 P0.length cp9, .int .i64 nF] 25)))
    replace c3 := box_ext ha9 c3
    replace c4 := box_ext ha9 c4
    replace c8 := box_ext ha9 c8
    replace d3 := d3.ext ha9
    replace d4 := d4.ext ha9
    replace d8 := d8.ext ha9
    replace d9 := d9.ext ha9
    replace g := Lib.hid (bl_then g.out ha9)
    clear ha9
    have m1 := Lib.hid (show B.length ≤ 4096 by have := l1.out; omega)
    have m2 := Lib.hid (show P.length ≤ 1000000 by have := l1.out; omega)
    go_upto_region 11 with (go_at_call 14; refine (c_rright AB cb AP cp f _ B P d3 m1.out m2.out rt hrt.out).mono ?_; rintro e w10 ⟨rfl, hb10⟩; replace c3 := box_ext hb10 c3; replace c4 := box_ext hb10 c4; replace c8 := box_ext hb10 c8; replace c9 := box_ext hb10 c9; replace d3 := d3.ext hb10; replace d4 := d4.ext hb10; replace d8 := d8.ext hb10; replace d9 := d9.ext hb10; replace g := Lib.hid (bl_then g.out hb10); clear hb10)
    have hb11 := bl_drew (Below.refl _ w10)
    replace d3 := d3.ext hb11
    replace d4 := d4.ext hb11
    replace d8 := d8.ext hb11
    replace d9 := d9.ext hb11
    replace c3 := box_ext hb11 c3
    replace c4 := box_ext hb11 c4
    replace c8 := box_ext hb11 c8
    replace c9 := box_ext hb11 c9
    replace g := Lib.hid (bl_then g.out hb11)
    clear hb11
    go_region_held3 (fun W' => (W'.cell? ⟨w.heap.size + 1, 0, none⟩ = some (.slice AB B.length cb) ∧ W'.cell? ⟨w.heap.size + 1, 1, none⟩ = some (.slice AP P.length cp) ∧ W'.cell? ⟨w.heap.size + 1, 2, none⟩ = some (.int .i64 f)) ∧ (W'.cell? ⟨w.heap.size + 1 + 1, 0, none⟩ = some (.slice AB' B'.length cb') ∧ W'.cell? ⟨w.heap.size + 1 + 1, 1, none⟩ = some (.slice AP' P'.length cp') ∧ W'.cell? ⟨w.heap.size + 1 + 1, 2, none⟩ = some (.int .i64 f')) ∧ (W'.cell? ⟨w8.heap.size, 0, none⟩ = some (.slice AB8 nB.length cb8) ∧ W'.cell? ⟨w8.heap.size, 1, none⟩ = some (.slice AP8 P0.length cp8) ∧ W'.cell? ⟨w8.heap.size, 2, none⟩ = some (.int .i64 nF)) ∧ (W'.cell? ⟨w9.heap.size, 0, none⟩ = some (.slice AB9 nB.length cb9) ∧ W'.cell? ⟨w9.heap.size, 1, none⟩ = some (.slice AP9 P0.length cp9) ∧ W'.cell? ⟨w9.heap.size, 2, none⟩ = some (.int .i64 nF)))
      (with_reducible exact ⟨c3, c4, c8, c9⟩)
      (first
        | (go_at_call_of 15 (Value.agg #[.slice AB8 nB.length cb8, .slice AP8 P0.length cp8, .int .i64 nF]); refine (c_rsame AB8 cb8 AP8 cp8 nF AB9 cb9 AP9 cp9 nF _ nB P0 nB P0 d8 d9 lN.out lP0.out true hNN.out).mono ?_; rintro e w12 ⟨rfl, hb12⟩; replace c3 := box_ext hb12 c3; replace c4 := box_ext hb12 c4; replace c8 := box_ext hb12 c8; replace c9 := box_ext hb12 c9; replace d3 := d3.ext hb12; replace d4 := d4.ext hb12; replace g := Lib.hid (bl_then g.out hb12); clear hb12)
        | (go_at_call 16; refine (c_right AB cb AP cp f _ B P d3 m1.out m2.out rt hrt.out).mono ?_; rintro e w12 ⟨rfl, hb12⟩; replace c3 := box_ext hb12 c3; replace c4 := box_ext hb12 c4; replace c8 := box_ext hb12 c8; replace c9 := box_ext hb12 c9; replace d3 := d3.ext hb12; replace d4 := d4.ext hb12; replace g := Lib.hid (bl_then g.out hb12); clear hb12)
        | (go_at_call 17; refine (c_off AB B.length cb AP P.length cp f _ (f == 0) rfl).mono ?_; rintro e w12 ⟨rfl, hb12⟩; replace c3 := box_ext hb12 c3; replace c4 := box_ext hb12 c4; replace c8 := box_ext hb12 c8; replace c9 := box_ext hb12 c9; replace d3 := d3.ext hb12; replace d4 := d4.ext hb12; replace g := Lib.hid (bl_then g.out hb12); clear hb12)
        | (go_at_call 18; refine (c_dsame AB cb AP cp f AB' cb' AP' cp' f' _ B P B' P' d3 d4 m1.out m2.out sb hsb.out).mono ?_; rintro e w12 ⟨rfl, hb12⟩; replace c3 := box_ext hb12 c3; replace c4 := box_ext hb12 c4; replace c8 := box_ext hb12 c8; replace c9 := box_ext hb12 c9; replace d3 := d3.ext hb12; replace d4 := d4.ext hb12; replace g := Lib.hid (bl_then g.out hb12); clear hb12)
        | (go_at_call_of 15 (Value.agg #[.slice AB B.length cb, .slice AP P.length cp, .int .i64 f]); refine (c_rsame AB cb AP cp f AB' cb' AP' cp' f' _ B P B' P' d3 d4 m1.out m2.out sb hsb.out).mono ?_; rintro e w12 ⟨rfl, hb12⟩; replace c3 := box_ext hb12 c3; replace c4 := box_ext hb12 c4; replace c8 := box_ext hb12 c8; replace c9 := box_ext hb12 c9; replace d3 := d3.ext hb12; replace d4 := d4.ext hb12; replace g := Lib.hid (bl_then g.out hb12); clear hb12))
    clear d4 d8 d9 c4 c8 c9
    cases rt
    · go_wp2_with fail
      go_ret
      exact ⟨rfl, g.out⟩
    · go_wp2_with (first
        | (go_at_call 19; refine (c_read AB cb AP cp f at_ _ B P d3 m1.out m2.out rE rB hrE.out hrB.out).mono ?_; rintro e w13 ⟨⟨A13, cc13, rfl, b13⟩, hb13⟩; replace c3 := box_ext hb13 c3; replace d3 := d3.ext hb13; replace g := Lib.hid (bl_then g.out hb13); clear hb13)
        | (go_at_call 20; refine (c_rread AB cb AP cp f at_ _ B P d3 m1.out m2.out rE rB hrE.out hrB.out).mono ?_; rintro e w14 ⟨⟨A14, cc14, rfl, b14⟩, hb14⟩; replace b13 := b13.ext hb14; replace g := Lib.hid (bl_then g.out hb14); clear hb14)
        | (go_at_call 21; refine (c_same A13 cc13 rB A14 cc14 rB _ b13 b14 true hRR.out).mono ?_; rintro e w15 ⟨rfl, hb15⟩; replace g := Lib.hid (bl_then g.out hb15); clear hb15))
      go_ret
      exact ⟨ret_bool (by simp), g.out⟩
  · go_wp2_with (first | (go_at_call_of 11 (Value.agg #[.slice AB B.length cb, .slice AP P.length cp, .int .i64 f]); refine (c_small AB cb AP cp f 40 _ B P d3 L1.out L2.out true ha).mono ?_; rintro e w2 ⟨rfl, hb2⟩; replace c3 := box_ext hb2 c3; replace c4 := box_ext hb2 c4; replace d3 := d3.ext hb2; replace d4 := d4.ext hb2; replace g := Lib.hid (bl_then g.out hb2); clear hb2) | (go_at_call_of 11 (Value.agg #[.slice AB' B'.length cb', .slice AP' P'.length cp', .int .i64 f']); refine (c_small AB' cb' AP' cp' f' 40 _ B' P' d4 L3.out L4.out true hb).mono ?_; rintro e w2 ⟨rfl, hb2⟩; replace c3 := box_ext hb2 c3; replace c4 := box_ext hb2 c4; replace d3 := d3.ext hb2; replace d4 := d4.ext hb2; replace g := Lib.hid (bl_then g.out hb2); clear hb2))
    go_ret
    exact ⟨rfl, g.out⟩
  · go_upto_region 8 with (first | (go_at_call_of 11 (Value.agg #[.slice AB B.length cb, .slice AP P.length cp, .int .i64 f]); refine (c_small AB cb AP cp f 40 _ B P d3 L1.out L2.out true ha).mono ?_; rintro e w2 ⟨rfl, hb2⟩; replace c3 := box_ext hb2 c3; replace c4 := box_ext hb2 c4; replace d3 := d3.ext hb2; replace d4 := d4.ext hb2; replace g := Lib.hid (bl_then g.out hb2); clear hb2) | (go_at_call_of 11 (Value.agg #[.slice AB' B'.length cb', .slice AP' P'.length cp', .int .i64 f']); refine (c_small AB' cb' AP' cp' f' 40 _ B' P' d4 L3.out L4.out true hb).mono ?_; rintro e w2 ⟨rfl, hb2⟩; replace c3 := box_ext hb2 c3; replace c4 := box_ext hb2 c4; replace d3 := d3.ext hb2; replace d4 := d4.ext hb2; replace g := Lib.hid (bl_then g.out hb2); clear hb2))
    clear ha hb
    go_upto_region 9 with (go_at_call 12; refine (c_new n _ N1.out N2.out nE nB P0 nF hnE.out hnB.out hP0.out hnF.out).mono ?_; rintro e w8 ⟨⟨AB8, cb8, AP8, cp8, rfl, d8⟩, hb8⟩; replace c3 := box_ext hb8 c3; replace c4 := box_ext hb8 c4; replace d3 := d3.ext hb8; replace d4 := d4.ext hb8; replace g := Lib.hid (bl_then g.out hb8); clear hb8)
    have ha8 := bl_alloc (Below.refl _ w8) (.cells #[.slice AB8 nB.length cb8, .slice AP8 P0.length cp8, .int .i64 nF] 25)
    have c8 := box_new (Below.refl _ (w8.alloc (.cells #[.slice AB8 nB.length cb8, .slice AP8 P0.length cp8, .int .i64 nF] 25)))
    replace c3 := box_ext ha8 c3
    replace c4 := box_ext ha8 c4
    replace d3 := d3.ext ha8
    replace d4 := d4.ext ha8
    replace d8 := d8.ext ha8
    replace g := Lib.hid (bl_then g.out ha8)
    clear ha8
    go_upto_region 10 with (go_at_call 13; refine (c_rnew n _ N1.out N2.out nE nB P0 nF hnE.out hnB.out hP0.out hnF.out).mono ?_; rintro e w9 ⟨⟨AB9, cb9, AP9, cp9, rfl, d9⟩, hb9⟩; replace c3 := box_ext hb9 c3; replace c4 := box_ext hb9 c4; replace c8 := box_ext hb9 c8; replace d3 := d3.ext hb9; replace d4 := d4.ext hb9; replace d8 := d8.ext hb9; replace g := Lib.hid (bl_then g.out hb9); clear hb9)
    have ha9 := bl_alloc (Below.refl _ w9) (.cells #[.slice AB9 nB.length cb9, .slice AP9 P0.length cp9, .int .i64 nF] 25)
    have c9 := box_new (Below.refl _ (w9.alloc (.cells #[.slice AB9 nB.length cb9, .slice AP9 P0.length cp9, .int .i64 nF] 25)))
    replace c3 := box_ext ha9 c3
    replace c4 := box_ext ha9 c4
    replace c8 := box_ext ha9 c8
    replace d3 := d3.ext ha9
    replace d4 := d4.ext ha9
    replace d8 := d8.ext ha9
    replace d9 := d9.ext ha9
    replace g := Lib.hid (bl_then g.out ha9)
    clear ha9
    have m1 := Lib.hid (show B.length ≤ 4096 by have := l1.out; omega)
    have m2 := Lib.hid (show P.length ≤ 1000000 by have := l1.out; omega)
    go_upto_region 11 with (go_at_call 14; refine (c_rright AB cb AP cp f _ B P d3 m1.out m2.out rt hrt.out).mono ?_; rintro e w10 ⟨rfl, hb10⟩; replace c3 := box_ext hb10 c3; replace c4 := box_ext hb10 c4; replace c8 := box_ext hb10 c8; replace c9 := box_ext hb10 c9; replace d3 := d3.ext hb10; replace d4 := d4.ext hb10; replace d8 := d8.ext hb10; replace d9 := d9.ext hb10; replace g := Lib.hid (bl_then g.out hb10); clear hb10)
    have hb11 := bl_drew (Below.refl _ w10)
    replace d3 := d3.ext hb11
    replace d4 := d4.ext hb11
    replace d8 := d8.ext hb11
    replace d9 := d9.ext hb11
    replace c3 := box_ext hb11 c3
    replace c4 := box_ext hb11 c4
    replace c8 := box_ext hb11 c8
    replace c9 := box_ext hb11 c9
    replace g := Lib.hid (bl_then g.out hb11)
    clear hb11
    go_region_held3 (fun W' => (W'.cell? ⟨w.heap.size + 1, 0, none⟩ = some (.slice AB B.length cb) ∧ W'.cell? ⟨w.heap.size + 1, 1, none⟩ = some (.slice AP P.length cp) ∧ W'.cell? ⟨w.heap.size + 1, 2, none⟩ = some (.int .i64 f)) ∧ (W'.cell? ⟨w.heap.size + 1 + 1, 0, none⟩ = some (.slice AB' B'.length cb') ∧ W'.cell? ⟨w.heap.size + 1 + 1, 1, none⟩ = some (.slice AP' P'.length cp') ∧ W'.cell? ⟨w.heap.size + 1 + 1, 2, none⟩ = some (.int .i64 f')) ∧ (W'.cell? ⟨w8.heap.size, 0, none⟩ = some (.slice AB8 nB.length cb8) ∧ W'.cell? ⟨w8.heap.size, 1, none⟩ = some (.slice AP8 P0.length cp8) ∧ W'.cell? ⟨w8.heap.size, 2, none⟩ = some (.int .i64 nF)) ∧ (W'.cell? ⟨w9.heap.size, 0, none⟩ = some (.slice AB9 nB.length cb9) ∧ W'.cell? ⟨w9.heap.size, 1, none⟩ = some (.slice AP9 P0.length cp9) ∧ W'.cell? ⟨w9.heap.size, 2, none⟩ = some (.int .i64 nF)))
      (with_reducible exact ⟨c3, c4, c8, c9⟩)
      (first
        | (go_at_call_of 15 (Value.agg #[.slice AB8 nB.length cb8, .slice AP8 P0.length cp8, .int .i64 nF]); refine (c_rsame AB8 cb8 AP8 cp8 nF AB9 cb9 AP9 cp9 nF _ nB P0 nB P0 d8 d9 lN.out lP0.out true hNN.out).mono ?_; rintro e w12 ⟨rfl, hb12⟩; replace c3 := box_ext hb12 c3; replace c4 := box_ext hb12 c4; replace c8 := box_ext hb12 c8; replace c9 := box_ext hb12 c9; replace d3 := d3.ext hb12; replace d4 := d4.ext hb12; replace g := Lib.hid (bl_then g.out hb12); clear hb12)
        | (go_at_call 16; refine (c_right AB cb AP cp f _ B P d3 m1.out m2.out rt hrt.out).mono ?_; rintro e w12 ⟨rfl, hb12⟩; replace c3 := box_ext hb12 c3; replace c4 := box_ext hb12 c4; replace c8 := box_ext hb12 c8; replace c9 := box_ext hb12 c9; replace d3 := d3.ext hb12; replace d4 := d4.ext hb12; replace g := Lib.hid (bl_then g.out hb12); clear hb12)
        | (go_at_call 17; refine (c_off AB B.length cb AP P.length cp f _ (f == 0) rfl).mono ?_; rintro e w12 ⟨rfl, hb12⟩; replace c3 := box_ext hb12 c3; replace c4 := box_ext hb12 c4; replace c8 := box_ext hb12 c8; replace c9 := box_ext hb12 c9; replace d3 := d3.ext hb12; replace d4 := d4.ext hb12; replace g := Lib.hid (bl_then g.out hb12); clear hb12)
        | (go_at_call 18; refine (c_dsame AB cb AP cp f AB' cb' AP' cp' f' _ B P B' P' d3 d4 m1.out m2.out sb hsb.out).mono ?_; rintro e w12 ⟨rfl, hb12⟩; replace c3 := box_ext hb12 c3; replace c4 := box_ext hb12 c4; replace c8 := box_ext hb12 c8; replace c9 := box_ext hb12 c9; replace d3 := d3.ext hb12; replace d4 := d4.ext hb12; replace g := Lib.hid (bl_then g.out hb12); clear hb12)
        | (go_at_call_of 15 (Value.agg #[.slice AB B.length cb, .slice AP P.length cp, .int .i64 f]); refine (c_rsame AB cb AP cp f AB' cb' AP' cp' f' _ B P B' P' d3 d4 m1.out m2.out sb hsb.out).mono ?_; rintro e w12 ⟨rfl, hb12⟩; replace c3 := box_ext hb12 c3; replace c4 := box_ext hb12 c4; replace c8 := box_ext hb12 c8; replace c9 := box_ext hb12 c9; replace d3 := d3.ext hb12; replace d4 := d4.ext hb12; replace g := Lib.hid (bl_then g.out hb12); clear hb12))
    clear d4 d8 d9 c4 c8 c9
    cases rt
    · go_wp2_with fail
      go_ret
      exact ⟨rfl, g.out⟩
    · go_wp2_with (first
        | (go_at_call 19; refine (c_read AB cb AP cp f at_ _ B P d3 m1.out m2.out rE rB hrE.out hrB.out).mono ?_; rintro e w13 ⟨⟨A13, cc13, rfl, b13⟩, hb13⟩; replace c3 := box_ext hb13 c3; replace d3 := d3.ext hb13; replace g := Lib.hid (bl_then g.out hb13); clear hb13)
        | (go_at_call 20; refine (c_rread AB cb AP cp f at_ _ B P d3 m1.out m2.out rE rB hrE.out hrB.out).mono ?_; rintro e w14 ⟨⟨A14, cc14, rfl, b14⟩, hb14⟩; replace b13 := b13.ext hb14; replace g := Lib.hid (bl_then g.out hb14); clear hb14)
        | (go_at_call 21; refine (c_same A13 cc13 rB A14 cc14 rB _ b13 b14 true hRR.out).mono ?_; rintro e w15 ⟨rfl, hb15⟩; replace g := Lib.hid (bl_then g.out hb15); clear hb15))
      go_ret
      exact ⟨ret_bool (by simp), g.out⟩
end Go.Proofs.Ytkfalgdhpojejaa
