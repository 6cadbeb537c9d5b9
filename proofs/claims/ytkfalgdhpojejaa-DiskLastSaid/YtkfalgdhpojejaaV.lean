import Derived.Test.YtkfalgdhpojejaaU
import Derived.Deep.RegionHeld3
import Derived.Deep.DeepCutAuto
namespace Go.Proofs.Ytkfalgdhpojejaa
open Go.RowKit

/-- What a disk's two slices hold; nothing of it lies in blocks from s up to n. -/
def OkS (s n : Nat) (w : World) (AB AP : Option Addr) (cp : Nat) (B : List (List UInt8)) (P : List PutD) : Prop :=
  RBBF (fun b => b < s ∨ n ≤ b) w AB B ∧ RPF (fun b => b < s ∨ n ≤ b) w AP P ∧ P.length ≤ cp ∧ (AP = none → cp = 0)
theorem c_writeS (s : Nat) (AB : Option Addr) (cb : Nat) (AP : Option Addr) (cp : Nat) (f at_ : Int) (A : Option Addr) (c : Nat) (bs : List UInt8) (w : World) (B : List (List UInt8)) (P : List PutD) (hD : OkS s w.heap.size w AB AP cp B P) (hlP : P.length ≤ 1000000) (hR : OkB w A c bs) (hf : -9223372036854775808 ≤ f) (hf' : f ≤ 9223372036854775807)
    (E : Int) (P' : List PutD) (F : Int) (hE : writeE B f at_ bs = E) (hP' : writeP P E at_ bs = P') (hF : writeF f E = F) :
    Calls Try.prog 23 #[.agg #[.slice AB B.length cb, .slice AP P.length cp, .int .i64 f], .int .i64 at_, .slice A bs.length c] w fun e w' =>
      (∃ AB' cb' AP' cp', e = .returned (.tuple #[.agg #[.slice AB' B.length cb', .slice AP' P'.length cp', .int .i64 F], .int .i64 E]) ∧ OkS s w.heap.size w' AB' AP' cp' B P') ∧ Below w.heap.size w w' := by
  subst hE hP' hF
  refine (write_any _ AB cb AP cp f at_ A c bs w B P hD.1 hD.2.1 hD.2.2.1 hD.2.2.2 hlP hR.1.plain hR.2.2 hf hf').mono ?_
  rintro e w' ⟨⟨v, rfl, hv⟩, hb⟩
  obtain ⟨AB, cb, AP, cp, h1, h2, h3, h4, h5⟩ := hv
  subst h1
  exact ⟨⟨AB, cb, AP, cp, rfl, h4.mono (fun b h => h.elim id .inr), h5.mono (fun b h => h.elim id .inr), h2, h3⟩, hb⟩
theorem box1d {w w1 : World} {c1 : Array Value} {t1 : TypeId} (hb : Below (w.alloc (.cells c1 t1)).drew.heap.size (w.alloc (.cells c1 t1)).drew w1) :
    (∀ o, w1.cell? ⟨w.heap.size, o, none⟩ = c1[o]?) ∧ (∀ o, w1.frozen? ⟨w.heap.size, o, none⟩ = false) ∧ w.heap.size < w1.heap.size := box1 (w := w.drew) hb
theorem box_swap {w : World} {o o' : Obj} {b : Nat} {x y z : Value} (hb : b < w.heap.size) (h : (w.alloc o).cell? ⟨b, 0, none⟩ = some x ∧ (w.alloc o).cell? ⟨b, 1, none⟩ = some y ∧ (w.alloc o).cell? ⟨b, 2, none⟩ = some z) :
    (w.alloc o').cell? ⟨b, 0, none⟩ = some x ∧ (w.alloc o').cell? ⟨b, 1, none⟩ = some y ∧ (w.alloc o').cell? ⟨b, 2, none⟩ = some z := by
  obtain ⟨h1, h2, h3⟩ := h
  rw [World.cell?_alloc_lt _ _ _ hb] at h1 h2 h3
  exact ⟨by rw [World.cell?_alloc_lt _ _ _ hb]; exact h1, by rw [World.cell?_alloc_lt _ _ _ hb]; exact h2, by rw [World.cell?_alloc_lt _ _ _ hb]; exact h3⟩

theorem set_cell3 (w : World) (b : Nat) {x0 y0 z0 : Value} (x y z : Value) (h : w.cell? ⟨b, 0, none⟩ = some x0 ∧ w.cell? ⟨b, 1, none⟩ = some y0 ∧ w.cell? ⟨b, 2, none⟩ = some z0) :
    (((w.setCell ⟨b, 0, none⟩ x).setCell ⟨b, 1, none⟩ y).setCell ⟨b, 2, none⟩ z).cell? ⟨b, 0, none⟩ = some x ∧ (((w.setCell ⟨b, 0, none⟩ x).setCell ⟨b, 1, none⟩ y).setCell ⟨b, 2, none⟩ z).cell? ⟨b, 1, none⟩ = some y ∧ (((w.setCell ⟨b, 0, none⟩ x).setCell ⟨b, 1, none⟩ y).setCell ⟨b, 2, none⟩ z).cell? ⟨b, 2, none⟩ = some z := by
  obtain ⟨h1, h2, h3⟩ := h
  refine ⟨?_, ?_, ?_⟩
  · rw [World.cell?_setCell_other _ _ _ _ (by simp), World.cell?_setCell_other _ _ _ _ (by simp)]
    exact World.cell?_setCell_same' _ _ _ (by rw [h1]; rfl)
  · rw [World.cell?_setCell_other _ _ _ _ (by simp)]
    exact World.cell?_setCell_same' _ _ _ (by rw [World.cell?_setCell_other _ _ _ _ (by simp), h2]; rfl)
  · exact World.cell?_setCell_same' _ _ _ (by rw [World.cell?_setCell_other _ _ _ _ (by simp), World.cell?_setCell_other _ _ _ _ (by simp), h3]; rfl)
theorem box_set3 {w : World} {b b' : Nat} (hne : b ≠ b') {x y z u v t : Value} (h : w.cell? ⟨b, 0, none⟩ = some x ∧ w.cell? ⟨b, 1, none⟩ = some y ∧ w.cell? ⟨b, 2, none⟩ = some z) :
    (((w.setCell ⟨b', 0, none⟩ u).setCell ⟨b', 1, none⟩ v).setCell ⟨b', 2, none⟩ t).cell? ⟨b, 0, none⟩ = some x ∧ (((w.setCell ⟨b', 0, none⟩ u).setCell ⟨b', 1, none⟩ v).setCell ⟨b', 2, none⟩ t).cell? ⟨b, 1, none⟩ = some y ∧ (((w.setCell ⟨b', 0, none⟩ u).setCell ⟨b', 1, none⟩ v).setCell ⟨b', 2, none⟩ t).cell? ⟨b, 2, none⟩ = some z := by
  have hk : ∀ o, (((w.setCell ⟨b', 0, none⟩ u).setCell ⟨b', 1, none⟩ v).setCell ⟨b', 2, none⟩ t).cell? ⟨b, o, none⟩ = w.cell? ⟨b, o, none⟩ := fun o => by
    rw [World.cell?_setCell_far _ _ _ _ (Ne.symm hne), World.cell?_setCell_far _ _ _ _ (Ne.symm hne), World.cell?_setCell_far _ _ _ _ (Ne.symm hne)]
  exact ⟨by rw [hk]; exact h.1, by rw [hk]; exact h.2.1, by rw [hk]; exact h.2.2⟩
theorem OkS.okD {s n : Nat} {w : World} {AB AP : Option Addr} {cp : Nat} {B : List (List UInt8)} {P : List PutD} (h : OkS s n w AB AP cp B P) : OkD w AB AP cp B P :=
  ⟨h.1.mono fun _ _ => trivial, h.2.1.mono fun _ _ => trivial, h.2.2.1, h.2.2.2⟩
theorem OkS.set3 {s n b : Nat} {w : World} {AB AP : Option Addr} {cp : Nat} {B : List (List UInt8)} {P : List PutD} (h : OkS s n w AB AP cp B P) (h1 : s ≤ b) (h2 : b < n) (x y z : Value) :
    OkD (((w.setCell ⟨b, 0, none⟩ x).setCell ⟨b, 1, none⟩ y).setCell ⟨b, 2, none⟩ z) AB AP cp B P := by
  have hk : Kept (fun b => b < s ∨ n ≤ b) w (((w.setCell ⟨b, 0, none⟩ x).setCell ⟨b, 1, none⟩ y).setCell ⟨b, 2, none⟩ z) := (((Kept.refl _ w).set (by simp; omega) x).set (by simp; omega) y).set (by simp; omega) z
  exact ⟨(h.1.kept hk).mono fun _ _ => trivial, (h.2.1.kept hk).mono fun _ _ => trivial, h.2.2⟩
/-- A disk that lies below s. -/
theorem okS_of {w w' : World} {AB AP : Option Addr} {cp : Nat} {B : List (List UInt8)} {P : List PutD} (h : OkD w AB AP cp B P) (hb : Below w.heap.size w w') : OkS w.heap.size w'.heap.size w' AB AP cp B P :=
  ⟨((h.1.low).kept (Kept.below _ hb)).mono fun _ h => .inl h.2, ((h.2.1.low).kept (Kept.below _ hb)).mono fun _ h => .inl h.2, h.2.2⟩

set_option maxRecDepth 20000 in
set_option maxHeartbeats 2000000 in
theorem shown_any (w : World) : Calls Try.prog 10 #[] w fun e w' => e = .returned (.bool true) ∧ Below w.heap.size w w' := by
  obtain ⟨B0, hB0⟩ : ∃ B : List (List UInt8), B = [zero64, zero64] := ⟨_, rfl⟩
  obtain ⟨b7, hb7⟩ : ∃ b : List UInt8, b = List.replicate 64 7 := ⟨_, rfl⟩
  obtain ⟨z6, hz6⟩ : ∃ b : List UInt8, b = zero64 := ⟨_, rfl⟩
  obtain ⟨P0, hP0⟩ : ∃ P : List PutD, P = [] := ⟨_, rfl⟩
  obtain ⟨P1, hP1⟩ : ∃ P : List PutD, P = [(1, b7)] := ⟨_, rfl⟩
  obtain ⟨B1, hB1⟩ : ∃ B : List (List UInt8), B = [z6, b7] := ⟨_, rfl⟩
  have n1 := Lib.hid (show newE 2 = 0 from rfl)
  have n2 := Lib.hid (show newB 2 = B0 by subst hB0; rfl)
  have n3 := Lib.hid (show newF 2 = -1 from rfl)
  have p0 := Lib.hid hP0
  have x1 := Lib.hid (show writeE B0 (-1) 1 b7 = 0 by subst hB0 hb7; rfl)
  have x2 := Lib.hid (show writeP P0 0 1 b7 = P1 by subst hP0 hP1; rfl)
  have x3 := Lib.hid (show writeF (-1) 0 = -1 from rfl)
  have lB0 := Lib.hid (show B0.length ≤ 4096 by subst hB0; simp)
  have lB1 := Lib.hid (show B1.length ≤ 4096 by subst hB1; simp)
  have mB0 := Lib.hid (show 0 < B0.length by subst hB0; simp)
  have mB1 := Lib.hid (show 0 < B1.length by subst hB1; simp)
  have lP0 := Lib.hid (show P0.length ≤ 1000000 by subst hP0; simp)
  have lP1 := Lib.hid (show P1.length ≤ 1000000 by subst hP1; simp)
  have o0 := Lib.hid (show okP B0.length P0 by subst hP0; intro k h; simp at h)
  have o10 := Lib.hid (show okP B1.length P0 by subst hP0; intro k h; simp at h)
  have o1 := Lib.hid (show okP B0.length P1 by subst hP1 hB0; intro k h; simp at h; subst h; simp)
  have e7 := Lib.hid (show List.replicate 64 7 = b7 from hb7.symm)
  have e0 := Lib.hid (show List.replicate 64 0 = z6 from hz6.symm)
  have r1 := Lib.hid (show readE B0 (-1) 1 = 0 by subst hB0; rfl)
  have r2 := Lib.hid (show readB B0 P1 (-1) 1 = b7 by subst hB0 hP1; rfl)
  have r3 := Lib.hid (show readB B0 P0 (-1) 1 = z6 by subst hB0 hP0 hz6; rfl)
  have r4 := Lib.hid (show readE B1 (-1) 1 = 0 by subst hB1; rfl)
  have r5 := Lib.hid (show readB B1 P0 (-1) 1 = b7 by subst hB1 hP0; rfl)
  have k1 := Lib.hid (show layTo B0 P1 (keepF []) P1.length = B0 by subst hB0 hP1; rfl)
  have k2 := Lib.hid (show layTo B1 P0 (keepF []) P0.length = B1 by subst hB1 hP0; rfl)
  have f1 := Lib.hid (show flushE (-1) = 0 from rfl)
  have f2 := Lib.hid (show flushB B0 P1 (-1) = B1 by subst hB1 hB0 hP1 hz6; rfl)
  have f3 := Lib.hid (show flushP P1 (-1) = P0 by subst hP0; rfl)
  have a1 := Lib.hid (show max (0 : Int) (-1) = 0 from rfl)
  have s1 := Lib.hid (show rightD B0 P0 = true by subst hB0 hP0; rfl)
  have s2 := Lib.hid (show sameD B0 P0 (-1) B0 P0 (-1) = true by simp [sameD])
  have s3 := Lib.hid (show sameD B0 P0 (-1) B0 P0 0 = false by simp [sameD]; decide)
  have rl := Lib.hid (show ∀ w, RL w none [] from fun w => .inl rfl)
  clear hB0 hb7 hz6 hP0 hP1 hB1
  have hb0 := Lib.hid (Below.refl w.heap.size w)
  go_enter Try.func10, Try.ntmps10
  go_wp2_with (go_at_call 12; refine (c_new 2 _ (by omega) (by omega) 0 B0 P0 (-1) n1.out n2.out p0.out n3.out).mono ?_; rintro e w1 ⟨⟨AB1, cb1, AP1, cp1, rfl, hD1⟩, hb1⟩)
  obtain ⟨W, hW⟩ : ∃ W, w1.alloc (.cells #[.slice AB1 B0.length cb1, .slice AP1 P0.length cp1, .int .i64 (-1)] 25) = W := ⟨_, rfl⟩
  have c1 := box_new (Below.refl _ (w1.alloc (.cells #[.slice AB1 B0.length cb1, .slice AP1 P0.length cp1, .int .i64 (-1)] 25)))
  have d1 := Lib.hid (hD1.ext (bl_alloc (Below.refl _ w1) (.cells #[.slice AB1 B0.length cb1, .slice AP1 P0.length cp1, .int .i64 (-1)] 25)))
  have g1 := Lib.hid (bl_alloc (bl_then hb0.out hb1) (.cells #[.slice AB1 B0.length cb1, .slice AP1 P0.length cp1, .int .i64 (-1)] 25))
  have hs1 : w1.heap.size < (w1.alloc (.cells #[.slice AB1 B0.length cb1, .slice AP1 P0.length cp1, .int .i64 (-1)] 25)).heap.size := by simp
  rw [hW] at c1 d1 g1 hs1 ⊢
  clear hD1 hb1 hW hb0
  go_upto_region 2 with fail
  go_cut [3, 4] (fun s3 s4 wx => ∃ b AB3 cb3 AP3 cp3, s3 = .pointer (some ⟨b, 0, none⟩) ∧ s4 = .int .i64 0 ∧ W.heap.size ≤ b ∧ (wx.cell? ⟨b, 0, none⟩ = some (.slice AB3 B0.length cb3) ∧ wx.cell? ⟨b, 1, none⟩ = some (.slice AP3 P1.length cp3) ∧ wx.cell? ⟨b, 2, none⟩ = some (.int .i64 (-1))) ∧ OkD wx AB3 AP3 cp3 B0 P1 ∧ Below W.heap.size W wx)
  case first =>
    go_region_held3 (fun W' => W'.cell? ⟨w1.heap.size, 0, none⟩ = some (.slice AB1 B0.length cb1) ∧ W'.cell? ⟨w1.heap.size, 1, none⟩ = some (.slice AP1 P0.length cp1) ∧ W'.cell? ⟨w1.heap.size, 2, none⟩ = some (.int .i64 (-1)))
      (with_reducible (first | exact box_ext (bl_drew (Below.refl _ _)) c1 | exact box_ext (bl_drew (bl_alloc (Below.refl _ W) _)) c1 | (refine box_ext hb3 ?_; assumption) | (refine box_ext hb2 ?_; assumption) | (refine box_ext (bl_alloc (Below.refl _ _) _) ?_; assumption) | (refine box_swap (o := .cells #[.slice none 0 0, .slice none 0 0, .int .i64 0] 25) hb3' ?_; assumption) | (refine box_set3 (b' := w2.heap.size) hn2 ?_; assumption) | (refine box_set3 (b' := W.heap.size) (Nat.ne_of_lt hs1) ?_; assumption)))
      (first
        | (go_at_call 31; refine (c_block 7 7 rfl _ b7 e7.out).mono ?_; rintro e w2 ⟨⟨A2, cc2, rfl, h2⟩, hb2⟩; have hs2 : W.heap.size ≤ w2.heap.size := (by have := hb2.size; (try simp at this); omega); have hn2 : w1.heap.size ≠ w2.heap.size := (by omega); have hbW2 : Below W.heap.size W w2 := (by with_reducible (first | exact bl_then (bl_drew (Below.refl _ W)) hb2 | exact bl_then (bl_drew (bl_alloc (Below.refl _ W) _)) hb2)); (try (have hq := (by with_reducible exact box1d hb2); obtain ⟨ca, fa, la⟩ := hq)))
        | (go_at_call 23; refine (c_writeS W.heap.size AB1 cb1 AP1 cp1 (-1) 1 A2 cc2 b7 _ B0 P0 ?_ lP0.out ?_ (by omega) (by omega) 0 P1 (-1) x1.out x2.out x3.out).mono ?_; (with_reducible (first | exact okS_of d1.out hbW2 | exact okS_of d1.out (bl_alloc hbW2 _))); (with_reducible (first | exact h2 | exact h2.ext (bl_alloc (Below.refl _ _) _))); rintro e w3 ⟨⟨AB3, cb3, AP3, cp3, rfl, h3⟩, hb3⟩; have hb3' : w1.heap.size < w3.heap.size := (by have := hb3.size; (try simp at this); omega); (first | (have hq := (by with_reducible exact box1 hb3); obtain ⟨ca3, fa3, la3⟩ := hq) | (have ca3 := fun o => (hb3.cell (p := ⟨W.heap.size, o, none⟩) la).trans (ca o); have fa3 := fun o => (hb3.frozen (p := ⟨W.heap.size, o, none⟩) la).trans (fa o)) | skip)))
    all_goals (go_wp2_with fail; go_meet)
    · exact ⟨w3.heap.size, AB3, cb3, AP3, cp3, rfl, rfl, by have := hb3.size; omega, box_new (Below.refl _ _), (h3.okD).ext (bl_alloc (Below.refl _ _) _), bl_alloc (bl_then hbW2 hb3) _⟩
    · exact ⟨w2.heap.size, AB3, cb3, AP3, cp3, rfl, rfl, hs2, set_cell3 w3 _ _ _ _ ⟨ca3 0, ca3 1, ca3 2⟩, h3.set3 hs2 (by simp) _ _ _, bl_set (bl_set (bl_set (bl_then (bl_alloc hbW2 _) hb3) hs2 _) hs2 _) hs2 _⟩
    · exact ⟨W.heap.size, AB3, cb3, AP3, cp3, rfl, rfl, Nat.le_refl _, set_cell3 w3 _ _ _ _ ⟨ca3 0, ca3 1, ca3 2⟩, h3.set3 (Nat.le_refl _) la _ _ _, bl_set (bl_set (bl_set (bl_then hbW2 hb3) (Nat.le_refl _) _) (Nat.le_refl _) _) (Nat.le_refl _) _⟩
  case rest =>
    obtain ⟨b3, AB3, cb3, AP3, cp3, rfl, rfl, hb3, c3, d3, g3⟩ := hcut
    replace c1 := box_ext g3 c1
    have e1 := d1.out.ext g3
    have g := Lib.hid (bl_then g1.out g3)
    clear d1 g1 g3 hs1
    go_upto_region 4 with (go_at_call 19; refine (c_read AB3 cb3 AP3 cp3 (-1) 1 _ B0 P1 d3 lB0.out lP1.out 0 b7 r1.out r2.out).mono ?_; rintro e w5 ⟨⟨A5, cc5, rfl, b5⟩, hb5⟩; replace c1 := box_ext hb5 c1; replace c3 := box_ext hb5 c3; replace e1 := e1.ext hb5; replace d3 := d3.ext hb5; replace g := Lib.hid (bl_then g.out hb5); clear hb5)
    go_upto_region 5 with (go_at_call 27; refine (c_crash AB3 cb3 AP3 cp3 (-1) _ B0 P1 d3 lB0.out mB0.out lP1.out o1.out none 0 [] (rl.out _) B0 P0 k1.out p0.out).mono ?_; rintro e w6 ⟨⟨AB7, cb7, AP7, cp7, rfl, d7⟩, hb6⟩; replace c1 := box_ext hb6 c1; replace c3 := box_ext hb6 c3; replace e1 := e1.ext hb6; replace d3 := d3.ext hb6; replace b5 := b5.ext hb6; replace g := Lib.hid (bl_then g.out hb6); clear hb6)
    have ha6 := bl_alloc (Below.refl _ w6) (.cells #[.slice AB7 B0.length cb7, .slice AP7 P0.length cp7, .int .i64 (-1)] 25)
    have c7 := box_new (Below.refl _ (w6.alloc (.cells #[.slice AB7 B0.length cb7, .slice AP7 P0.length cp7, .int .i64 (-1)] 25)))
    replace c1 := box_ext ha6 c1
    replace c3 := box_ext ha6 c3
    replace e1 := e1.ext ha6
    replace d3 := d3.ext ha6
    replace b5 := b5.ext ha6
    replace d7 := d7.ext ha6
    replace g := Lib.hid (bl_then g.out ha6)
    clear ha6
    go_upto_region 6 with (go_at_call 19; refine (c_read AB7 cb7 AP7 cp7 (-1) 1 _ B0 P0 d7 lB0.out lP0.out 0 z6 r1.out r3.out).mono ?_; rintro e w7 ⟨⟨A8, cc8, rfl, b8⟩, hb7⟩; replace c1 := box_ext hb7 c1; replace c3 := box_ext hb7 c3; replace c7 := box_ext hb7 c7; replace e1 := e1.ext hb7; replace d3 := d3.ext hb7; replace b5 := b5.ext hb7; replace d7 := d7.ext hb7; replace g := Lib.hid (bl_then g.out hb7); clear hb7)
    go_upto_region 7 with (go_at_call 25; refine (c_flush AB3 cb3 AP3 cp3 (-1) _ B0 P1 d3 lB0.out mB0.out lP1.out o1.out 0 B1 P0 f1.out f2.out f3.out).mono ?_; rintro e w8 ⟨⟨AB10, cb10, AP10, cp10, rfl, d10⟩, hb8⟩; clear d3 c3; replace c1 := box_ext hb8 c1; replace c7 := box_ext hb8 c7; replace e1 := e1.ext hb8; replace b5 := b5.ext hb8; replace b8 := b8.ext hb8; replace d7 := d7.ext hb8; replace g := Lib.hid (bl_then g.out hb8); clear hb8)
    have ha8 := bl_alloc (Below.refl _ w8) (.cells #[.slice AB10 B1.length cb10, .slice AP10 P0.length cp10, .int .i64 (-1)] 25)
    have c10 := box_new (Below.refl _ (w8.alloc (.cells #[.slice AB10 B1.length cb10, .slice AP10 P0.length cp10, .int .i64 (-1)] 25)))
    replace c1 := box_ext ha8 c1
    replace c7 := box_ext ha8 c7
    replace e1 := e1.ext ha8
    replace b5 := b5.ext ha8
    replace b8 := b8.ext ha8
    replace d7 := d7.ext ha8
    replace d10 := d10.ext ha8
    replace g := Lib.hid (bl_then g.out ha8)
    clear ha8
    go_upto_region 8 with (first | (go_at_call 27; refine (c_crash AB10 cb10 AP10 cp10 (-1) _ B1 P0 d10 lB1.out mB1.out lP0.out o10.out none 0 [] (rl.out _) B1 P0 k2.out p0.out).mono ?_; rintro e w9 ⟨⟨AB11, cb11, AP11, cp11, rfl, d11⟩, hb9⟩; clear c10 d10; replace c1 := box_ext hb9 c1; replace c7 := box_ext hb9 c7; replace e1 := e1.ext hb9; replace b5 := b5.ext hb9; replace b8 := b8.ext hb9; replace d7 := d7.ext hb9; replace g := Lib.hid (bl_then g.out hb9); clear hb9) | (go_at_call 19; refine (c_read AB11 cb11 AP11 cp11 (-1) 1 _ B1 P0 d11 lB1.out lP0.out 0 b7 r4.out r5.out).mono ?_; rintro e w10 ⟨⟨A12, cc12, rfl, b12⟩, hb10⟩; clear d11; replace c1 := box_ext hb10 c1; replace c7 := box_ext hb10 c7; replace e1 := e1.ext hb10; replace b5 := b5.ext hb10; replace b8 := b8.ext hb10; replace d7 := d7.ext hb10; replace g := Lib.hid (bl_then g.out hb10); clear hb10))
    go_upto_region 9 with (go_at_call 29; refine (c_arm AB1 B0.length cb1 AP1 P0.length cp1 (-1) 0 _ 0 a1.out).mono ?_; rintro e w11 ⟨rfl, hb11⟩; replace c1 := box_ext hb11 c1; replace c7 := box_ext hb11 c7; replace e1 := e1.ext hb11; replace b5 := b5.ext hb11; replace b8 := b8.ext hb11; replace b12 := b12.ext hb11; replace d7 := d7.ext hb11; replace g := Lib.hid (bl_then g.out hb11); clear hb11)
    have ha11 := bl_alloc (Below.refl _ w11) (.cells #[.slice AB1 B0.length cb1, .slice AP1 P0.length cp1, .int .i64 0] 25)
    have c14 := box_new (Below.refl _ (w11.alloc (.cells #[.slice AB1 B0.length cb1, .slice AP1 P0.length cp1, .int .i64 0] 25)))
    replace c1 := box_ext ha11 c1
    replace c7 := box_ext ha11 c7
    replace e1 := e1.ext ha11
    replace b5 := b5.ext ha11
    replace b8 := b8.ext ha11
    replace b12 := b12.ext ha11
    replace d7 := d7.ext ha11
    replace g := Lib.hid (bl_then g.out ha11)
    clear ha11
    have q1 := Lib.hid (show (b7 == b7) = true by simp)
    have q2 := Lib.hid (show (z6 == z6) = true by simp)
    have q3 := Lib.hid (show ((0 : Int) == 0) = true from rfl)
    go_wp2_with (first
      | (go_at_call_of 31 (Value.int .u8 7); refine (c_block 7 7 rfl _ b7 e7.out).mono ?_; rintro e w12 ⟨⟨Ax, cx, rfl, bx⟩, hb12⟩; replace c1 := box_ext hb12 c1; replace c7 := box_ext hb12 c7; replace c14 := box_ext hb12 c14; replace e1 := e1.ext hb12; replace d7 := d7.ext hb12; (try replace b5 := b5.ext hb12); (try replace b8 := b8.ext hb12); (try replace b12 := b12.ext hb12); replace g := Lib.hid (bl_then g.out hb12); clear hb12)
      | (go_at_call_of 31 (Value.int .u8 0); refine (c_block 0 0 rfl _ z6 e0.out).mono ?_; rintro e w12 ⟨⟨Ax, cx, rfl, bx⟩, hb12⟩; replace c1 := box_ext hb12 c1; replace c7 := box_ext hb12 c7; replace c14 := box_ext hb12 c14; replace e1 := e1.ext hb12; replace d7 := d7.ext hb12; (try replace b5 := b5.ext hb12); (try replace b8 := b8.ext hb12); (try replace b12 := b12.ext hb12); replace g := Lib.hid (bl_then g.out hb12); clear hb12)
      | (go_at_call_of 21 (Value.slice A5 b7.length cc5); refine (c_same A5 cc5 b7 Ax cx b7 _ b5 bx true q1.out).mono ?_; rintro e w12 ⟨rfl, hb12⟩; clear bx b5; replace c1 := box_ext hb12 c1; replace c7 := box_ext hb12 c7; replace c14 := box_ext hb12 c14; replace e1 := e1.ext hb12; replace b8 := b8.ext hb12; replace b12 := b12.ext hb12; replace d7 := d7.ext hb12; replace g := Lib.hid (bl_then g.out hb12); clear hb12)
      | (go_at_call_of 21 (Value.slice A8 z6.length cc8); refine (c_same A8 cc8 z6 Ax cx z6 _ b8 bx true q2.out).mono ?_; rintro e w12 ⟨rfl, hb12⟩; clear bx b8; replace c1 := box_ext hb12 c1; replace c7 := box_ext hb12 c7; replace c14 := box_ext hb12 c14; replace e1 := e1.ext hb12; replace b12 := b12.ext hb12; replace d7 := d7.ext hb12; replace g := Lib.hid (bl_then g.out hb12); clear hb12)
      | (go_at_call_of 21 (Value.slice A12 b7.length cc12); refine (c_same A12 cc12 b7 Ax cx b7 _ b12 bx true q1.out).mono ?_; rintro e w12 ⟨rfl, hb12⟩; clear bx b12; replace c1 := box_ext hb12 c1; replace c7 := box_ext hb12 c7; replace c14 := box_ext hb12 c14; replace e1 := e1.ext hb12; replace d7 := d7.ext hb12; replace g := Lib.hid (bl_then g.out hb12); clear hb12)
      | (go_at_call 17; refine (c_off AB1 B0.length cb1 AP1 P0.length cp1 0 _ true q3.out).mono ?_; rintro e w12 ⟨rfl, hb12⟩; replace c1 := box_ext hb12 c1; replace c7 := box_ext hb12 c7; replace c14 := box_ext hb12 c14; replace e1 := e1.ext hb12; replace d7 := d7.ext hb12; replace g := Lib.hid (bl_then g.out hb12); clear hb12)
      | (go_at_call 16; refine (c_right AB1 cb1 AP1 cp1 (-1) _ B0 P0 e1 lB0.out lP0.out true s1.out).mono ?_; rintro e w12 ⟨rfl, hb12⟩; replace c1 := box_ext hb12 c1; replace c7 := box_ext hb12 c7; replace c14 := box_ext hb12 c14; replace e1 := e1.ext hb12; replace d7 := d7.ext hb12; replace g := Lib.hid (bl_then g.out hb12); clear hb12)
      | (go_at_call 18; refine (c_dsame AB1 cb1 AP1 cp1 (-1) AB7 cb7 AP7 cp7 (-1) _ B0 P0 B0 P0 e1 d7 lB0.out lP0.out true s2.out).mono ?_; rintro e w12 ⟨rfl, hb12⟩; clear d7; replace c1 := box_ext hb12 c1; replace c14 := box_ext hb12 c14; replace e1 := e1.ext hb12; replace g := Lib.hid (bl_then g.out hb12); clear hb12)
      | (go_at_call 18; refine (c_dsame AB1 cb1 AP1 cp1 (-1) AB1 cb1 AP1 cp1 0 _ B0 P0 B0 P0 e1 e1 lB0.out lP0.out false s3.out).mono ?_; rintro e w12 ⟨rfl, hb12⟩; replace g := Lib.hid (bl_then g.out hb12); clear hb12))
    go_ret
    exact ⟨rfl, g.out⟩
end Go.Proofs.Ytkfalgdhpojejaa
