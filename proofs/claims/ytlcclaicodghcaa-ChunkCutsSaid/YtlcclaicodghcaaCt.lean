import Derived.Test.YtlcclaicodghcaaCs
namespace Go.Proofs.Ytlcclaicodghcaa
open Go.RowKit

/-- Only two blocks have turned. -/
structure Clo (Ba Bw : Nat) (W W' : World) : Prop where
  below : ∀ B, B ≤ Ba → B ≤ Bw → Below B W W'
  far : ∀ g, g ≠ Ba → g ≠ Bw → W'.heap[g]? = W.heap[g]?
  size : W'.heap.size = W.heap.size
theorem Clo.set_a {Ba Bw : Nat} {W W' : World} (h : Clo Ba Bw W W') (u : Value) : Clo Ba Bw W (W'.setCell ⟨Ba, 0, none⟩ u) :=
  ⟨fun B h1 h2 => (h.below B h1 h2).setCell (p := ⟨Ba, 0, none⟩) h1 u, fun g h1 h2 => (Below.heap_setCell W' ⟨Ba, 0, none⟩ u g h1).trans (h.far g h1 h2), by rw [← h.size]; simp [World.setCell]⟩
theorem Clo.set_w {Ba Bw : Nat} {W W' : World} (h : Clo Ba Bw W W') (u : Value) : Clo Ba Bw W (W'.setCell ⟨Bw, 0, none⟩ u) :=
  ⟨fun B h1 h2 => (h.below B h1 h2).setCell (p := ⟨Bw, 0, none⟩) h2 u, fun g h1 h2 => (Below.heap_setCell W' ⟨Bw, 0, none⟩ u g h2).trans (h.far g h1 h2), by rw [← h.size]; simp [World.setCell]⟩
theorem Clo.refl (Ba Bw : Nat) (W : World) : Clo Ba Bw W W := ⟨fun _ _ _ => Below.refl _ _, fun _ _ _ => rfl, rfl⟩
theorem Clo.trans {Ba Bw : Nat} {W W1 W2 : World} (h : Clo Ba Bw W W1) (k : Clo Ba Bw W1 W2) : Clo Ba Bw W W2 :=
  ⟨fun B h1 h2 => (h.below B h1 h2).trans (k.below B h1 h2), fun g h1 h2 => (k.far g h1 h2).trans (h.far g h1 h2), k.size.trans h.size⟩
theorem OwnB.clo {Ba Bw ta tw : Nat} {va vw : Array Value} {W W' : World} {base : Nat} {A : Option Addr} {c : Nat} {bs : List UInt8} (h : OwnB W base A c bs) (k : Clo Ba Bw W W')
    (fa : W.heap[Ba]? = some (.cells va ta (0, 0))) (fw : W.heap[Bw]? = some (.cells vw tw (0, 0))) (ha : 5 ≠ ta) (hw : 5 ≠ tw) : OwnB W' base A c bs := by
  refine ⟨⟨h.1.1, ?_⟩, h.2⟩
  rcases h.1.2 with h0 | ⟨g', cap, cur, h1, hb, hh, h2⟩
  · exact .inl h0
  · refine .inr ⟨g', cap, cur, h1, hb, (k.far g' ?_ ?_).trans hh, h2⟩
    · rintro rfl; rw [hh] at fa; injection fa with fa; injection fa with _ ht; exact ha ht
    · rintro rfl; rw [hh] at fw; injection fw with fw; injection fw with _ ht; exact hw ht
theorem OwnV.clo {Ba Bw ta tw : Nat} {va vw : Array Value} {W W' : World} {base e size : Nat} {A : Option Addr} {n c : Nat} {xs : List Value} (h : OwnV W base e size A n c xs) (k : Clo Ba Bw W W')
    (fa : W.heap[Ba]? = some (.cells va ta (0, 0))) (fw : W.heap[Bw]? = some (.cells vw tw (0, 0))) (ha : e ≠ ta) (hw : e ≠ tw) : OwnV W' base e size A n c xs := by
  refine ⟨h.1, ?_⟩
  rcases h.2 with h0 | ⟨g', cap, cur, h1, hb, hh, h2⟩
  · exact .inl h0
  · refine .inr ⟨g', cap, cur, h1, hb, (k.far g' ?_ ?_).trans hh, h2⟩
    · rintro rfl; rw [hh] at fa; injection fa with fa; injection fa with _ ht; exact ha ht
    · rintro rfl; rw [hh] at fw; injection fw with fw; injection fw with _ ht; exact hw ht

set_option maxRecDepth 20000 in
set_option maxHeartbeats 1000000 in
/-- The number at the place where the closure stands. -/
theorem clo_any (Bb Ba Bw : Nat) (A : Option Addr) (c : Nat) (b : List UInt8) (t e m N X E t' e' : Int) (W : World) (fb : W.heap[Bb]? = some (.cells #[.slice A b.length c] 22 (0, 0))) (fa : W.heap[Ba]? = some (.cells #[.int .i64 t] 3 (0, 0))) (fw : W.heap[Bw]? = some (.cells #[.int .i64 e] 26 (0, 0)))
    (hne : Bw ≠ Ba) (hok : OkB W A c b) (hN : tnN b t m = N) (hX : tnX b t m = X) (hE : tnE b t m = E) (ht : max t X = t') (he : (if e = 0 then E else e) = e') :
    Calls Try.prog 78 #[.int .i64 m, .pointer (some ⟨Bb, 0, none⟩), .pointer (some ⟨Ba, 0, none⟩), .pointer (some ⟨Bw, 0, none⟩)] W fun x W' => x = .returned (.int .i64 N) ∧ W'.heap[Ba]? = some (.cells #[.int .i64 t'] 3 (0, 0)) ∧ W'.heap[Bw]? = some (.cells #[.int .i64 e'] 26 (0, 0)) ∧ Clo Ba Bw W W' := by
  have xb := cell_of_one fb
  have xa := cell_of_one fa
  have xw := cell_of_one fw
  have ya := free_of_one fa
  have yw := free_of_one fw
  have la := lt_of_block fa
  have lw := lt_of_block fw
  have Fa := Lib.hid fa; have Fw := Lib.hid fw
  have HN := Lib.hid hN; have HX := Lib.hid hX; have HE := Lib.hid hE; have HT := Lib.hid ht; have Hok := Lib.hid hok
  have hne' : Ba ≠ Bw := fun e => hne e.symm
  by_cases h0 : e = 0
  · subst h0
    rw [if_pos rfl] at he
    subst he
    by_cases h1 : E = 0
    · subst h1
      clear hN hX hE ht hok fb fa fw
      go_enter Try.func78, Try.ntmps78
      go_wp2_with fail
      refine (c_takeNum A c b t m N X 0 _ Hok.out HN.out HX.out HE.out).mono ?_; rintro x w1 ⟨rfl, rfl⟩
      go_wp2_with fail
      go_ret
      exact ⟨rfl, by rw [← HT.out]; exact one_setCell Fa.out, (Below.heap_setCell W ⟨Ba, 0, none⟩ _ Bw hne).trans Fw.out, (Clo.refl _ _ _).set_a _⟩
    · have e1 := ne_zero_true h1
      clear hN hX hE ht hok fb fa fw h1
      go_enter Try.func78, Try.ntmps78
      go_wp2_with fail
      refine (c_takeNum A c b t m N X E _ Hok.out HN.out HX.out HE.out).mono ?_; rintro x w1 ⟨rfl, rfl⟩
      go_wp2_with fail
      go_ret
      refine ⟨rfl, ?_, ?_, ((Clo.refl _ _ _).set_w _).set_a _⟩
      · rw [← HT.out]; exact one_setCell ((Below.heap_setCell W ⟨Bw, 0, none⟩ _ Ba hne').trans Fa.out)
      · exact (Below.heap_setCell _ ⟨Ba, 0, none⟩ _ Bw hne).trans (one_setCell Fw.out)
  · rw [if_neg h0] at he
    subst he
    have e1 : (e == 0) = false := by simpa using h0
    clear hN hX hE ht hok fb fa fw h0
    go_enter Try.func78, Try.ntmps78
    go_wp2_with fail
    refine (c_takeNum A c b t m N X E _ Hok.out HN.out HX.out HE.out).mono ?_; rintro x w1 ⟨rfl, rfl⟩
    go_wp2_with fail
    go_ret
    exact ⟨rfl, by rw [← HT.out]; exact one_setCell Fa.out, (Below.heap_setCell W ⟨Ba, 0, none⟩ _ Bw hne).trans Fw.out, (Clo.refl _ _ _).set_a _⟩
end Go.Proofs.Ytlcclaicodghcaa
