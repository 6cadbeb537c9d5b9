import Derived.Test.YtlcclaicodghcaaCq
import Derived.Test.YtlcclaicodghcaaPh
namespace Go.Proofs.Ytlcclaicodghcaa
open Go.RowKit

theorem box1 {w w1 : World} {c : Array Value} {t : TypeId} (hb : Below (w.alloc (.cells c t)).heap.size (w.alloc (.cells c t)) w1) :
    (∀ o, w1.cell? ⟨w.heap.size, o, none⟩ = c[o]?) ∧ (∀ o, w1.frozen? ⟨w.heap.size, o, none⟩ = false) ∧ w.heap.size < w1.heap.size := by
  refine ⟨fun o => ?_, fun o => ?_, ?_⟩
  · rw [hb.cell (p := ⟨w.heap.size, o, none⟩) (by simp)]; simp
  · rw [hb.frozen (p := ⟨w.heap.size, o, none⟩) (by simp)]; simp
  · have := hb.size; simp at this; omega
theorem bl_set3 {w W : World} (h : Below w.heap.size w W) (u0 u1 u2 : Value) : Below w.heap.size w (((W.setCell ⟨w.heap.size, 0, none⟩ u0).setCell ⟨w.heap.size, 1, none⟩ u1).setCell ⟨w.heap.size, 2, none⟩ u2) :=
  bl_set (bl_set (bl_set h (p := ⟨w.heap.size, 0, none⟩) (Nat.le_refl _) u0) (p := ⟨w.heap.size, 1, none⟩) (Nat.le_refl _) u1) (p := ⟨w.heap.size, 2, none⟩) (Nat.le_refl _) u2
theorem OwnB.set_far {w : World} {base g : Nat} {A : Option Addr} {c i : Nat} {bs : List UInt8} (h : OwnB w base A c bs) (hg : g < base) (u : Value) : OwnB (w.setCell ⟨g, i, none⟩ u) base A c bs := by
  refine ⟨⟨h.1.1, ?_⟩, h.2⟩
  rcases h.1.2 with h0 | ⟨g', cap, cur, h1, hb, hh, h2⟩
  · exact .inl h0
  · exact .inr ⟨g', cap, cur, h1, hb, (Below.heap_setCell w ⟨g, i, none⟩ u g' (show g' ≠ g by omega)).trans hh, h2⟩
theorem ne_zero_true {E : Int} (h : E ≠ 0) : (E != 0) = true := by simp [h]

set_option maxRecDepth 20000 in
set_option maxHeartbeats 2000000 in
/-- The section that stands at a place, as the document says. -/
theorem rsect_any (A : Option Addr) (c : Nat) (b : List UInt8) (t : Nat) (V : SectD) (X E : Int) (w : World) (hok : OkB w A c b) (hV : sectV b t = V) (hX : sectX b t = X) (hE : sectE b t = E) :
    Calls Try.prog 79 #[.slice A b.length c, .int .i64 t] w fun e w' => (∃ A' c', e = .returned (.tuple #[.agg #[.slice A' V.1.length c', .int .i64 V.2.1, .int .i64 V.2.2], .int .i64 X, .int .i64 E]) ∧ OwnB w' w.heap.size A' c' V.1) ∧ Below w.heap.size w w' := by
  have g0 := bl_alloc (Below.refl _ w) (.cells #[.slice none 0 0, .int .i64 0, .int .i64 0] 98)
  have hok1 := Lib.hid (hok.ext g0)
  have G := Lib.hid g0
  clear hok g0
  by_cases h1 : trE b t 255 = 0
  · obtain ⟨X1, x1, x2, x3, -, -, -⟩ := tr_put h1
    by_cases h2 : tnE b X1 6 = 0
    · obtain ⟨-, -, -, y2, n2, y3, -, -⟩ := tn_put (b := b) (T := X1) (M := 6) h2
      rw [show ((6 : Nat) : Int) = 6 from rfl] at y2 y3
      have e2 : tnX b (trX b t 255) 6 = ((X1 + 6 : Nat) : Int) := by rw [x1, y2]
      by_cases h3 : tnE b ((X1 + 6 : Nat) : Int) 4 = 0
      · have hE0 : sectE b t = 0 := by unfold sectE; rw [if_pos h1, x1, if_pos h2, y2]; exact h3
        obtain rfl : E = 0 := by rw [← hE, hE0]
        obtain ⟨L, hL⟩ : ∃ L, trL b t 255 = L := ⟨_, rfl⟩
        obtain ⟨N2, hN2⟩ : ∃ N, tnN b ((X1 + 6 : Nat) : Int) 4 = N := ⟨_, rfl⟩
        obtain ⟨X2, hX2⟩ : ∃ N, tnX b ((X1 + 6 : Nat) : Int) 4 = N := ⟨_, rfl⟩
        have hVe : sectV b t = (L, (n2 : Int), N2) := by unfold sectV; rw [if_pos hE0, hL, e2, x1, y3, hN2]
        have hXe : sectX b t = X2 := by unfold sectX; rw [if_pos hE0, e2, hX2]
        rw [hVe] at hV
        rw [hXe] at hX
        subst hV hX
        have H1 := Lib.hid h1; have H2 := Lib.hid h2; have H3 := Lib.hid h3; have Hx1 := Lib.hid x1; have Hy2 := Lib.hid y2; have Hy3 := Lib.hid y3; have HL := Lib.hid hL; have HN := Lib.hid hN2; have HX := Lib.hid hX2
        clear h1 h2 h3 x1 y2 y3 hL hN2 hX2 hE hE0 hVe hXe e2
        go_enter Try.func79, Try.ntmps79
        go_wp2_with fail
        refine (c_rtakeRow A c b t 255 (X1 : Int) 0 L _ hok1.out HL.out Hx1.out H1.out).mono ?_; rintro e w1 ⟨⟨A1, c1, rfl, o1⟩, hb⟩
        have ok2 := Lib.hid (hok1.out.ext hb)
        obtain ⟨hc, hf, hz⟩ := box1 hb
        have G1 := Lib.hid (bl_then G.out hb)
        clear hb
        go_wp2_with fail
        refine (c_rtakeNum A c b (X1 : Int) 6 (n2 : Int) ((X1 + 6 : Nat) : Int) 0 _ ok2.out Hy3.out Hy2.out H2.out).mono ?_; rintro e w2 ⟨rfl, rfl⟩
        go_wp2_with fail
        refine (c_rtakeNum A c b ((X1 + 6 : Nat) : Int) 4 N2 X2 0 _ ok2.out HN.out HX.out H3.out).mono ?_; rintro e w2 ⟨rfl, rfl⟩
        go_wp2_with fail
        exact bodyPost_ret (v := .tuple #[.agg #[.slice A1 L.length c1, .int .i64 n2, .int .i64 N2], .int .i64 X2, .int .i64 0]) (by simp [results, Try.results79, go_sem, hc]) rfl ⟨⟨A1, c1, rfl, (((o1.set_far (by simp) _).set_far (by simp) _).set_far (by simp) _).base_le (by simp)⟩, bl_set3 G1.out _ _ _⟩
      · have hE0 : sectE b t = tnE b ((X1 + 6 : Nat) : Int) 4 := by unfold sectE; rw [if_pos h1, x1, if_pos h2, y2]
        have hne : ¬ sectE b t = 0 := by rw [hE0]; exact h3
        obtain rfl : V = noS := by rw [← hV]; unfold sectV; rw [if_neg hne]
        obtain rfl : X = 0 := by rw [← hX]; unfold sectX; rw [if_neg hne]
        rw [hE0] at hE
        rw [hE] at h3
        obtain ⟨L, hL⟩ : ∃ L, trL b t 255 = L := ⟨_, rfl⟩
        have e3 := ne_zero_true h3
        have H1 := Lib.hid h1; have H2 := Lib.hid h2; have H3 := Lib.hid hE; have Hx1 := Lib.hid x1; have Hy2 := Lib.hid y2; have Hy3 := Lib.hid y3; have HL := Lib.hid hL
        clear h1 h2 h3 x1 y2 y3 hL hE hE0 hne e2 hV hX
        go_enter Try.func79, Try.ntmps79
        go_wp2_with fail
        refine (c_rtakeRow A c b t 255 (X1 : Int) 0 L _ hok1.out HL.out Hx1.out H1.out).mono ?_; rintro e w1 ⟨⟨A1, c1, rfl, o1⟩, hb⟩
        have ok2 := Lib.hid (hok1.out.ext hb)
        obtain ⟨hc, hf, hz⟩ := box1 hb
        have G1 := Lib.hid (bl_then G.out hb)
        clear hb
        go_wp2_with fail
        refine (c_rtakeNum A c b (X1 : Int) 6 (n2 : Int) ((X1 + 6 : Nat) : Int) 0 _ ok2.out Hy3.out Hy2.out H2.out).mono ?_; rintro e w2 ⟨rfl, rfl⟩
        go_wp2_with fail
        refine (c_rtakeNum A c b ((X1 + 6 : Nat) : Int) 4 _ _ E _ ok2.out rfl rfl H3.out).mono ?_; rintro e w2 ⟨rfl, rfl⟩
        go_wp2_with fail
        exact bodyPost_ret (v := .tuple #[.agg #[.slice none 0 0, .int .i64 0, .int .i64 0], .int .i64 0, .int .i64 E]) (by simp [results, Try.results79, go_sem, hc]) rfl ⟨⟨none, 0, rfl, own_nil _ _⟩, bl_set3 G1.out _ _ _⟩
    · have hE0 : sectE b t = tnE b X1 6 := by unfold sectE; rw [if_pos h1, x1, if_neg h2]
      have hne : ¬ sectE b t = 0 := by rw [hE0]; exact h2
      obtain rfl : V = noS := by rw [← hV]; unfold sectV; rw [if_neg hne]
      obtain rfl : X = 0 := by rw [← hX]; unfold sectX; rw [if_neg hne]
      rw [hE0] at hE
      rw [hE] at h2
      obtain ⟨L, hL⟩ : ∃ L, trL b t 255 = L := ⟨_, rfl⟩
      have e3 := ne_zero_true h2
      have H1 := Lib.hid h1; have H3 := Lib.hid hE; have Hx1 := Lib.hid x1; have HL := Lib.hid hL
      clear h1 h2 x1 hL hE hE0 hne hV hX
      go_enter Try.func79, Try.ntmps79
      go_wp2_with fail
      refine (c_rtakeRow A c b t 255 (X1 : Int) 0 L _ hok1.out HL.out Hx1.out H1.out).mono ?_; rintro e w1 ⟨⟨A1, c1, rfl, o1⟩, hb⟩
      have ok2 := Lib.hid (hok1.out.ext hb)
      obtain ⟨hc, hf, hz⟩ := box1 hb
      have G1 := Lib.hid (bl_then G.out hb)
      clear hb
      go_wp2_with fail
      refine (c_rtakeNum A c b (X1 : Int) 6 _ _ E _ ok2.out rfl rfl H3.out).mono ?_; rintro e w2 ⟨rfl, rfl⟩
      go_wp2_with fail
      exact bodyPost_ret (v := .tuple #[.agg #[.slice none 0 0, .int .i64 0, .int .i64 0], .int .i64 0, .int .i64 E]) (by simp [results, Try.results79, go_sem, hc]) rfl ⟨⟨none, 0, rfl, own_nil _ _⟩, bl_set3 G1.out _ _ _⟩
  · have hE0 : sectE b t = trE b t 255 := by unfold sectE; rw [if_neg h1]
    have hne : ¬ sectE b t = 0 := by rw [hE0]; exact h1
    obtain rfl : V = noS := by rw [← hV]; unfold sectV; rw [if_neg hne]
    obtain rfl : X = 0 := by rw [← hX]; unfold sectX; rw [if_neg hne]
    rw [hE0] at hE
    rw [hE] at h1
    have e3 := ne_zero_true h1
    have H3 := Lib.hid hE
    clear h1 hE hE0 hne hV hX
    go_enter Try.func79, Try.ntmps79
    go_wp2_with fail
    refine (c_rtakeRow A c b t 255 _ E _ _ hok1.out rfl rfl H3.out).mono ?_; rintro e w1 ⟨⟨A1, c1, rfl, o1⟩, hb⟩
    obtain ⟨hc, hf, hz⟩ := box1 hb
    have G1 := Lib.hid (bl_then G.out hb)
    clear hb
    go_wp2_with fail
    exact bodyPost_ret (v := .tuple #[.agg #[.slice none 0 0, .int .i64 0, .int .i64 0], .int .i64 0, .int .i64 E]) (by simp [results, Try.results79, go_sem, hc]) rfl ⟨⟨none, 0, rfl, own_nil _ _⟩, bl_set3 G1.out _ _ _⟩
end Go.Proofs.Ytlcclaicodghcaa
