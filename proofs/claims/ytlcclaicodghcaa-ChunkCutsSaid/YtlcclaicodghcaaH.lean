import Derived.Test.YtlcclaicodghcaaG
namespace Go.Proofs.Ytlcclaicodghcaa
open Go.RowKit

theorem tl_good {b : List UInt8} {at_ : Int} (h : tlE b at_ = 0) : ∃ T X N : Nat, at_ = T ∧ T < b.length ∧ tlX b at_ = X ∧ tlN b at_ = N ∧ T < X ∧ X ≤ b.length ∧ N ≤ 1073741823 := by
  by_cases h0 : 0 ≤ at_ ∧ at_ ≤ b.length
  · obtain ⟨h1, h2⟩ := h0
    obtain ⟨T, rfl⟩ := Int.eq_ofNat_of_zero_le h1
    by_cases h3 : T < b.length
    · by_cases c3 : 192 ≤ b[T].toNat
      · rw [tl_three h3 (by omega)] at h; cases h
      by_cases c0 : b[T].toNat < 64
      · obtain ⟨_, hN, hX⟩ := tl_one h3 (by omega)
        exact ⟨T, T + 1, b[T].toNat, rfl, h3, by rw [hX]; rfl, hN, by omega, by omega, by omega⟩
      by_cases c1 : b[T].toNat < 128
      · by_cases hs : T + 2 ≤ b.length
        · obtain ⟨v, v1, v2, v3, v4⟩ := tl_two hs (by omega) (by omega)
          by_cases hv : v < 16448
          · rw [if_pos hv] at v4; rw [v4] at h; cases h
          · rw [if_neg hv] at v4
            exact ⟨T, T + 2, v - 16384, rfl, h3, by rw [v4.2.2]; rfl, by rw [v4.2.1]; omega, by omega, hs, by omega⟩
        · rw [tl_short h3 (by omega) (show (b.length : Int) - T < tlW (b[T].toNat : Int) by unfold tlW; rw [if_neg (by omega), if_pos (by omega)]; omega)] at h; cases h
      · by_cases hs : T + 4 ≤ b.length
        · obtain ⟨v, v1, v2, v3, v4⟩ := tl_four hs (by omega) (by omega)
          by_cases hv : v < 2147500032
          · rw [if_pos hv] at v4; rw [v4] at h; cases h
          · rw [if_neg hv] at v4
            exact ⟨T, T + 4, v - 2147483648, rfl, h3, by rw [v4.2.2]; rfl, by rw [v4.2.1]; omega, by omega, hs, by omega⟩
        · rw [tl_short h3 (by omega) (show (b.length : Int) - T < tlW (b[T].toNat : Int) by unfold tlW; rw [if_neg (by omega), if_neg (by omega)]; omega)] at h; cases h
    · obtain rfl : T = b.length := by omega
      rw [tl_end] at h; cases h
  · rw [tl_out h0] at h; cases h

/-- A part of a row. -/
theorem OkB.part {w : World} {bk off : Nat} {b : List UInt8} (hc : ∀ i (_ : i < b.length), w.cell? ⟨bk, off + i, none⟩ = some (.int .u8 b[i].toNat)) (hl : b.length ≤ 140737488351232) {X N : Nat} (h : X + N ≤ b.length) (o' : Nat) (ho : 0 < N → o' = off + X) (c' : Nat) (hc' : N ≤ c') :
    OkB w (some ⟨bk, o', none⟩) c' ((b.drop X).take N) := by
  have hlen : ((b.drop X).take N).length = N := by simp; omega
  refine ⟨?_, by omega, by omega, fun e => by cases e⟩
  by_cases hN : N = 0
  · subst hN; exact .inl (by simp)
  · have ho' := ho (by omega)
    subst ho'
    refine .inr ⟨bk, off + X, rfl, fun i hi => ?_⟩
    have := hc (X + i) (by omega)
    rw [Nat.add_assoc, this]
    simp

theorem c_clone (A : Option Addr) (c : Nat) (bs : List UInt8) (n : Nat) (w : World) (hok : OkB w A c bs) (hn : bs.length = n) :
    Calls Try.prog 68 #[.slice A n c] w fun e w' => (∃ A' c', e = .returned (.slice A' bs.length c') ∧ OwnB w' w.heap.size A' c' bs) ∧ Below w.heap.size w w' := by
  subst hn; exact clone_any A c bs w hok
theorem ret_sii {A : Option Addr} {n m c : Nat} {k k' : IntKind} {x x' y : Int} (h : n = m) (hx : x = x') : Ending.returned (.tuple #[.slice A n c, .int k x, .int k' y]) = .returned (.tuple #[.slice A m c, .int k x', .int k' y]) := by rw [h, hx]
theorem tr_bad {b : List UInt8} {at_ most E : Int} (h : trE b at_ most = E) (hE : E ≠ 0) : trL b at_ most = [] ∧ trX b at_ most = 0 := by
  subst h; exact ⟨by unfold trL; rw [if_neg hE], by unfold trX; rw [if_neg hE]⟩

set_option maxRecDepth 20000 in
set_option maxHeartbeats 1000000 in
theorem takeRow_any (A : Option Addr) (c : Nat) (b : List UInt8) (at_ most : Int) (w : World) (hok : OkB w A c b) :
    Calls Try.prog 33 #[.slice A b.length c, .int .i64 at_, .int .i64 most] w fun e w' => (∃ A' c', e = .returned (.tuple #[.slice A' (trL b at_ most).length c', .int .i64 (trX b at_ most), .int .i64 (trE b at_ most)]) ∧ OwnB w' w.heap.size A' c' (trL b at_ most)) ∧ Below w.heap.size w w' := by
  have Hok := Lib.hid hok
  have hl := hok.2.2.1
  have hlc := hok.2.1
  by_cases h : tlE b at_ = 0
  · obtain ⟨T, X, N, rfl, h1, hX, hN, h2, h3, h4⟩ := tl_good h
    have HX := Lib.hid hX
    have HN := Lib.hid hN
    have H := Lib.hid h
    by_cases c1 : most < (N : Int)
    · have hE : trE b T most = 4 := by unfold trE; rw [if_pos h, hN, if_pos c1]
      obtain ⟨hL, hX'⟩ := tr_bad hE (by decide)
      rw [hL, hX', hE]
      clear hL hX' hE h hX hN hok
      go_enter Try.func33, Try.ntmps33
      go_wp2_with (go_at_call 27; refine (c_takeLen A c b T N X 0 _ Hok.out HN.out HX.out H.out).mono ?_; rintro e w1 ⟨rfl, rfl⟩)
      go_ret3
      exact ⟨⟨none, 0, rfl, own_nil _ _⟩, Below.refl _ _⟩
    · by_cases c2 : b.length < X + N
      · have hE : trE b T most = 3 := by unfold trE; rw [if_pos h, hN, if_neg c1, hX, if_pos (by omega)]
        obtain ⟨hL, hX'⟩ := tr_bad hE (by decide)
        rw [hL, hX', hE]
        clear hL hX' hE h hX hN hok
        go_enter Try.func33, Try.ntmps33
        go_wp2_with (go_at_call 27; refine (c_takeLen A c b T N X 0 _ Hok.out HN.out HX.out H.out).mono ?_; rintro e w1 ⟨rfl, rfl⟩)
        go_ret3
        exact ⟨⟨none, 0, rfl, own_nil _ _⟩, Below.refl _ _⟩
      · have hE : trE b T most = 0 := by unfold trE; rw [if_pos h, hN, if_neg c1, hX, if_neg (by omega)]
        have hL : trL b T most = (b.drop X).take N := by unfold trL; rw [if_pos hE, hX, hN]; rfl
        have hX' : trX b T most = (X : Int) + N := by unfold trX; rw [if_pos hE, hX, hN]
        obtain ⟨bk, off, rfl, hcell⟩ := hok.some_ h1
        obtain ⟨L, hLe⟩ : ∃ L, (b.drop X).take N = L := ⟨_, rfl⟩
        have hLn : L.length = N := by rw [← hLe]; simp; omega
        rw [hL, hX', hE, hLe]
        have HL := Lib.hid hLn
        by_cases hcX : c = X
        · have hN0 : N = 0 := by omega
          have hO := Lib.hid (hLe ▸ OkB.part hcell hl (X := X) (N := N) (by omega) off (by omega) 0 (by omega))
          clear hL hX' hE h hX hN hok hcell hLe hLn
          subst hcX
          subst hN0
          go_enter Try.func33, Try.ntmps33
          go_wp2_with fail
          refine (c_takeLen _ c b T _ _ 0 _ Hok.out HN.out HX.out H.out).mono ?_; rintro e w1 ⟨rfl, rfl⟩
          go_wp2_with fail
          refine (c_clone _ _ L _ _ hO.out HL.out).mono ?_; rintro e w2 ⟨⟨A2, c2, rfl, hA⟩, hb⟩
          go_wp2_with fail
          go_ret3
          exact ⟨⟨A2, c2, ret_sii rfl (by simp), hA⟩, hb⟩
        · have hO := Lib.hid (hLe ▸ OkB.part hcell hl (X := X) (N := N) (by omega) (off + X) (fun _ => rfl) (c - X) (by omega))
          clear hL hX' hE h hX hN hok hcell hLe hLn
          go_enter Try.func33, Try.ntmps33
          go_wp2_with fail
          refine (c_takeLen _ c b T _ _ 0 _ Hok.out HN.out HX.out H.out).mono ?_; rintro e w1 ⟨rfl, rfl⟩
          go_wp2_with fail
          refine (c_clone _ _ L _ _ hO.out HL.out).mono ?_; rintro e w2 ⟨⟨A2, c2, rfl, hA⟩, hb⟩
          go_wp2_with fail
          go_ret3
          exact ⟨⟨A2, c2, rfl, hA⟩, hb⟩
  · obtain ⟨E, hE⟩ : ∃ E, tlE b at_ = E := ⟨_, rfl⟩
    have hE' : trE b at_ most = E := by unfold trE; rw [if_neg h, hE]
    rw [hE] at h
    obtain ⟨hL, hX'⟩ := tr_bad hE' h
    obtain ⟨hN, hX⟩ := tl_bad (b := b) (at_ := at_) (by rw [hE]; exact h)
    rw [hL, hX', hE']
    have HE := Lib.hid hE
    have HN := Lib.hid hN
    have HX := Lib.hid hX
    have hne : (E != 0) = true := by simp [h]
    clear hL hX' hE' hE hN hX hok h
    go_enter Try.func33, Try.ntmps33
    go_wp2_with (go_at_call 27; refine (c_takeLen A c b at_ 0 0 E _ Hok.out HN.out HX.out HE.out).mono ?_; rintro e w1 ⟨rfl, rfl⟩)
    go_ret3
    exact ⟨⟨none, 0, rfl, own_nil _ _⟩, Below.refl _ _⟩
theorem slice_eq {A : Option Addr} {n m c : Nat} (h : n = m) : Value.slice A m c = .slice A n c := by rw [h]
set_option maxRecDepth 20000 in
set_option maxHeartbeats 1000000 in
theorem rtakeRow_any (A : Option Addr) (c : Nat) (b : List UInt8) (at_ most : Int) (w : World) (hok : OkB w A c b) :
    Calls Try.prog 36 #[.slice A b.length c, .int .i64 at_, .int .i64 most] w fun e w' => (∃ A' c', e = .returned (.tuple #[.slice A' (trL b at_ most).length c', .int .i64 (trX b at_ most), .int .i64 (trE b at_ most)]) ∧ OwnB w' w.heap.size A' c' (trL b at_ most)) ∧ Below w.heap.size w w' := by
  have Hok := Lib.hid hok
  have hl := hok.2.2.1
  have hlc := hok.2.1
  by_cases h : tlE b at_ = 0
  · obtain ⟨T, X, N, rfl, h1, hX, hN, h2, h3, h4⟩ := tl_good h
    have HX := Lib.hid hX
    have HN := Lib.hid hN
    have H := Lib.hid h
    by_cases c1 : most < (N : Int)
    · have hE : trE b T most = 4 := by unfold trE; rw [if_pos h, hN, if_pos c1]
      obtain ⟨hL, hX'⟩ := tr_bad hE (by decide)
      rw [hL, hX', hE]
      clear hL hX' hE h hX hN hok
      go_enter Try.func36, Try.ntmps36
      go_wp2_with (go_at_call 28; refine (c_rtakeLen A c b T N X 0 _ Hok.out HN.out HX.out H.out).mono ?_; rintro e w1 ⟨rfl, rfl⟩)
      go_ret3
      exact ⟨⟨none, 0, rfl, own_nil _ _⟩, Below.refl _ _⟩
    · by_cases c2 : b.length < X + N
      · have hE : trE b T most = 3 := by unfold trE; rw [if_pos h, hN, if_neg c1, hX, if_pos (by omega)]
        obtain ⟨hL, hX'⟩ := tr_bad hE (by decide)
        rw [hL, hX', hE]
        clear hL hX' hE h hX hN hok
        go_enter Try.func36, Try.ntmps36
        go_wp2_with (go_at_call 28; refine (c_rtakeLen A c b T N X 0 _ Hok.out HN.out HX.out H.out).mono ?_; rintro e w1 ⟨rfl, rfl⟩)
        go_ret3
        exact ⟨⟨none, 0, rfl, own_nil _ _⟩, Below.refl _ _⟩
      · have hE : trE b T most = 0 := by unfold trE; rw [if_pos h, hN, if_neg c1, hX, if_neg (by omega)]
        have hL : trL b T most = (b.drop X).take N := by unfold trL; rw [if_pos hE, hX, hN]; rfl
        have hX' : trX b T most = (X : Int) + N := by unfold trX; rw [if_pos hE, hX, hN]
        obtain ⟨bk, off, rfl, hcell⟩ := hok.some_ h1
        obtain ⟨L, hLe⟩ : ∃ L, (b.drop X).take N = L := ⟨_, rfl⟩
        have hLn : L.length = N := by rw [← hLe]; simp; omega
        rw [hL, hX', hE, hLe]
        have HL := Lib.hid hLn
        obtain ⟨i0, hi, hz0, hz1, hz2⟩ := info_parts info5
        by_cases hcX : c = X
        · have hN0 : N = 0 := by omega
          have hO := Lib.hid (hLe ▸ OkB.part hcell hl (X := X) (N := N) (by omega) off (by omega) 0 (by omega))
          clear hL hX' hE h hX hN hok hcell hLe hLn
          subst hcX
          subst hN0
          go_enter Try.func36, Try.ntmps36
          go_wp2_with fail
          refine (c_rtakeLen _ c b T _ _ 0 _ Hok.out HN.out HX.out H.out).mono ?_; rintro e w1 ⟨rfl, rfl⟩
          go_wp2_with (at_builtin; refine append_any _ rfl (.tmp 31) (.tmp 37) 22 rfl w.heap.size i0 Try.underlying22 hi hz0 hz1 hz2 (some ⟨w.heap.size, 0, none⟩) 0 [] rfl (own_empty _ _ rfl) _ _ L (slice_eq (by have := HL.out; omega)) (hO.out.ext (bl_alloc (Below.refl _ _) _)) (by have := HL.out; simp; omega) (by simp) ?_; intro A2 c2 b2 w2 hb2 ho2 hg2)
          have he : b2 = L := hb2.out
          have hA : OwnB w2 w.heap.size A2 c2 L := by rw [← he]; exact ho2
          have hb : Below w.heap.size w w2 := bl_grown (bl_alloc (Below.refl _ _) _) hg2 (fun k hk => by cases hk; exact Nat.le_refl _)
          go_ret3
          exact ⟨⟨A2, c2, ret_sii (by rw [he]) (by simp), hA⟩, hb⟩
        · have hO := Lib.hid (hLe ▸ OkB.part hcell hl (X := X) (N := N) (by omega) (off + X) (fun _ => rfl) (c - X) (by omega))
          clear hL hX' hE h hX hN hok hcell hLe hLn
          go_enter Try.func36, Try.ntmps36
          go_wp2_with fail
          refine (c_rtakeLen _ c b T _ _ 0 _ Hok.out HN.out HX.out H.out).mono ?_; rintro e w1 ⟨rfl, rfl⟩
          go_wp2_with (at_builtin; refine append_any _ rfl (.tmp 31) (.tmp 37) 22 rfl w.heap.size i0 Try.underlying22 hi hz0 hz1 hz2 (some ⟨w.heap.size, 0, none⟩) 0 [] rfl (own_empty _ _ rfl) _ _ L (slice_eq (by have := HL.out; omega)) (hO.out.ext (bl_alloc (Below.refl _ _) _)) (by have := HL.out; simp; omega) (by simp) ?_; intro A2 c2 b2 w2 hb2 ho2 hg2)
          have he : b2 = L := hb2.out
          have hA : OwnB w2 w.heap.size A2 c2 L := by rw [← he]; exact ho2
          have hb : Below w.heap.size w w2 := bl_grown (bl_alloc (Below.refl _ _) _) hg2 (fun k hk => by cases hk; exact Nat.le_refl _)
          go_ret3
          exact ⟨⟨A2, c2, ret_sii (by rw [he]) rfl, hA⟩, hb⟩
  · obtain ⟨E, hE⟩ : ∃ E, tlE b at_ = E := ⟨_, rfl⟩
    have hE' : trE b at_ most = E := by unfold trE; rw [if_neg h, hE]
    rw [hE] at h
    obtain ⟨hL, hX'⟩ := tr_bad hE' h
    obtain ⟨hN, hX⟩ := tl_bad (b := b) (at_ := at_) (by rw [hE]; exact h)
    rw [hL, hX', hE']
    have HE := Lib.hid hE
    have HN := Lib.hid hN
    have HX := Lib.hid hX
    have hne : (E != 0) = true := by simp [h]
    clear hL hX' hE' hE hN hX hok h
    go_enter Try.func36, Try.ntmps36
    go_wp2_with (go_at_call 28; refine (c_rtakeLen A c b at_ 0 0 E _ Hok.out HN.out HX.out HE.out).mono ?_; rintro e w1 ⟨rfl, rfl⟩)
    go_ret3
    exact ⟨⟨none, 0, rfl, own_nil _ _⟩, Below.refl _ _⟩

theorem c_takeRow (A : Option Addr) (c : Nat) (b : List UInt8) (at_ most X E : Int) (L : List UInt8) (w : World) (hok : OkB w A c b) (hL : trL b at_ most = L) (hX : trX b at_ most = X) (hE : trE b at_ most = E) :
    Calls Try.prog 33 #[.slice A b.length c, .int .i64 at_, .int .i64 most] w fun e w' => (∃ A' c', e = .returned (.tuple #[.slice A' L.length c', .int .i64 X, .int .i64 E]) ∧ OwnB w' w.heap.size A' c' L) ∧ Below w.heap.size w w' := by
  subst hL hX hE; exact takeRow_any A c b at_ most w hok
theorem c_rtakeRow (A : Option Addr) (c : Nat) (b : List UInt8) (at_ most X E : Int) (L : List UInt8) (w : World) (hok : OkB w A c b) (hL : trL b at_ most = L) (hX : trX b at_ most = X) (hE : trE b at_ most = E) :
    Calls Try.prog 36 #[.slice A b.length c, .int .i64 at_, .int .i64 most] w fun e w' => (∃ A' c', e = .returned (.tuple #[.slice A' L.length c', .int .i64 X, .int .i64 E]) ∧ OwnB w' w.heap.size A' c' L) ∧ Below w.heap.size w w' := by
  subst hL hX hE; exact rtakeRow_any A c b at_ most w hok
theorem c_row (A : Option Addr) (c : Nat) (x : List UInt8) (E : Int) (L : List UInt8) (w : World) (hok : OkB w A c x) (hE : rowE x = E) (hL : rowL x = L) : Calls Try.prog 29 #[.slice A x.length c] w fun e w' => (∃ A' c', e = .returned (.tuple #[.slice A' L.length c', .int .i64 E]) ∧ OwnB w' w.heap.size A' c' L) ∧ Below w.heap.size w w' := by
  subst hE hL; exact row_any A c x w hok
theorem c_rrow (A : Option Addr) (c : Nat) (x : List UInt8) (E : Int) (L : List UInt8) (w : World) (hok : OkB w A c x) (hE : rowE x = E) (hL : rowL x = L) : Calls Try.prog 35 #[.slice A x.length c] w fun e w' => (∃ A' c', e = .returned (.tuple #[.slice A' L.length c', .int .i64 E]) ∧ OwnB w' w.heap.size A' c' L) ∧ Below w.heap.size w w' := by
  subst hE hL; exact rrow_any A c x w hok
theorem c_opt (is : Bool) (A : Option Addr) (c : Nat) (x L : List UInt8) (w : World) (hok : OkB w A c x) (hx : x.length ≤ 1000000) (hL : optL is x = L) :
    Calls Try.prog 39 #[.bool is, .slice A x.length c] w fun e w' => (∃ A' c', e = .returned (.slice A' L.length c') ∧ OwnB w' w.heap.size A' c' L) ∧ Below w.heap.size w w' := by
  subst hL; exact opt_any is A c x w hok hx
theorem c_ropt (is : Bool) (A : Option Addr) (c : Nat) (x L : List UInt8) (w : World) (hok : OkB w A c x) (hx : x.length ≤ 1000000) (hL : optL is x = L) :
    Calls Try.prog 40 #[.bool is, .slice A x.length c] w fun e w' => (∃ A' c', e = .returned (.slice A' L.length c') ∧ OwnB w' w.heap.size A' c' L) ∧ Below w.heap.size w w' := by
  subst hL; exact ropt_any is A c x w hok hx
theorem c_takeOpt (A : Option Addr) (c : Nat) (b : List UInt8) (at_ : Int) (V : Bool) (X E : Int) (w : World) (hok : OkB w A c b) (hV : toV b at_ = V) (hX : toX b at_ = X) (hE : toE b at_ = E) :
    Calls Try.prog 34 #[.slice A b.length c, .int .i64 at_] w fun e w' => e = .returned (.tuple #[.bool V, .int .i64 X, .int .i64 E]) ∧ w = w' := by
  subst hV hX hE; exact takeOpt_any A c b at_ w hok
theorem c_rtakeOpt (A : Option Addr) (c : Nat) (b : List UInt8) (at_ : Int) (V : Bool) (X E : Int) (w : World) (hok : OkB w A c b) (hV : toV b at_ = V) (hX : toX b at_ = X) (hE : toE b at_ = E) :
    Calls Try.prog 37 #[.slice A b.length c, .int .i64 at_] w fun e w' => e = .returned (.tuple #[.bool V, .int .i64 X, .int .i64 E]) ∧ w = w' := by
  subst hV hX hE; exact rtakeOpt_any A c b at_ w hok

def begB (a b : List UInt8) : Bool := decide (b.length ≤ a.length) && (a.take b.length == b)
theorem OkB.take {w : World} {A : Option Addr} {c : Nat} {a : List UInt8} (h : OkB w A c a) (n : Nat) : OkB w A c (a.take n) := by
  refine ⟨?_, by have := h.2.1; simp; omega, by have := h.2.2.1; simp; omega, h.2.2.2⟩
  rcases h.1 with h1 | ⟨b, off, h1, h2⟩
  · exact .inl (by rw [h1]; simp)
  · refine .inr ⟨b, off, h1, fun i hi => ?_⟩
    rw [h2 i (by simp at hi; omega)]; simp
set_option maxHeartbeats 400000 in
theorem begins_any (A : Option Addr) (c : Nat) (a : List UInt8) (A' : Option Addr) (c' : Nat) (b : List UInt8) (w : World) (ha : OkB w A c a) (hb : OkB w A' c' b) (hn : A ≠ none) :
    Calls Try.prog 30 #[.slice A a.length c, .slice A' b.length c'] w fun e w' => e = .returned (.bool (begB a b)) ∧ w = w' := by
  have hlc := ha.2.1
  have hl := ha.2.2.1
  obtain ⟨ad, rfl⟩ : ∃ ad, A = some ad := Option.ne_none_iff_exists'.1 hn
  clear hn
  by_cases h : b.length ≤ a.length
  · have h1 : decide (b.length ≤ a.length) = true := decide_eq_true h
    obtain ⟨v, hv⟩ : ∃ v, (a.take b.length == b) = v := ⟨_, rfl⟩
    have HC := Lib.hid (c_same (some ad) c (a.take b.length) A' c' b w (ha.take _) hb v hv)
    rw [show (a.take b.length).length = b.length by simp; omega] at HC
    rw [show begB a b = v by unfold begB; rw [h1, hv]; rfl]
    clear ha hb hv
    go_enter Try.func30, Try.ntmps30
    go_wp2_with (go_at_call 24; refine HC.out.mono ?_; rintro e w1 ⟨rfl, rfl⟩)
    go_ret
    exact ⟨rfl, rfl⟩
  · have h1 : decide (b.length ≤ a.length) = false := decide_eq_false h
    rw [show begB a b = false by unfold begB; rw [h1]; rfl]
    clear ha hb
    go_enter Try.func30, Try.ntmps30
    go_wp2_with fail
    go_ret
    exact ⟨rfl, rfl⟩
end Go.Proofs.Ytlcclaicodghcaa
