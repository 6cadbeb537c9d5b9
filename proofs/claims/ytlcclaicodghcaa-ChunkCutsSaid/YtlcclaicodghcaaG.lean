import Derived.Test.YtlcclaicodghcaaF
namespace Go.Proofs.Ytlcclaicodghcaa
open Go.RowKit

theorem c_len (n E : Int) (L : List UInt8) (w : World) (hE : lenE n = E) (hL : lenL n = L) : Calls Try.prog 25 #[.int .i64 n] w fun e w' => (∃ A c, e = .returned (.tuple #[.slice A L.length c, .int .i64 E]) ∧ OwnB w' w.heap.size A c L) ∧ Below w.heap.size w w' := by
  subst hE hL; exact len_any n w
theorem c_rlen (n E : Int) (L : List UInt8) (w : World) (hE : lenE n = E) (hL : lenL n = L) : Calls Try.prog 26 #[.int .i64 n] w fun e w' => (∃ A c, e = .returned (.tuple #[.slice A L.length c, .int .i64 E]) ∧ OwnB w' w.heap.size A c L) ∧ Below w.heap.size w w' := by
  subst hE hL; exact rlen_any n w
theorem lenL_len (n : Int) : (lenL n).length ≤ 4 := by
  unfold lenL; split
  · rw [numB_len]; unfold lenW; split <;> (try split) <;> omega
  · simp
theorem lenE_or (n : Int) : lenE n = 0 ∨ lenE n = 1 := by unfold lenE; split <;> simp
theorem rowL_len (x : List UInt8) : (rowL x).length ≤ 4 + x.length := by
  unfold rowL; split
  · rw [List.length_append]; have := lenL_len x.length; omega
  · simp

set_option maxRecDepth 20000 in
set_option maxHeartbeats 1000000 in
theorem row_any (A : Option Addr) (c : Nat) (x : List UInt8) (w : World) (hok : OkB w A c x) : Calls Try.prog 29 #[.slice A x.length c] w fun e w' => (∃ A' c', e = .returned (.tuple #[.slice A' (rowL x).length c', .int .i64 (rowE x)]) ∧ OwnB w' w.heap.size A' c' (rowL x)) ∧ Below w.heap.size w w' := by
  have Hok := Lib.hid hok
  have hl := hok.2.2.1
  clear hok
  obtain ⟨L, hL⟩ : ∃ L, lenL x.length = L := ⟨_, rfl⟩
  have hL4 : L.length ≤ 4 := by rw [← hL]; exact lenL_len _
  rcases lenE_or x.length with hE | hE
  · have hR : rowL x = L ++ x := by unfold rowL rowE; rw [if_pos hE, hL]
    have hx : x.length ≤ 1073741823 := by
      unfold lenE at hE
      by_cases h : (0 : Int) ≤ (x.length : Int) ∧ (x.length : Int) ≤ 1073741823
      · omega
      · rw [if_neg h] at hE; cases hE
    rw [hR, show rowE x = 0 from hE]
    have HE := Lib.hid hE
    have HL := Lib.hid hL
    obtain ⟨i0, hi, hz0, hz1, hz2⟩ := info_parts info5
    clear hE hL hR
    go_enter Try.func29, Try.ntmps29
    go_wp2_with (first | (go_at_call 25; refine (c_len x.length 0 L _ HE.out HL.out).mono ?_; rintro e w1 ⟨⟨A1, c1, rfl, hO⟩, hb⟩; have HO := Lib.hid hO; have HB := Lib.hid hb; clear hO hb) | (at_builtin; refine append_any _ rfl (.tmp 15) (.tmp 16) 22 rfl w.heap.size i0 Try.underlying22 hi hz0 hz1 hz2 A1 c1 L rfl HO.out A c x rfl (Hok.out.ext HB.out) (by omega) HB.out.size ?_; intro A2 c2 b2 w2 hb2 ho2 hg2))
    go_ret2
    exact ⟨⟨A2, c2, ret_sl2 (by rw [hb2.out]), by rw [← hb2.out]; exact ho2⟩, bl_grown HB.out hg2 (OwnB.low HO.out (Nat.le_refl _))⟩
  · have hR : rowL x = [] := by unfold rowL rowE; rw [if_neg (by rw [hE]; decide)]
    rw [hR, show rowE x = 1 from hE]
    have HE := Lib.hid hE
    have HL := Lib.hid hL
    clear hE hL hR
    go_enter Try.func29, Try.ntmps29
    go_wp2_with (go_at_call 25; refine (c_len x.length 1 L _ HE.out HL.out).mono ?_; rintro e w1 ⟨⟨A1, c1, rfl, hO⟩, hb⟩; have HO := Lib.hid hO; have HB := Lib.hid hb; clear hO hb)
    go_ret2
    exact ⟨⟨none, 0, rfl, own_nil _ _⟩, HB.out⟩

set_option maxRecDepth 20000 in
set_option maxHeartbeats 1000000 in
theorem rrow_any (A : Option Addr) (c : Nat) (x : List UInt8) (w : World) (hok : OkB w A c x) : Calls Try.prog 35 #[.slice A x.length c] w fun e w' => (∃ A' c', e = .returned (.tuple #[.slice A' (rowL x).length c', .int .i64 (rowE x)]) ∧ OwnB w' w.heap.size A' c' (rowL x)) ∧ Below w.heap.size w w' := by
  have Hok := Lib.hid hok
  have hl := hok.2.2.1
  clear hok
  obtain ⟨L, hL⟩ : ∃ L, lenL x.length = L := ⟨_, rfl⟩
  have hL4 : L.length ≤ 4 := by rw [← hL]; exact lenL_len _
  rcases lenE_or x.length with hE | hE
  · have hR : rowL x = L ++ x := by unfold rowL rowE; rw [if_pos hE, hL]
    have hx : x.length ≤ 1073741823 := by
      unfold lenE at hE
      by_cases h : (0 : Int) ≤ (x.length : Int) ∧ (x.length : Int) ≤ 1073741823
      · omega
      · rw [if_neg h] at hE; cases hE
    rw [hR, show rowE x = 0 from hE]
    have HE := Lib.hid hE
    have HL := Lib.hid hL
    obtain ⟨i0, hi, hz0, hz1, hz2⟩ := info_parts info5
    clear hE hL hR
    go_enter Try.func35, Try.ntmps35
    go_wp2_with (first | (go_at_call 26; refine (c_rlen x.length 0 L _ HE.out HL.out).mono ?_; rintro e w1 ⟨⟨A1, c1, rfl, hO⟩, hb⟩; have HO := Lib.hid hO; have HB := Lib.hid hb; clear hO hb) | (at_builtin; refine append_any _ rfl (.tmp 15) (.tmp 16) 22 rfl w.heap.size i0 Try.underlying22 hi hz0 hz1 hz2 A1 c1 L rfl HO.out A c x rfl (Hok.out.ext HB.out) (by omega) HB.out.size ?_; intro A2 c2 b2 w2 hb2 ho2 hg2))
    go_ret2
    exact ⟨⟨A2, c2, ret_sl2 (by rw [hb2.out]), by rw [← hb2.out]; exact ho2⟩, bl_grown HB.out hg2 (OwnB.low HO.out (Nat.le_refl _))⟩
  · have hR : rowL x = [] := by unfold rowL rowE; rw [if_neg (by rw [hE]; decide)]
    rw [hR, show rowE x = 1 from hE]
    have HE := Lib.hid hE
    have HL := Lib.hid hL
    clear hE hL hR
    go_enter Try.func35, Try.ntmps35
    go_wp2_with (go_at_call 26; refine (c_rlen x.length 1 L _ HE.out HL.out).mono ?_; rintro e w1 ⟨⟨A1, c1, rfl, hO⟩, hb⟩; have HO := Lib.hid hO; have HB := Lib.hid hb; clear hO hb)
    go_ret2
    exact ⟨⟨none, 0, rfl, own_nil _ _⟩, HB.out⟩

theorem ret_sl {A : Option Addr} {n m c : Nat} (h : n = m) : Ending.returned (.slice A n c) = .returned (.slice A m c) := by rw [h]
set_option maxHeartbeats 400000 in
theorem clone_any (A : Option Addr) (c : Nat) (bs : List UInt8) (w : World) (hok : OkB w A c bs) :
    Calls Try.prog 68 #[.slice A bs.length c] w fun e w' => (∃ A' c', e = .returned (.slice A' bs.length c') ∧ OwnB w' w.heap.size A' c' bs) ∧ Below w.heap.size w w' := by
  have heq := Lib.run_eql_slice_nil (P := Try.prog) w 22 5 A bs.length c 0 0 Try.underlying22
  have hl := hok.2.2.1
  have Hok := Lib.hid hok
  clear hok
  cases A with
  | none =>
    have Hn := Lib.hid Hok.out.1.none_
    go_enter Try.func68, Try.ntmps68
    go_wp2_with fail
    go_ret
    exact ⟨⟨none, 0, ret_sl (by rw [Hn.out]; rfl), by rw [Hn.out]; exact own_nil _ _⟩, Below.refl _ _⟩
  | some a =>
    obtain ⟨i0, hi, hz0, hz1, hz2⟩ := info_parts info5
    have Hb1 := Lib.hid (bl_alloc (Below.refl w.heap.size w) (.cells #[] 5))
    go_enter Try.func68, Try.ntmps68
    go_wp2_with (at_builtin; refine append_any _ rfl (.tmp 5) (.tmp 6) 22 rfl w.heap.size i0 Try.underlying22 hi hz0 hz1 hz2 (some ⟨w.heap.size, 0, none⟩) 0 [] rfl (own_empty _ _ rfl) (some a) c bs rfl (Hok.out.ext Hb1.out) (by simp; omega) Hb1.out.size ?_; intro A2 c2 b2 w2 hb2 ho2 hg2)
    go_ret
    have he : b2 = bs := by rw [hb2.out]; rfl
    exact ⟨⟨A2, c2, ret_sl (by rw [he]), by rw [← he]; exact ho2⟩, bl_grown Hb1.out hg2 (fun k hk => by cases hk; exact Nat.le_refl _)⟩

/-! ### What may lack -/
set_option maxHeartbeats 400000 in
theorem opt_any (is : Bool) (A : Option Addr) (c : Nat) (x : List UInt8) (w : World) (hok : OkB w A c x) (hx : x.length ≤ 1000000) :
    Calls Try.prog 39 #[.bool is, .slice A x.length c] w fun e w' => (∃ A' c', e = .returned (.slice A' (optL is x).length c') ∧ OwnB w' w.heap.size A' c' (optL is x)) ∧ Below w.heap.size w w' := by
  have Hok := Lib.hid hok
  clear hok
  cases is
  · rw [show optL false x = [0] from rfl]
    go_enter Try.func39, Try.ntmps39
    go_wp2_with fail
    go_ret
    exact ⟨⟨some ⟨w.heap.size, 0, none⟩, 1, rfl, own_one _ _ rfl 0⟩, bl_alloc (Below.refl _ _) _⟩
  · obtain ⟨O, hO⟩ : ∃ O, optL true x = O := ⟨_, rfl⟩
    rw [hO]
    have HO : Hid ([1] ++ x = O) := hO
    clear hO
    obtain ⟨i0, hi, hz0, hz1, hz2⟩ := info_parts info5
    have Hb1 := Lib.hid (bl_alloc (Below.refl w.heap.size w) (.cells #[.int .u8 1] 5))
    go_enter Try.func39, Try.ntmps39
    go_wp2_with (at_builtin; refine append_any _ rfl (.tmp 8) (.tmp 9) 22 rfl w.heap.size i0 Try.underlying22 hi hz0 hz1 hz2 (some ⟨w.heap.size, 0, none⟩) 1 [1] rfl (own_one _ _ rfl 1) A c x rfl (Hok.out.ext Hb1.out) (by simp; omega) Hb1.out.size ?_; intro A2 c2 b2 w2 hb2 ho2 hg2)
    go_ret
    have he : b2 = O := hb2.out.trans HO.out
    exact ⟨⟨A2, c2, ret_sl (by rw [he]), by rw [← he]; exact ho2⟩, bl_grown Hb1.out hg2 (fun k hk => by cases hk; exact Nat.le_refl _)⟩
set_option maxHeartbeats 400000 in
theorem ropt_any (is : Bool) (A : Option Addr) (c : Nat) (x : List UInt8) (w : World) (hok : OkB w A c x) (hx : x.length ≤ 1000000) :
    Calls Try.prog 40 #[.bool is, .slice A x.length c] w fun e w' => (∃ A' c', e = .returned (.slice A' (optL is x).length c') ∧ OwnB w' w.heap.size A' c' (optL is x)) ∧ Below w.heap.size w w' := by
  have Hok := Lib.hid hok
  clear hok
  cases is
  · rw [show optL false x = [0] from rfl]
    go_enter Try.func40, Try.ntmps40
    go_wp2_with fail
    go_ret
    exact ⟨⟨some ⟨w.heap.size, 0, none⟩, 1, rfl, own_one _ _ rfl 0⟩, bl_alloc (Below.refl _ _) _⟩
  · obtain ⟨O, hO⟩ : ∃ O, optL true x = O := ⟨_, rfl⟩
    rw [hO]
    have HO : Hid ([1] ++ x = O) := hO
    clear hO
    obtain ⟨i0, hi, hz0, hz1, hz2⟩ := info_parts info5
    have Hb1 := Lib.hid (bl_alloc (Below.refl w.heap.size w) (.cells #[.int .u8 1] 5))
    go_enter Try.func40, Try.ntmps40
    go_wp2_with (at_builtin; refine append_any _ rfl (.tmp 6) (.tmp 7) 22 rfl w.heap.size i0 Try.underlying22 hi hz0 hz1 hz2 (some ⟨w.heap.size, 0, none⟩) 1 [1] rfl (own_one _ _ rfl 1) A c x rfl (Hok.out.ext Hb1.out) (by simp; omega) Hb1.out.size ?_; intro A2 c2 b2 w2 hb2 ho2 hg2)
    go_ret
    have he : b2 = O := hb2.out.trans HO.out
    exact ⟨⟨A2, c2, ret_sl (by rw [he]), by rw [← he]; exact ho2⟩, bl_grown Hb1.out hg2 (fun k hk => by cases hk; exact Nat.le_refl _)⟩

/-! ### Are two rows the same? -/
theorem run_str {src dst e : TypeId} {P : Program} (hs : P.underlying src = some (.slice e)) (he : P.underlying e = some (.int .u8)) (hd : P.underlying dst = some .string)
    {w : World} {A : Option Addr} {c : Nat} {bs : List UInt8} (h : RB w A bs) :
    (convert src dst (.slice A bs.length c)).run P w = .ok (.string (strOf bs)) w := by
  rcases h with rfl | ⟨b, off, rfl, hc⟩
  · cases A with
    | none => rw [run_convert_bytes_nil w src e hs he _ _ dst hd]; rfl
    | some a =>
      rw [run_convert_bytes_string w src dst e _ _ c hs he hd]
      have h0 : (loadCells a 0).run P w = .ok (([] : List Int).map (Value.int .u8)).toArray w := by
        simp [loadCells, loadCellsFrom, Sem.run_pure]
      rw [List.length_nil, run_bytesToString w a 0 c [] h0]
      rfl
  · have := run_convert_bytes_arg (P := P) w src e hs he b off bs.length c (bs.map fun x => (x.toNat : Int)) (by simp) (fun i hi => by
      rw [hc i hi]; simp [List.getD, hi]) dst hd
    rw [this]
    have e : strOfNums (bs.map fun x => (x.toNat : Int)) = strOf bs := by
      simp only [strOfNums, strOf, List.map_map]
      congr 2
      conv => rhs; rw [← List.map_id bs]
      apply List.map_congr_left
      intro x _
      simp
    rw [e]
theorem strOf_eq (x y : List UInt8) : ((strOf x).toList == (strOf y).toList) = (x == y) := by
  rw [ByteArray.toList_eq, ByteArray.toList_eq]; rfl
set_option maxHeartbeats 400000 in
theorem same_any (A : Option Addr) (c : Nat) (x : List UInt8) (A' : Option Addr) (c' : Nat) (y : List UInt8) (w : World) (hx : RB w A x) (hy : RB w A' y) :
    Calls Try.prog 24 #[.slice A x.length c, .slice A' y.length c'] w fun e w' => e = .returned (.bool (x == y)) ∧ w = w' := by
  have h1 := run_str (P := Try.prog) (c := c) Try.underlying22 Try.underlying5 Try.underlying9 hx
  have h2 := run_str (P := Try.prog) (c := c') Try.underlying22 Try.underlying5 Try.underlying9 hy
  clear hx hy
  go_enter Try.func24, Try.ntmps24
  go_wp2
  go_ret
  exact ⟨ret_bool (strOf_eq x y), rfl⟩
theorem c_same (A : Option Addr) (c : Nat) (x : List UInt8) (A' : Option Addr) (c' : Nat) (y : List UInt8) (w : World) (hx : OkB w A c x) (hy : OkB w A' c' y) (b : Bool) (hb : (x == y) = b) :
    Calls Try.prog 24 #[.slice A x.length c, .slice A' y.length c'] w fun e w' => e = .returned (.bool b) ∧ w = w' := by
  subst hb; exact same_any A c x A' c' y w hx.1 hy.1
end Go.Proofs.Ytlcclaicodghcaa
