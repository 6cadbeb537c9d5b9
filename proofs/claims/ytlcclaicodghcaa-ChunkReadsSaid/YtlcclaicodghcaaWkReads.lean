import Derived.Test.YtlcclaicodghcaaCw
namespace Go.Proofs.Ytlcclaicodghcaa
open Go.RowKit

set_option maxRecDepth 20000 in
set_option maxHeartbeats 4000000 in
theorem kReads_any (A : Option Addr) (c : Nat) (b : List UInt8) (w : World) (hok : OkB w A c b) : Calls Try.prog 12 #[.slice A b.length c] w fun e w' => e = .returned (.bool true) ∧ Below w.heap.size w w' := by
  replace hok := Lib.hid hok
  by_cases h : (5000 : Int) < (b.length : Int)
  · go_enter Try.func12, Try.ntmps12
    go_wp2_with fail
    refine (shown17 _).mono ?_; rintro e w1 ⟨rfl, hb1⟩
    replace hb1 := Lib.hid hb1
    go_wp2_with fail
    go_ret
    exact ⟨rfl, hb1.out⟩
  · obtain ⟨E, hE⟩ : ∃ z, readE b = z := ⟨_, rfl⟩
    obtain ⟨v, hv⟩ : ∃ z, readV b = z := ⟨_, rfl⟩
    obtain ⟨r, hr⟩ : ∃ z, readR b = z := ⟨_, rfl⟩
    obtain ⟨X, hX⟩ : ∃ z, readX b = z := ⟨_, rfl⟩
    obtain ⟨S, hS⟩ : ∃ z, readS b = z := ⟨_, rfl⟩
    obtain ⟨N, hN⟩ : ∃ z, readN b = z := ⟨_, rfl⟩
    obtain ⟨T, hT⟩ : ∃ z, readT b = z := ⟨_, rfl⟩
    replace hE := Lib.hid hE; replace hv := Lib.hid hv; replace hr := Lib.hid hr; replace hX := Lib.hid hX; replace hS := Lib.hid hS; replace hN := Lib.hid hN; replace hT := Lib.hid hT
    go_enter Try.func12, Try.ntmps12
    go_wp2_with fail
    refine (shown17 _).mono ?_; rintro e w1 ⟨rfl, hb1⟩
    have ok1 := Lib.hid (hok.out.ext hb1)
    replace hb1 := Lib.hid hb1
    go_wp2_with fail
    refine (c_readN A c b _ ok1.out (by omega) _ rfl E v r X S N T hE.out hv.out hr.out hX.out hS.out hN.out hT.out).mono ?_
    rintro e w2 ⟨⟨AS, cS, AN, cN, AT, cT, rfl, hH2⟩, hb2⟩
    have ga := bl_alloc (Below.refl _ w2) (.cells #[.int .i64 v, .slice AS S.length cS, .int .i64 r, .slice AN N.length cN, .slice AT T.length cT] 75)
    have f2 := Lib.hid (blk_new w2 #[.int .i64 v, .slice AS S.length cS, .int .i64 r, .slice AN N.length cN, .slice AT T.length cT] 75)
    have ok2 := Lib.hid ((ok1.out.ext hb2).ext ga)
    have B2 := Lib.hid (bl_then (bl_then hb1.out hb2) ga)
    replace hH2 := Lib.hid (hH2.ext ga)
    clear hb2 ga
    go_wp2_with fail
    refine (c_rreadN A c b _ ok2.out (by omega) _ rfl E v r X S N T hE.out hv.out hr.out hX.out hS.out hN.out hT.out).mono ?_
    rintro e w3 ⟨⟨AS', cS', AN', cN', AT', cT', rfl, hH3⟩, hb3⟩
    have ga := bl_alloc (Below.refl _ w3) (.cells #[.int .i64 v, .slice AS' S.length cS', .int .i64 r, .slice AN' N.length cN', .slice AT' T.length cT'] 75)
    have f3 := blk_ext hb3 (lt_blk f2.out) f2.out
    have B3 := Lib.hid (bl_then (bl_then B2.out hb3) ga)
    have hH2' := Lib.hid ((hH2.out.ext hb3).ext ga)
    replace hH3 := Lib.hid (hH3.ext ga)
    obtain ⟨hc, -, hz⟩ := blk_facts f3
    replace f3 := Lib.hid f3
    clear hb3 ga f2
    go_wp2_with fail
    refine (rsame_heads v r AS cS S AN cN N AT cT T v r AS' cS' S AN' cN' N AT' cT' T _ hH2'.out hH3.out true (sameH_refl _ _ _ _ _)).mono ?_; rintro e w4 ⟨rfl, hb4⟩
    have B4 := Lib.hid (bl_then B3.out hb4)
    clear hb4
    go_wp2_with fail
    go_ret
    exact ⟨ret_bool (by simp), B4.out⟩
end Go.Proofs.Ytlcclaicodghcaa
