import Derived.Test.YtlcclaicodghcaaL
import Derived.Deep.RegionHeld3
import Derived.Deep.DeepCutAuto
namespace Go.Proofs.Ytlcclaicodghcaa
open Go.RowKit

theorem fig_worth : ∀ k, k < 16 → worthB (fig k) = (k : Int) := by decide
theorem worth_fig (a : UInt8) (h : 0 ≤ worthB a) : fig (worthB a).toNat = a := by
  have key : ∀ k, k < 256 → 0 ≤ worthB (UInt8.ofNat k) → fig (worthB (UInt8.ofNat k)).toNat = UInt8.ofNat k := by decide +kernel
  have e : UInt8.ofNat a.toNat = a := by simp
  have := key a.toNat a.toNat_lt
  rw [e] at this
  exact this h
/-- The byte of two signs; 256: there is none. -/
def tgt (a b : UInt8) : Nat := if 0 ≤ worthB a ∧ 0 ≤ worthB b then (worthB a).toNat * 16 + (worthB b).toNat else 256
theorem tgt_le (a b : UInt8) : tgt a b ≤ 256 := by
  unfold tgt; split
  · rcases worthB_range a with h | h <;> rcases worthB_range b with h' | h' <;> omega
  · omega
theorem txt_one (x : UInt8) : txt [x] = [fig (x.toNat / 16), fig (x.toNat % 16)] := rfl
theorem tgt_ne {a b : UInt8} {n : Nat} (h : n < tgt a b) (hn : n < 256) : txt [UInt8.ofNat n] ≠ [a, b] := by
  intro e
  rw [txt_one, show (UInt8.ofNat n).toNat = n by rw [UInt8.toNat_ofNat']; omega] at e
  simp only [List.cons.injEq, and_true] at e
  have h1 := fig_worth (n / 16) (by omega)
  have h2 := fig_worth (n % 16) (by omega)
  rw [e.1] at h1
  rw [e.2] at h2
  unfold tgt at h
  rw [if_pos (by omega), h1, h2] at h
  omega
theorem tgt_eq {a b : UInt8} (h : tgt a b < 256) : txt [UInt8.ofNat (tgt a b)] = [a, b] ∧ 0 ≤ worthB a ∧ 0 ≤ worthB b ∧ tgt a b = (worthB a).toNat * 16 + (worthB b).toNat := by
  by_cases hg : 0 ≤ worthB a ∧ 0 ≤ worthB b
  · have hv : tgt a b = (worthB a).toNat * 16 + (worthB b).toNat := if_pos hg
    have ha : (worthB a).toNat ≤ 15 := by rcases worthB_range a with h | h <;> omega
    have hb : (worthB b).toNat ≤ 15 := by rcases worthB_range b with h | h <;> omega
    refine ⟨?_, hg.1, hg.2, hv⟩
    rw [txt_one, show (UInt8.ofNat (tgt a b)).toNat = tgt a b by rw [UInt8.toNat_ofNat']; omega, hv,
      show ((worthB a).toNat * 16 + (worthB b).toNat) / 16 = (worthB a).toNat by omega, show ((worthB a).toNat * 16 + (worthB b).toNat) % 16 = (worthB b).toNat by omega,
      worth_fig a hg.1, worth_fig b hg.2]
  · unfold tgt at h; rw [if_neg hg] at h; omega
theorem c_rtext (A : Option Addr) (c : Nat) (x : List UInt8) (n : Nat) (t : ByteArray) (w : World) (hok : OkB w A c x) (hx : x.length ≤ 1000000) (hn : x.length = n) (ht : strOf (txt x) = t) :
    Calls Try.prog 41 #[.slice A n c] w fun e w' => e = .returned (.string t) ∧ Below w.heap.size w w' := by
  subst hn ht
  refine (rtext_any A c x w hok hx).mono ?_
  rintro e w' ⟨rfl, n, rfl⟩
  exact ⟨rfl, bl_drewN (Below.refl _ _) n⟩
theorem ext_two {l : List UInt8} {k : Nat} (h : k + 2 ≤ l.length) : (strOf l).extract k (k + 2) = strOf [l[k]'(by omega), l[k + 1]'(by omega)] := by
  apply ByteArray.ext
  apply Array.toList_inj.1
  have e : (strOf l).data.toList = l := rfl
  rw [ByteArray.data_extract, Array.toList_extract, e]
  show (l.extract k (k + 2)) = _
  rw [List.extract_eq_take_drop, show k + 2 - k = 2 by omega, List.drop_eq_getElem_cons (by omega), List.take_succ_cons, List.drop_eq_getElem_cons (by omega), List.take_succ_cons, List.take_zero]
  rfl

theorem pairB_two {l : List UInt8} {k : Nat} (hk : k + 2 ≤ l.length) (h : k % 2 = 0) :
    pairB (l.take (k + 2)) = pairB (l.take k) ++ [UInt8.ofNat ((worthB (l[k]'(by omega))).toNat * 16 + (worthB (l[k + 1]'(by omega))).toNat)] := by
  rw [pairB_odd (k := k + 1) (by omega) (by omega), pairB_even (by omega) h]
  simp [List.getD, show k < l.length by omega]
set_option maxRecDepth 20000 in
set_option maxHeartbeats 2000000 in
theorem rbytes_any (l : List UInt8) (w : World) (hl : l.length ≤ 1000000) :
    Calls Try.prog 38 #[.string (strOf l)] w fun e w' => (∃ A c, e = .returned (.tuple #[.slice A (byL l).length c, .int .i64 (byE l)]) ∧ OwnB w' w.heap.size A c (byL l)) ∧ Below w.heap.size w w' := by
  obtain ⟨s, hs⟩ : ∃ s, strOf l = s := ⟨_, rfl⟩
  have hsz : s.size = l.length := by rw [← hs, strOf_size]
  obtain ⟨EE, hEE⟩ : ∃ EE, byE l = EE := ⟨_, rfl⟩
  obtain ⟨LL, hLL⟩ : ∃ LL, byL l = LL := ⟨_, rfl⟩
  rw [hEE, hLL, hs]
  replace hEE := Lib.hid hEE
  replace hLL := Lib.hid hLL
  by_cases hod : l.length % 2 = 1
  · obtain ⟨hE, hL⟩ := byE_odd hod
    obtain rfl : EE = 2 := hEE.out.symm.trans hE
    obtain rfl : LL = [] := hLL.out.symm.trans hL
    have ho : ((s.size : Int) % 2 == 1) = true := by rw [hsz]; simp; omega
    have hs9 : s.size ≤ 1000000 := by omega
    clear hE hL hs hsz hod
    go_enter Try.func38, Try.ntmps38
    go_wp2_with fail
    go_ret2
    exact ⟨⟨none, 0, rfl, own_nil _ _⟩, Below.refl _ _⟩
  · have ho : ((s.size : Int) % 2 == 1) = false := by rw [hsz]; simp; omega
    have hs9 : s.size ≤ 1000000 := by omega
    have HS := Lib.hid hs
    have HZ := Lib.hid hsz
    have HO := Lib.hid hod
    obtain ⟨i0, hi, hz0, hz1, hz2⟩ := info_parts info5
    clear hs hsz hod
    go_enter Try.func38, Try.ntmps38
    go_wp2_with fail
    go_loopw [4, 5] (fun o i wr => ∃ pos : Nat, pos ≤ s.size ∧ i = .int .i64 pos ∧ pos % 2 = 0 ∧ Hid (∀ i (_ : i < l.length), i < pos → 0 ≤ worthB l[i]) ∧ (∃ A c bs, o = .slice A (List.length bs) c ∧ Hid (OwnB wr w.heap.size A c bs) ∧ Hid (bs = pairB (l.take pos))) ∧ Hid (Below w.heap.size w wr)) (fun _ i _ => s.size - (intOf i).toNat)
    case atStart => exact ⟨0, Nat.zero_le _, rfl, rfl, (fun i _ h => absurd h (Nat.not_lt_zero _)), ⟨none, 0, [], rfl, own_nil _ _, rfl⟩, Below.refl _ _⟩
    case round =>
      obtain ⟨pos, hpos, rfl, hev, hgood, ⟨A, c, bs, rfl, Ho, hbs⟩, Hb⟩ := hrel
      by_cases hp : pos < s.size
      · have hp2 : pos + 2 ≤ l.length := by have := HZ.out; have := HO.out; omega
        obtain ⟨a, ha⟩ : ∃ a, l[pos]'(by omega) = a := ⟨_, rfl⟩
        obtain ⟨b, hb⟩ : ∃ b, l[pos + 1]'(by omega) = b := ⟨_, rfl⟩
        obtain ⟨N, hN⟩ : ∃ N, tgt a b = N := ⟨_, rfl⟩
        obtain ⟨t, ht⟩ : ∃ t, strOf [a, b] = t := ⟨_, rfl⟩
        have hN9 : N ≤ 256 := by rw [← hN]; exact tgt_le a b
        have hx : s.extract pos (pos + 2) = t := by rw [← HS.out, ext_two hp2, ha, hb, ht]
        replace ha := Lib.hid ha
        replace hb := Lib.hid hb
        replace hN := Lib.hid hN
        replace ht := Lib.hid ht
        have hps : (pos : Int) + 2 ≤ s.size := by have := HZ.out; omega
        have hps' : pos + 2 ≤ s.size := by omega
        obtain ⟨wo, hwo⟩ : ∃ wo : World, wo = wr := ⟨_, rfl⟩
        subst hwo
        go_wp2_with fail
        go_loopw [6] (fun i wr => ∃ n : Nat, n ≤ N ∧ i = .int .i64 n ∧ Hid (Below wo.heap.size wo wr)) (fun i _ => 256 - (intOf i).toNat)
        case atStart => exact ⟨0, Nat.zero_le _, rfl, Below.refl _ _⟩
        case round =>
          obtain ⟨n, hn, rfl, Hb2⟩ := hrel
          by_cases hlt : n < 256
          · obtain ⟨x, hxx⟩ : ∃ x : UInt8, x = UInt8.ofNat n := ⟨_, rfl⟩
            obtain ⟨tx, htx⟩ : ∃ tx, strOf (txt [x]) = tx := ⟨_, rfl⟩
            obtain ⟨bv, hbv⟩ : ∃ bv, decide (n < N) = bv := ⟨_, rfl⟩
            have hcmp : (tx.toList == t.toList) = !bv := by
              rw [← htx, ← ht.out, strOf_eq, ← hbv]
              by_cases h : n < N
              · have := tgt_ne (by rw [hN.out]; exact h) hlt
                rw [← hxx] at this
                rw [decide_eq_true h, beq_eq_false_iff_ne.2 this]; rfl
              · obtain rfl : n = N := by omega
                have := (tgt_eq (a := a) (b := b) (by rw [hN.out]; exact hlt)).1
                rw [hN.out, ← hxx] at this
                rw [this]; simp
            go_upto_region 8 with fail
            have hw1 : (n : Int) % 256 = (x.toNat : Int) := by
              rw [hxx, UInt8.toNat_ofNat']; omega
            have hw0 : IntKind.u8.wrap (n : Int) = (x.toNat : Int) := by rw [← hw1, IntKind.wrap_u8]
            have hw2 : IntKind.i64.wrap ((pos : Int) + 2) = (pos : Int) + 2 := IntWalk.i64_in _ (by omega)
            have hw3 : (0 : Int) ≤ (pos : Int) := Int.natCast_nonneg _
            have hw4 : ((pos : Int) + 2).toNat = pos + 2 := by omega
            have hlt' : (n : Int) < 256 := by omega
            have hw5 : (pos : Int) ≤ (pos : Int) + 2 := by omega
            have hw6 : ¬ ((pos : Int) + 2 < (pos : Int)) := by omega
            have hw7 : ¬ ((s.size : Int) < (pos : Int) + 2) := by omega
            have HT := Lib.hid htx
            replace hxx := Lib.hid hxx
            replace hbv := Lib.hid hbv
            clear htx
            go_cut [30] from 17 to 32 (fun s wx => s = .bool bv ∧ Below wr.heap.size wr wx)
            case first =>
              go_region_held3 (fun _ => True) (exact trivial) (first | (go_at_call 41; refine (c_rtext _ _ [x] 1 tx _ ?_ (by simp) rfl HT.out).mono ?_; (first | exact (own_one _ _ rfl x).ok.ext (bl_drew (Below.refl _ _)) | exact (own_one _ _ rfl x).ok); rintro e w1 ⟨rfl, hb1⟩) | fail)
              all_goals (go_wp2_with fail; go_meet)
              all_goals exact ⟨rfl, bl_then (bl_drew (bl_alloc (Below.refl _ _) _)) hb1⟩
            case rest =>
              obtain ⟨rfl, hb3⟩ := hcut
              have Hb3 := Lib.hid (bl_then Hb2.out hb3)
              clear hb3 hw0 hw1 hw2 hw3 hw4 hlt' hw5 hw6 hw7 hcmp
              cases bv
              · have hnN : n = N := by
                  have := of_decide_eq_false hbv.out
                  omega
                obtain ⟨_, g1, g2, g3⟩ := tgt_eq (a := a) (b := b) (by rw [hN.out, ← hnN]; exact hlt)
                have hne : ((n : Int) == 256) = false := by simp; omega
                have hw1 : IntKind.u8.wrap (n : Int) = (x.toNat : Int) := by rw [IntKind.wrap_u8, hxx.out, UInt8.toNat_ofNat']; rfl
                have hw2 : (n : Int) = (x.toNat : Int) := by rw [hxx.out, UInt8.toNat_ofNat']; omega
                have hx9 := x.toNat_lt
                have hbs2 := Lib.hid (show bs ++ [x] = pairB (l.take (pos + 2)) by
                  rw [pairB_two hp2 hev, ← hbs.out, ha.out, hb.out, ← g3, hN.out, ← hnN, hxx.out])
                have hgood2 : Hid (∀ i (_ : i < l.length), i < pos + 2 → 0 ≤ worthB l[i]) := by
                  intro i hi h
                  by_cases e : i = pos
                  · subst e; rw [ha.out]; exact g1
                  · by_cases e' : i = pos + 1
                    · subst e'; rw [hb.out]; exact g2
                    · exact hgood.out i hi (by omega)
                have Ho3 := Lib.hid (OwnB.ext Ho.out Hb3.out)
                have Hb4 := Lib.hid (bl_then Hb.out Hb3.out)
                have hbl : bs.length ≤ 1000000 := by
                  rw [hbs.out]
                  have := pairB_len (l.take pos)
                  have h2 : (l.take pos).length ≤ pos := List.length_take_le _ _
                  omega
                have HX := Lib.hid hw2
                clear hw1 hnN g1 g2 g3 hw2
                have hwn := Lib.hid HX.out
                obtain rfl : n = x.toNat := by have := HX.out; omega
                go_wp2_with (at_builtin; refine append_any _ rfl (.tmp 35) (.tmp 38) 22 rfl w.heap.size i0 Try.underlying22 hi hz0 hz1 hz2 A c bs rfl (OwnB.ext Ho3.out (bl_alloc (Below.refl _ _) _)) _ 1 [x] rfl (own_one _ _ rfl x).ok (by simp; omega) (bl_alloc Hb4.out _).size ?_; intro A2 c2 b2 w2 hb5 ho5 hg5)
                go_roundw
                case rel => exact ⟨pos + 2, by omega, by go_num, by omega, hgood2, ⟨A2, c2, b2, rfl, ho5, hb5.out.trans hbs2.out⟩, bl_grown (bl_alloc Hb4.out _) hg5 (OwnB.low Ho3.out (Nat.le_refl _))⟩
                case measure => simp [intOf]; omega
              · have hnN : n < N := of_decide_eq_true hbv.out
                go_wp2_with fail
                go_roundw
                case rel => exact ⟨n + 1, by omega, by go_num, Hb3⟩
                case measure => simp [intOf]; omega
          · obtain rfl : n = 256 := by omega
            obtain rfl : N = 256 := by omega
            have hbad : ∃ k, ∃ h : k < l.length, worthB l[k] = -1 := by
              rcases worthB_range a with h | h
              · exact ⟨pos, by omega, by rw [ha.out]; exact h⟩
              · rcases worthB_range b with h' | h'
                · exact ⟨pos + 1, by omega, by rw [hb.out]; exact h'⟩
                · have := hN.out
                  unfold tgt at this; rw [if_pos ⟨h.1, h'.1⟩] at this; omega
            obtain ⟨k, hk, hkw⟩ := hbad
            obtain ⟨hE, hL⟩ := byE_bad hk hkw
            obtain rfl : EE = 2 := hEE.out.symm.trans hE
            obtain rfl : LL = [] := hLL.out.symm.trans hL
            clear hE hL hkw hk hn hN9 hlt
            go_wp2_with fail
            go_quiet (fail)
            go_wp2_with fail
            go_ret2
            exact ⟨⟨none, 0, rfl, own_nil _ _⟩, bl_drewN (bl_then Hb.out Hb2.out) _⟩
      · have hpe : pos = l.length := by have := HZ.out; omega
        obtain ⟨hE, hL⟩ := byE_good (l := l) (by have := HO.out; omega) (fun i hi => hgood.out i hi (by omega))
        obtain rfl : EE = 0 := hEE.out.symm.trans hE
        have hLp := Lib.hid (hLL.out.symm.trans hL)
        have hbs2 := Lib.hid (show bs = pairB l by rw [hbs.out, List.take_of_length_le (by omega)])
        clear hE hL hpe
        go_wp2_with fail
        go_ret2
        exact ⟨⟨A, c, ret_sl2 (by rw [hbs2.out, hLp.out]), by rw [hLp.out, ← hbs2.out]; exact Ho⟩, Hb.out⟩
end Go.Proofs.Ytlcclaicodghcaa
