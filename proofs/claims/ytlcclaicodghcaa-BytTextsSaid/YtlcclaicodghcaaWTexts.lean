import Derived.Test.YtlcclaicodghcaaS
namespace Go.Proofs.Ytlcclaicodghcaa
open Go.RowKit

theorem pair_txt : ∀ x : List UInt8, pairB (txt x) = x
  | [] => rfl
  | a :: x => by
    have e : txt (a :: x) = fig (a.toNat / 16) :: fig (a.toNat % 16) :: txt x := rfl
    have ha := a.toNat_lt
    rw [e, pairB, pair_txt x, fig_worth _ (by omega), fig_worth _ (by omega), Int.toNat_natCast, Int.toNat_natCast, show a.toNat / 16 * 16 + a.toNat % 16 = a.toNat by omega]
    simp
theorem good_txt (x : List UInt8) : goodB (txt x) = true := by
  unfold goodB txt
  rw [List.all_eq_true]
  intro c hc
  obtain ⟨a, _, h⟩ := List.mem_flatMap.1 hc
  have ha := a.toNat_lt
  have : c = fig (a.toNat / 16) ∨ c = fig (a.toNat % 16) := by simpa using h
  rcases this with rfl | rfl <;> rw [fig_worth _ (by omega)] <;> simp <;> omega
theorem by_txt (x : List UInt8) : byE (txt x) = 0 ∧ byL (txt x) = x := by
  have hE : byE (txt x) = 0 := if_pos ⟨good_txt x, by rw [txt_len]; omega⟩
  exact ⟨hE, by unfold byL; rw [if_pos hE, pair_txt]⟩
theorem txt_pair : ∀ l : List UInt8, goodB l = true → l.length % 2 = 0 → txt (pairB l) = l
  | [], _, _ => rfl
  | [_], _, h => by simp at h
  | a :: b :: l, hg, h => by
    unfold goodB at hg
    simp only [List.all_cons, Bool.and_eq_true, decide_eq_true_eq] at hg
    have ha : (worthB a).toNat ≤ 15 := by rcases worthB_range a with h | h <;> omega
    have hb : (worthB b).toNat ≤ 15 := by rcases worthB_range b with h | h <;> omega
    have hv : tgt a b = (worthB a).toNat * 16 + (worthB b).toNat := if_pos ⟨hg.1, hg.2.1⟩
    have k := (tgt_eq (a := a) (b := b) (by omega)).1
    rw [hv] at k
    have ih := txt_pair l (by unfold goodB; exact hg.2.2) (by simp at h; omega)
    rw [pairB]
    show txt ([_] ++ pairB l) = _
    have : ∀ x y : List UInt8, txt (x ++ y) = txt x ++ txt y := by intro x y; unfold txt; rw [List.flatMap_append]
    rw [this, k, ih]; rfl
/-- Is a sign a figure? -/
def okc (c : UInt8) : Bool := decide (0 ≤ worthB c)
theorem okc_true {c : UInt8} (h : (48 ≤ c.toNat ∧ c.toNat ≤ 57) ∨ (97 ≤ c.toNat ∧ c.toNat ≤ 102)) : okc c = true := by
  unfold okc worthB; split
  · simp; omega
  · rw [if_pos (by omega)]; simp; omega
theorem okc_false {c : UInt8} (h : ¬ (48 ≤ c.toNat ∧ c.toNat ≤ 57)) (h' : ¬ (97 ≤ c.toNat ∧ c.toNat ≤ 102)) : okc c = false := by
  unfold okc worthB; rw [if_neg h, if_neg h']; rfl
/-- What the law's loop has when it has looked at so many signs. -/
def okTo (s : ByteArray) (k : Nat) : Bool := decide ((s.size : Int) % 2 = 0) && (s.data.toList.take k).all okc
theorem okTo_succ {s : ByteArray} {k : Nat} (h : k < s.data.toList.length) : okTo s (k + 1) = (okTo s k && okc s.data.toList[k]) := by
  unfold okTo; rw [List.take_succ_eq_append_getElem h, List.all_append]; simp [Bool.and_assoc]
theorem sz_list (s : ByteArray) : s.data.toList.length = s.size := by rw [Array.length_toList]; rfl
theorem okTo_all (s : ByteArray) : okTo s s.size = (byE s.data.toList == 0) := by
  unfold okTo byE
  rw [List.take_of_length_le (by rw [sz_list]; omega), show s.data.toList.all okc = goodB s.data.toList from rfl, sz_list]
  cases goodB s.data.toList
  · simp
  · by_cases h : s.size % 2 = 0
    · rw [if_pos ⟨rfl, h⟩, decide_eq_true (by omega)]; rfl
    · rw [if_neg (by simp [h]), decide_eq_false (by omega)]; rfl
theorem strOf_list (s : ByteArray) : strOf s.data.toList = s := by apply ByteArray.ext; simp [strOf]
theorem by_good {s : ByteArray} (h : byE s.data.toList = 0) : strOf (txt (byL s.data.toList)) = s := by
  have h' := h
  unfold byE at h'
  split at h'
  · rename_i k
    unfold byL; rw [if_pos h, txt_pair _ k.1 k.2, strOf_list]
  · cases h'
theorem ok_step {s : ByteArray} {pos : Nat} {b v : Bool} (h : okTo s pos = b) (hp : pos < s.size) (hv : v = (b && ((decide (48 ≤ s[pos].toNat) && decide (s[pos].toNat ≤ 57)) || (decide (97 ≤ s[pos].toNat) && decide (s[pos].toNat ≤ 102))))) : okTo s (pos + 1) = v := by
  have hp' : pos < s.data.toList.length := by rw [sz_list]; exact hp
  rw [okTo_succ hp', h, hv]
  congr 1
  have e : s.data.toList[pos] = s[pos] := rfl
  rw [e]
  by_cases h1 : 48 ≤ s[pos].toNat ∧ s[pos].toNat ≤ 57
  · rw [okc_true (.inl h1), decide_eq_true h1.1, decide_eq_true h1.2]; rfl
  · by_cases h2 : 97 ≤ s[pos].toNat ∧ s[pos].toNat ≤ 102
    · rw [okc_true (.inr h2), decide_eq_true h2.1, decide_eq_true h2.2]; simp
    · rw [okc_false h1 h2]
      have e1 : (decide (48 ≤ s[pos].toNat) && decide (s[pos].toNat ≤ 57)) = false := by rw [← Bool.decide_and]; exact decide_eq_false h1
      have e2 : (decide (97 ≤ s[pos].toNat) && decide (s[pos].toNat ≤ 102)) = false := by rw [← Bool.decide_and]; exact decide_eq_false h2
      rw [e1, e2]; rfl
theorem byL_le {s : ByteArray} (h : s.size ≤ 1000000) : (byL s.data.toList).length ≤ 1000000 := by
  unfold byL; split
  · have := pairB_len s.data.toList; rw [sz_list] at this; omega
  · simp
theorem byE_two (l : List UInt8) : byE l = 0 ∨ (byE l = 2 ∧ byL l = []) := by
  by_cases h : byE l = 0
  · exact .inl h
  · refine .inr ⟨?_, by unfold byL; rw [if_neg h]⟩
    unfold byE at h ⊢; split at h
    · exact absurd rfl h
    · rename_i k; rw [if_neg k]

set_option maxRecDepth 20000 in
set_option maxHeartbeats 4000000 in
theorem texts_any (A : Option Addr) (c : Nat) (x : List UInt8) (s : ByteArray) (w : World) (ob : OkB w A c x) :
    Calls Try.prog 5 #[.slice A x.length c, .string s] w fun e w' => e = .returned (.bool true) ∧ Below w.heap.size w w' := by
  have g := Lib.hid (Below.refl w.heap.size w)
  have h5 : (300 : Int) < x.length ∨ ((x.length : Int) ≤ 300 ∧ (300 : Int) < s.size) ∨ ((x.length : Int) ≤ 300 ∧ (s.size : Int) ≤ 300) := by omega
  rcases h5 with h5 | ⟨h5, h6⟩ | ⟨h5, h6⟩
  · go_enter Try.func5, Try.ntmps5
    go_wp2_with (go_at_call 19; refine (shown_any _).mono ?_; rintro e w1 ⟨rfl, hb⟩)
    go_ret
    exact ⟨rfl, bl_then g.out hb⟩
  · go_enter Try.func5, Try.ntmps5
    go_wp2_with (go_at_call 19; refine (shown_any _).mono ?_; rintro e w1 ⟨rfl, hb⟩)
    go_ret
    exact ⟨rfl, bl_then g.out hb⟩
  · obtain ⟨T, hT⟩ : ∃ T, strOf (txt x) = T := ⟨_, rfl⟩
    have lT : T.size = 2 * x.length := by rw [← hT, strOf_size, txt_len]
    have kT := Lib.hid (by_txt x)
    have dT : T.data.toList = txt x := by rw [← hT]; rfl
    rw [← dT] at kT
    have b9 := Lib.hid (show x.length ≤ 1000000 by omega)
    have s9 := Lib.hid (show s.size ≤ 1000000 by omega)
    have t9 := Lib.hid (show T.size ≤ 1000000 by omega)
    have hlT : (T.size : Int) = 2 * (x.length : Int) := by omega
    obtain ⟨E, hE⟩ : ∃ E, byE s.data.toList = E := ⟨_, rfl⟩
    obtain ⟨L, hL⟩ : ∃ L, byL s.data.toList = L := ⟨_, rfl⟩
    have sx := Lib.hid (show (x == x) = true by simp)
    replace hE := Lib.hid hE; replace hL := Lib.hid hL; replace hT := Lib.hid hT; clear dT lT
    obtain ⟨G0, hG0⟩ : ∃ v, ((s.size : Int) % 2 == 0) = v := ⟨_, rfl⟩
    have hG1 := Lib.hid (show okTo s 0 = G0 by rw [← hG0]; unfold okTo; simp [Bool.beq_eq_decide_eq])
    go_enter Try.func5, Try.ntmps5
    go_wp2_with fail
    refine (shown_any _).mono ?_; rintro e w1 ⟨rfl, hb⟩; replace ob := ob.ext hb; replace g := Lib.hid (bl_then g.out hb); clear hb
    go_wp2_with fail
    refine (c_text A c x T _ ob b9.out hT.out).mono ?_; rintro e w2 ⟨rfl, hb⟩; replace ob := ob.ext hb; replace g := Lib.hid (bl_then g.out hb); clear hb
    go_wp2_with fail
    refine (c_bytes T 0 x _ t9.out kT.out.1 kT.out.2).mono ?_; rintro e w3 ⟨⟨Ao3, co3, rfl, o3⟩, hb⟩; replace ob := ob.ext hb; replace g := Lib.hid (bl_then g.out hb); clear hb; replace o3 := o3.ok
    go_wp2_with fail
    refine (c_same _ _ x _ _ x _ ob o3 true sx.out).mono ?_; rintro e w4 ⟨rfl, rfl⟩
    clear o3
    go_wp2_with fail
    refine (c_bytes s E L _ s9.out hE.out hL.out).mono ?_; rintro e w5 ⟨⟨Ao4, co4, rfl, o4⟩, hb⟩; replace ob := ob.ext hb; replace g := Lib.hid (bl_then g.out hb); clear hb; replace o4 := o4.ok
    go_wp2_with fail
    go_loopw [11, 12] (fun gd i wr => ∃ pos : Nat, ∃ b : Bool, pos ≤ s.size ∧ i = .int .i64 pos ∧ gd = .bool b ∧ Hid (okTo s pos = b) ∧ Hid (Below w5.heap.size w5 wr)) (fun _ i _ => s.size - (intOf i).toNat)
    case atStart => exact ⟨0, G0, Nat.zero_le _, rfl, rfl, hG1.out, Below.refl _ _⟩
    case round =>
      obtain ⟨pos, b, hpos, rfl, rfl, hb, Hb⟩ := hrel
      by_cases hp : pos < s.size
      · go_wp2_with fail
        all_goals (rename_i hbb; refine ⟨⟨pos + 1, _, by omega, congrArg (Value.int .i64) (by omega), rfl, ok_step hb.out hp ?_, Hb⟩, by show s.size - ((pos : Int) + 1).toNat < s.size - ((pos : Int)).toNat; omega⟩)
        all_goals (rw [Bool.eq_iff_iff]; simp_all; try omega)
      · have hpe : pos = s.size := by omega
        subst hpe
        have hbe : b = (E == 0) := by rw [← hb.out, okTo_all, hE.out]
        have g2 := Lib.hid (bl_then g.out Hb.out)
        have o5 := o4.ext Hb.out
        have hx := hE.out ▸ hL.out ▸ byE_two s.data.toList
        have k9 := Lib.hid (show L.length ≤ 1000000 from hL.out ▸ byL_le s9.out)
        rcases hx with hx | ⟨hx, hy⟩
        · subst hx
          obtain rfl : b = true := hbe
          have kx := Lib.hid (by_good hE.out); rw [hL.out] at kx
          go_wp2_with fail
          refine (c_text Ao4 co4 L s _ o5 k9.out kx.out).mono ?_; rintro e w9 ⟨rfl, h9⟩
          go_wp2_with fail
          go_ret
          exact ⟨ret_bool (by simp), bl_then g2.out h9⟩
        · subst hx hy
          obtain rfl : b = false := hbe
          go_wp2_with fail
          go_ret
          exact ⟨ret_bool (by simp), g2.out⟩
end Go.Proofs.Ytlcclaicodghcaa
