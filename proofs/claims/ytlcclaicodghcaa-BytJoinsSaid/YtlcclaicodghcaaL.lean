import Derived.Test.YtlcclaicodghcaaK
import Derived.WalkSmall
namespace Go.Proofs.Ytlcclaicodghcaa
open Go.RowKit

/-! ### A text's bytes -/
theorem pairB_app : ∀ (m t : List UInt8), m.length % 2 = 0 → pairB (m ++ t) = pairB m ++ pairB t
  | [], _, _ => rfl
  | [_], _, h => by simp at h
  | a :: b :: m, t, h => by
    have : m.length % 2 = 0 := by simp at h; omega
    show pairB (a :: b :: (m ++ t)) = _
    rw [pairB, pairB, pairB_app m t this]; rfl
theorem pairB_even {l : List UInt8} {k : Nat} (hk : k < l.length) (h : k % 2 = 0) : pairB (l.take (k + 1)) = pairB (l.take k) := by
  rw [List.take_succ_eq_append_getElem hk, pairB_app _ _ (by simp; omega)]; simp [pairB]
theorem pairB_odd {l : List UInt8} {k : Nat} (hk : k < l.length) (h : k % 2 = 1) :
    pairB (l.take (k + 1)) = pairB (l.take k) ++ [UInt8.ofNat ((worthB (l.getD (k - 1) 0)).toNat * 16 + (worthB l[k]).toNat)] := by
  obtain ⟨j, rfl⟩ : ∃ j, k = j + 1 := ⟨k - 1, by omega⟩
  have hj : j < l.length := by omega
  rw [pairB_even hj (by omega), List.take_succ_eq_append_getElem hk, List.take_succ_eq_append_getElem hj, List.append_assoc, pairB_app _ _ (by simp; omega)]
  simp [pairB, List.getD, hj]
theorem pairB_len : ∀ l : List UInt8, (pairB l).length ≤ l.length
  | [] => Nat.le_refl _
  | [_] => Nat.zero_le _
  | _ :: _ :: l => by
    have := pairB_len l
    simp only [pairB, List.length_cons]; omega
theorem worthB_range (c : UInt8) : worthB c = -1 ∨ (0 ≤ worthB c ∧ worthB c ≤ 15 ∧ c.toNat < 128) := by
  unfold worthB
  split
  · right; omega
  · split
    · right; omega
    · left; rfl
theorem worthI_B (c : UInt8) : worthI (c.toNat : Int) = worthB c := by
  unfold worthI worthB
  by_cases h1 : 48 ≤ c.toNat ∧ c.toNat ≤ 57
  · rw [if_pos (by omega), if_pos h1]
  · rw [if_neg (by omega), if_neg h1]
    by_cases h2 : 97 ≤ c.toNat ∧ c.toNat ≤ 102
    · rw [if_pos (by omega), if_pos h2]
    · rw [if_neg (by omega), if_neg h2]
theorem worthI_high {r : Nat} (h : 128 ≤ r) : worthI (r : Int) = -1 := by unfold worthI; rw [if_neg (by omega), if_neg (by omega)]
theorem c_worth (r V : Int) (w : World) (h : worthI r = V) : Calls Try.prog 67 #[.int .i32 r] w fun e w' => e = .returned (.int .i64 V) ∧ w = w' := by
  subst h; exact worth_any r w
theorem byE_bad {l : List UInt8} {k : Nat} (hk : k < l.length) (h : worthB l[k] = -1) : byE l = 2 ∧ byL l = [] := by
  have hE : byE l = 2 := by
    unfold byE; rw [if_neg]
    rintro ⟨hg, _⟩
    have := List.all_eq_true.1 hg _ (List.getElem_mem hk)
    rw [h] at this; simp at this
  exact ⟨hE, by unfold byL; rw [hE]; rfl⟩
theorem byE_odd {l : List UInt8} (h : l.length % 2 = 1) : byE l = 2 ∧ byL l = [] := by
  have hE : byE l = 2 := by unfold byE; rw [if_neg (by omega)]
  exact ⟨hE, by unfold byL; rw [hE]; rfl⟩
theorem byE_good {l : List UInt8} (h : l.length % 2 = 0) (hg : ∀ i (_ : i < l.length), 0 ≤ worthB l[i]) : byE l = 0 ∧ byL l = pairB l := by
  have hE : byE l = 0 := by
    have hall : goodB l = true := List.all_eq_true.2 fun c hc => by
      obtain ⟨i, hi, rfl⟩ := List.getElem_of_mem hc
      exact decide_eq_true (hg i hi)
    unfold byE; rw [if_pos ⟨hall, h⟩]
  exact ⟨hE, by unfold byL; rw [hE]; rfl⟩
theorem OwnB.iterAt {w : World} {base : Nat} {A : Option Addr} {c : Nat} {bs : List UInt8} (h : OwnB w base A c bs) {k : Nat} (hk : k < base) (s : ByteArray) (p : Nat) : OwnB (w.iterAt k s p) base A c bs := ⟨ownsRow_iterAt h.1 hk s p, h.2⟩
theorem or_4bits (x y : Nat) (hx : x ≤ 15) (hy : y ≤ 15) : bits .or .i64 ((x : Int) * 16) (y : Int) = (x : Int) * 16 + y := by
  have := or_add x y 4 (by omega) (by omega) (by omega)
  simpa using this

set_option maxRecDepth 20000 in
set_option maxHeartbeats 2000000 in
theorem bytes_any (s : ByteArray) (w : World) (hs : s.size ≤ 1000000) :
    Calls Try.prog 32 #[.string s] w fun e w' => (∃ A c, e = .returned (.tuple #[.slice A (byL s.data.toList).length c, .int .i64 (byE s.data.toList)]) ∧ OwnB w' w.heap.size A c (byL s.data.toList)) ∧ Below w.heap.size w w' := by
  obtain ⟨l, hl⟩ : ∃ l, s.data.toList = l := ⟨_, rfl⟩
  have hln : l.length = s.size := by rw [← hl]; exact Array.length_toList
  have hg : ∀ i (h : i < s.size) (h' : i < l.length), s[i]'h = l[i]'h' := by intro i h h'; subst hl; rfl
  rw [hl]
  obtain ⟨EE, hEE⟩ : ∃ EE, byE l = EE := ⟨_, rfl⟩
  obtain ⟨LL, hLL⟩ : ∃ LL, byL l = LL := ⟨_, rfl⟩
  rw [hEE, hLL]
  replace hEE := Lib.hid hEE
  replace hLL := Lib.hid hLL
  have HL := Lib.hid hln
  have HG := Lib.hid hg
  clear hl hln hg
  obtain ⟨i0, hi, hz0, hz1, hz2⟩ := info_parts info5
  go_enter Try.func32, Try.ntmps32
  go_wp2_with fail
  go_loopw [4, 5, 6] (fun o hf hv wr => ∃ pos : Nat, pos ≤ s.size ∧ wr.heap[w.heap.size]? = some (.stringIter s pos) ∧ Hid (∀ i (_ : i < l.length), i < pos → 0 ≤ worthB l[i]) ∧ (∃ A c bs, o = .slice A (List.length bs) c ∧ Hid (OwnB wr (w.heap.size + 1) A c bs) ∧ Hid (bs = pairB (l.take pos))) ∧ ((hf = .bool false ∧ pos % 2 = 0 ∧ ∃ h : Int, hv = .int .i64 h) ∨ (hf = .bool true ∧ pos % 2 = 1 ∧ ∃ h : Nat, hv = .int .i64 h ∧ h ≤ 15 ∧ Hid ((h : Int) = worthB (l.getD (pos - 1) 0)))) ∧ Hid (Below w.heap.size w wr)) (fun _ _ _ wr => s.size - wr.iterPos w.heap.size)
  case atStart =>
    refine ⟨0, Nat.zero_le _, World.iter_heap w s 0, (fun i _ h => absurd h (Nat.not_lt_zero _)), ⟨none, 0, [], rfl, own_nil _ _, rfl⟩, .inl ⟨rfl, rfl, 0, rfl⟩, (Below.refl _ w).alloc (Nat.le_refl _) _⟩
  case round =>
    obtain ⟨pos, hpos, hit, hgood, ⟨A, c, bs, rfl, Ho, hbs⟩, hhalf, Hb⟩ := hrel
    by_cases hp : pos < s.size
    · have hpl : pos < l.length := by rw [HL.out]; exact hp
      have hsz := (Array.getElem?_eq_some_iff.1 hit).1
      have hch := HG.out pos hp hpl
      obtain ⟨ch, hche⟩ : ∃ ch, l[pos] = ch := ⟨_, rfl⟩
      rw [hche] at hch
      rcases worthB_range ch with hw | ⟨hw0, hw1, hw2⟩
      · obtain ⟨hE, hL⟩ := byE_bad hpl (by rw [hche]; exact hw)
        obtain rfl : EE = 2 := hEE.out.symm.trans hE
        obtain rfl : LL = [] := hLL.out.symm.trans hL
        obtain ⟨r, wd, hdec, hr⟩ : ∃ r wd, Utf8.decode s pos = (r, wd) ∧ worthI (r : Int) = -1 := by
          by_cases h8 : (s[pos]'hp).toNat < 128
          · exact ⟨_, _, decode_ascii s pos hp h8, by rw [worthI_B, hch]; exact hw⟩
          · exact ⟨_, _, rfl, worthI_high (decode_high s pos hp (by omega)).1⟩
        have hnx : ∀ ty, (Instr.next (.pointer (some ⟨w.heap.size, 0, none⟩)) true ty).run Try.prog wr = _ := fun ty => Lib.run_next_any_at wr w.heap.size s pos ty hit hp
        rw [hdec] at hnx
        have HR := Lib.hid hr
        have hb2 := Lib.hid (Lib.below_iterAt Hb.out (k := w.heap.size) (Nat.le_refl _) s (pos + wd))
        clear hE hL hdec hr hw hch hche hit hgood hhalf
        go_wp2_with (go_at_call 67; refine (c_worth _ (-1) _ HR.out).mono ?_; rintro e w1 ⟨rfl, rfl⟩)
        go_ret2
        exact ⟨⟨none, 0, rfl, own_nil _ _⟩, hb2.out⟩
      · obtain ⟨v, hv⟩ := Int.eq_ofNat_of_zero_le hw0
        have hv15 : v ≤ 15 := by omega
        have HR := Lib.hid (show worthI (ch.toNat : Int) = v by rw [worthI_B, hv])
        have hnx : ∀ ty, (Instr.next (.pointer (some ⟨w.heap.size, 0, none⟩)) true ty).run Try.prog wr = _ := fun ty => Lib.run_next_ascii_at wr w.heap.size s pos ty hit hp (by rw [hch]; exact hw2)
        simp only [hch] at hnx
        have hit2 := Lib.hid (Lib.iterAt_heap wr w.heap.size s pos (pos + 1) hit)
        have hpo : wr.iterPos w.heap.size = pos := by simp only [World.iterPos, hit]
        have hb2 := Lib.hid (Lib.below_iterAt Hb.out (k := w.heap.size) (Nat.le_refl _) s (pos + 1))
        have ho2 := Lib.hid (OwnB.iterAt Ho.out (k := w.heap.size) (Nat.lt_succ_self _) s (pos + 1))
        have hsz2 := Lib.hid (show w.heap.size + 1 ≤ (wr.iterAt w.heap.size s (pos + 1)).heap.size by rw [Lib.iterAt_size]; omega)
        have hgood2 : Hid (∀ i (_ : i < l.length), i < pos + 1 → 0 ≤ worthB l[i]) := by
          intro i hi h
          by_cases e : i = pos
          · subst e; rw [hche, hv]; omega
          · exact hgood.out i hi (by omega)
        have hlast := Lib.hid (show (v : Int) = worthB (l.getD (pos + 1 - 1) 0) by rw [Nat.add_sub_cancel, ← hv, ← hche]; simp [List.getD, hpl])
        have hposL : bs.length ≤ 1000000 := by
          rw [hbs.out]
          have := pairB_len (l.take pos)
          have h2 : (l.take pos).length ≤ pos := List.length_take_le _ _
          omega
        rcases hhalf with ⟨rfl, hev, h, rfl⟩ | ⟨rfl, hod, h, rfl, hh15, hh⟩
        · have hbs2 := Lib.hid (show bs = pairB (l.take (pos + 1)) by rw [pairB_even hpl hev]; exact hbs.out)
          have hpo' := Lib.hid hpo
          clear hit hgood hw0 hw1 hw2 hv hch hche hpo
          go_wp2_with (go_at_call 67; refine (c_worth _ v _ HR.out).mono ?_; rintro e w1 ⟨rfl, rfl⟩)
          go_roundw
          case rel => exact ⟨pos + 1, by omega, hit2.out, hgood2, ⟨A, c, bs, rfl, ho2.out, hbs2.out⟩, .inr ⟨rfl, by omega, v, rfl, hv15, hlast.out⟩, hb2.out⟩
          case measure =>
            have e1 := hit2.out
            simp only [World.iterPos, e1] at *
            rw [hpo'.out]
            omega
        · obtain ⟨x, hx⟩ : ∃ x : UInt8, x = UInt8.ofNat (h * 16 + v) := ⟨_, rfl⟩
          have hxe : bits .or .i64 ((h : Int) * 16) (v : Int) = (x.toNat : Int) := by
            rw [or_4bits h v hh15 hv15, hx, UInt8.toNat_ofNat']; omega
          have hx9 := x.toNat_lt
          have hbs2 := Lib.hid (show bs ++ [x] = pairB (l.take (pos + 1)) by
            rw [pairB_odd hpl hod, ← hbs.out, hche, hv, ← hh.out, hx]; rfl)
          have hpo' := Lib.hid hpo
          clear hit hgood hw0 hw1 hw2 hv hch hche hpo hx
          go_wp2_with (first | (go_at_call 67; refine (c_worth _ v _ HR.out).mono ?_; rintro e w1 ⟨rfl, rfl⟩) | (at_builtin; refine append_any _ rfl (.tmp 20) (.tmp 26) 22 rfl (w.heap.size + 1) i0 Try.underlying22 hi hz0 hz1 hz2 A c bs rfl (OwnB.ext ho2.out (bl_alloc (Below.refl _ _) _)) _ 1 [x] rfl (own_one _ _ rfl x).ok (by simp; omega) (Nat.le_trans hsz2.out (by simp)) ?_; intro A2 c2 b2 w2 hb3 ho3 hg3))
          have hkeep : w2.heap[w.heap.size]? = some (.stringIter s (pos + 1)) := by
            rw [hg3.block w.heap.size (by simp; have := hsz2.out; omega) (fun e => by have := OwnB.low ho2.out (Nat.le_refl _) _ e.symm; omega), Below.heap_alloc _ _ _ (by have := hsz2.out; omega)]
            exact hit2.out
          have hkp := Lib.hid hkeep
          clear hkeep
          go_roundw
          case rel => exact ⟨pos + 1, by omega, hkp.out, hgood2, ⟨A2, c2, b2, rfl, ho3, hb3.out.trans hbs2.out⟩, .inl ⟨rfl, by omega, v, rfl⟩, bl_grown (bl_alloc hb2.out _) hg3 (OwnB.low ho2.out (Nat.le_succ _))⟩
          case measure =>
            have e1 := hkp.out
            simp only [World.iterPos, e1] at *
            rw [hpo'.out]
            omega
    · have hpe : pos = s.size := by omega
      have hnx : ∀ ty, (Instr.next (.pointer (some ⟨w.heap.size, 0, none⟩)) true ty).run Try.prog wr = _ := fun ty => Lib.run_next_end_at wr w.heap.size s pos ty hit hp
      rcases hhalf with ⟨rfl, hev, h, rfl⟩ | ⟨rfl, hod, h, rfl, hh15, hh⟩
      · obtain ⟨hE, hL⟩ := byE_good (l := l) (by rw [HL.out, ← hpe]; exact hev) (fun i hi => hgood.out i hi (by have := HL.out; omega))
        obtain rfl : EE = 0 := hEE.out.symm.trans hE
        have hLp := Lib.hid (hLL.out.symm.trans hL)
        have hbs2 := Lib.hid (show bs = pairB l by rw [hbs.out, List.take_of_length_le (by have := HL.out; omega)])
        clear hE hL hpe hit
        go_wp2_with fail
        go_ret2
        exact ⟨⟨A, c, ret_sl2 (by rw [hbs2.out, hLp.out]), by rw [hLp.out, ← hbs2.out]; exact OwnB.base_le Ho.out (Nat.le_succ _)⟩, Hb.out⟩
      · obtain ⟨hE, hL⟩ := byE_odd (l := l) (by rw [HL.out, ← hpe]; exact hod)
        obtain rfl : EE = 2 := hEE.out.symm.trans hE
        obtain rfl : LL = [] := hLL.out.symm.trans hL
        clear hE hL hpe hit
        go_wp2_with fail
        go_ret2
        exact ⟨⟨none, 0, rfl, own_nil _ _⟩, Hb.out⟩
end Go.Proofs.Ytlcclaicodghcaa
