import Derived.Test.YtkfalgdhpojejaaY
namespace Go.Proofs.Ytkfalgdhpojejaa
open Go.RowKit

theorem readTo_prefix {B : List (List UInt8)} {P Q : List PutD} {at_ : Int} : ∀ k, k ≤ P.length → readTo B (P ++ Q) at_ k = readTo B P at_ k
  | 0, _ => rfl
  | k + 1, h => by
    have hk : k < P.length := h
    have e : (P ++ Q).getD k (0, []) = P.getD k (0, []) := by simp [List.getD, List.getElem?_append_left hk]
    rw [readTo, readTo, e, readTo_prefix k (Nat.le_of_lt hk)]
theorem readTo_last {B : List (List UInt8)} {P : List PutD} {i at_ : Int} {bs : List UInt8} : readTo B (P ++ [(i, bs)]) at_ (P ++ [(i, bs)]).length = if i = at_ then bs else readTo B P at_ P.length := by
  have e : (P ++ [(i, bs)]).getD P.length (0, []) = (i, bs) := by simp [List.getD]
  rw [List.length_append, show ([(i, bs)] : List PutD).length = 1 from rfl, readTo, e, readTo_prefix _ (Nat.le_refl _)]
theorem layTo_read {B : List (List UInt8)} {P : List PutD} {at_ : Int} (h0 : 0 ≤ at_) (h1 : at_ < B.length) (hP : okP B.length P) : ∀ k, k ≤ P.length → (layTo B P (fun _ => true) k).getD at_.toNat [] = readTo B P at_ k
  | 0, _ => rfl
  | k + 1, h => by
    have hk : k < P.length := h
    have ih := layTo_read h0 h1 hP k (Nat.le_of_lt hk)
    have hp := hP k hk
    have e : P.getD k (0, []) = P[k] := by simp [hk]
    have hl := layTo_length B P (fun _ => true) k
    rw [layTo, readTo, e, if_pos rfl]
    by_cases hq : P[k].1 = at_
    · rw [if_pos hq, hq]
      have : at_.toNat < (layTo B P (fun _ => true) k).length := by omega
      simp [List.getD, this]
    · rw [if_neg hq, ← ih]
      have : P[k].1.toNat ≠ at_.toNat := by omega
      simp [List.getD, List.getElem?_set_ne this]

set_option maxRecDepth 20000 in
set_option maxHeartbeats 4000000 in
theorem reads_any (AB : Option Addr) (cb : Nat) (AP : Option Addr) (cp : Nat) (f at_ n other : Int) (w : World) (B : List (List UInt8)) (P : List PutD)
    (hD : OkD w AB AP cp B P) (hlB : B.length ≤ 140737488351232) (hlP : P.length ≤ 140737488351232) (hf : -9223372036854775808 ≤ f) (hf' : f ≤ 9223372036854775807) (ha : 0 ≤ at_) (ha' : at_ ≤ 255) (hn : 0 ≤ n) (hn' : n ≤ 255) (ho : 0 ≤ other) (ho' : other ≤ 255) :
    Calls Try.prog 7 #[.agg #[.slice AB B.length cb, .slice AP P.length cp, .int .i64 f, .int .u8 at_, .int .u8 n, .int .u8 other]] w fun e w' => e = .returned (.bool true) ∧ Below w.heap.size w w' := by
  have g0 := bl_alloc (bl_alloc (Below.refl _ w) (.cells #[.slice AB B.length cb, .slice AP P.length cp, .int .i64 f, .int .u8 at_, .int .u8 n, .int .u8 other] 60)) (.cells #[.slice AB B.length cb, .slice AP P.length cp, .int .i64 f] 25)
  have g := Lib.hid g0
  have d3 := hD.ext g0
  have L1 := Lib.hid hlB
  have L2 := Lib.hid hlP
  have N1 := Lib.hid hf
  have N2 := Lib.hid hf'
  clear hD g0 hlB hlP hf hf'
  obtain ⟨my, hm⟩ : ∃ x, (smallD B P 40 && rightD B P) = x := ⟨_, rfl⟩
  have h3 : my = false ∨ (my = true ∧ f = 0) ∨ (my = true ∧ f = 1) ∨ (my = true ∧ f ≠ 0 ∧ f ≠ 1) := by
    cases my
    · exact .inl rfl
    · right; simp only [true_and]; omega
  go_enter Try.func7, Try.ntmps7
  go_upto_region 6 with (go_at_call 10; refine (shown_any _).mono ?_; rintro e w1 ⟨rfl, hb⟩; obtain ⟨-, -, k3, -, -⟩ := box2 hb; replace d3 := d3.ext hb; replace g := Lib.hid (bl_then g.out hb); clear hb)
  have c3 : w1.cell? ⟨w.heap.size + 1, 0, none⟩ = _ ∧ w1.cell? ⟨w.heap.size + 1, 1, none⟩ = _ ∧ w1.cell? ⟨w.heap.size + 1, 2, none⟩ = _ := ⟨k3 0, k3 1, k3 2⟩
  simp only [List.getElem?_toArray, List.getElem?_cons_zero, List.getElem?_cons_succ] at c3
  clear k3
  rcases h3 with rfl | ⟨rfl, rfl⟩ | ⟨rfl, rfl⟩ | ⟨rfl, h3, h4⟩
  · go_wp2_with (go_at_call 22; refine (c_may AB cb AP cp f 40 _ B P d3 L1.out L2.out false hm).mono ?_; rintro e w2 ⟨rfl, hb2⟩; replace c3 := box_ext hb2 c3; replace d3 := d3.ext hb2; replace g := Lib.hid (bl_then g.out hb2); clear hb2)
    go_ret
    exact ⟨rfl, g.out⟩
  · go_wp2_with (go_at_call 22; refine (c_may AB cb AP cp 0 40 _ B P d3 L1.out L2.out true hm).mono ?_; rintro e w2 ⟨rfl, hb2⟩; replace c3 := box_ext hb2 c3; replace d3 := d3.ext hb2; replace g := Lib.hid (bl_then g.out hb2); clear hb2)
    go_ret
    exact ⟨rfl, g.out⟩
  · go_wp2_with (go_at_call 22; refine (c_may AB cb AP cp 1 40 _ B P d3 L1.out L2.out true hm).mono ?_; rintro e w2 ⟨rfl, hb2⟩; replace c3 := box_ext hb2 c3; replace d3 := d3.ext hb2; replace g := Lib.hid (bl_then g.out hb2); clear hb2)
    go_ret
    exact ⟨rfl, g.out⟩
  · obtain ⟨⟨s1, s2⟩, hr⟩ := may_facts hm
    have f0 : (f == 0) = false := by simp [h3]
    have f1 : (f == 1) = false := by simp [h4]
    have hBl : (0 : Int) < B.length := by have := (right_facts hr).1; omega
    have hBn : (B.length : Int) ≠ 0 := by omega
    obtain ⟨I, hI⟩ : ∃ x, at_.tmod B.length = x := ⟨_, rfl⟩
    obtain ⟨J, hJ⟩ : ∃ x, other.tmod B.length = x := ⟨_, rfl⟩
    have hI0 : 0 ≤ I := by rw [← hI]; exact Int.tmod_nonneg _ ha
    have hI1 : I < B.length := by rw [← hI]; exact Int.tmod_lt_of_pos _ hBl
    have hJ0 : 0 ≤ J := by rw [← hJ]; exact Int.tmod_nonneg _ ho
    have hJ1 : J < B.length := by rw [← hJ]; exact Int.tmod_lt_of_pos _ hBl
    have ok := right_okP hr
    obtain ⟨m, hnm⟩ : ∃ m : UInt8, n = (m.toNat : Int) := ⟨UInt8.ofNat n.toNat, by simp; omega⟩
    obtain ⟨bN, hbN⟩ : ∃ x, List.replicate 64 m = x := ⟨_, rfl⟩
    obtain ⟨P1, hP1⟩ : ∃ x, writeP P 0 I bN = x := ⟨_, rfl⟩
    obtain ⟨F1, hF1⟩ : ∃ x, writeF f 0 = x := ⟨_, rfl⟩
    obtain ⟨B2, hB2⟩ : ∃ x, flushB B P1 F1 = x := ⟨_, rfl⟩
    obtain ⟨P2, hP2⟩ : ∃ x, flushP P1 F1 = x := ⟨_, rfl⟩
    have hP1' : P1 = P ++ [(I, bN)] := by rw [← hP1]; rfl
    have hF0 : F1 ≠ 0 := by rw [← hF1]; unfold writeF; rw [if_pos rfl]; split <;> omega
    have hE1 : writeE B f I bN = 0 := by unfold writeE; rw [if_pos ⟨hI0, hI1⟩, if_pos (by rw [← hbN]; simp), if_neg h3]
    have okn : okP B.length P1 := by
      intro k hk
      have : P1[k] ∈ P ++ [(I, bN)] := by rw [← hP1']; exact List.getElem_mem hk
      rcases List.mem_append.1 this with h | h
      · exact ((right_facts hr).2.2 _ h).1
      · rw [List.mem_singleton.1 h]; exact ⟨hI0, hI1⟩
    have hR1 : readE B F1 I = 0 := by unfold readE; rw [if_pos ⟨hI0, hI1⟩, if_neg hF0]
    have hR2 : readE B F1 J = 0 := by unfold readE; rw [if_pos ⟨hJ0, hJ1⟩, if_neg hF0]
    have hR3 : readE B f J = 0 := by unfold readE; rw [if_pos ⟨hJ0, hJ1⟩, if_neg h3]
    have hR4 : readE B2 F1 J = 0 := by unfold readE; rw [← hB2, flushB_len, if_pos ⟨hJ0, hJ1⟩, if_neg hF0]
    have hV1 : readB B P1 F1 I = bN := by unfold readB; rw [if_pos hR1, hP1', readTo_last, if_pos rfl]
    obtain ⟨vb, hV2⟩ : ∃ x, readB B P1 F1 J = x := ⟨_, rfl⟩
    obtain ⟨vc, hV3⟩ : ∃ x, readB B P f J = x := ⟨_, rfl⟩
    have hvb : vb = if I = J then bN else readTo B P J P.length := by rw [← hV2]; unfold readB; rw [if_pos hR2, hP1', readTo_last]
    have hvc : vc = readTo B P J P.length := by rw [← hV3]; unfold readB; rw [if_pos hR3]
    have hV4 : readB B2 P2 F1 J = vb := by
      unfold readB
      rw [if_pos hR4, ← hP2, show flushP P1 F1 = [] from if_neg hF0, show ([] : List PutD).length = 0 from rfl, readTo, ← hB2, show flushB B P1 F1 = layTo B P1 (fun _ => true) P1.length from if_neg hF0, layTo_read hJ0 hJ1 okn _ (Nat.le_refl _), ← hV2]
      unfold readB; rw [if_pos hR2]
    have hE4 : flushE F1 = 0 := if_neg hF0
    have b1 := Lib.hid (show B.length ≤ 4096 by omega)
    have b0 := Lib.hid (show 0 < B.length from (right_facts hr).1)
    have p1 := Lib.hid (show P.length ≤ 1000000 by omega)
    have p2 := Lib.hid (show P1.length ≤ 1000000 by rw [hP1']; simp; omega)
    have b2 := Lib.hid (show B2.length ≤ 4096 by rw [← hB2, flushB_len]; omega)
    have p3 := Lib.hid (show P2.length ≤ 1000000 by have := @flushP_len P1 F1; rw [hP2] at this; have := p2.out; omega)
    have q1 := Lib.hid (show (bN == bN) = true by simp)
    have q2 := Lib.hid (show (vb == vb) = true by simp)
    have q3 : Hid (I ≠ J → (vb == vc) = true) := by show _ → _; intro h; rw [hvb, hvc, if_neg h]; simp
    replace hnm := Lib.hid hnm
    replace hbN := Lib.hid hbN
    replace hP1 := Lib.hid hP1
    replace hF1 := Lib.hid hF1
    replace hB2 := Lib.hid hB2
    replace hP2 := Lib.hid hP2
    replace hE1 := Lib.hid hE1
    replace okn := Lib.hid okn
    replace hR1 := Lib.hid hR1
    replace hR2 := Lib.hid hR2
    replace hR3 := Lib.hid hR3
    replace hR4 := Lib.hid hR4
    replace hV1 := Lib.hid hV1
    replace hV2 := Lib.hid hV2
    replace hV3 := Lib.hid hV3
    replace hV4 := Lib.hid hV4
    replace hE4 := Lib.hid hE4
    clear hP1' hF0 hvb hvc ok s1 s2
    go_upto_region 8 with (go_at_call 22; refine (c_may AB cb AP cp f 40 _ B P d3 L1.out L2.out true hm).mono ?_; rintro e w2 ⟨rfl, hb2⟩; replace c3 := box_ext hb2 c3; replace d3 := d3.ext hb2; replace g := Lib.hid (bl_then g.out hb2); clear hb2)
    go_upto_region 10 with fail
    clear hm hr f0 f1 h3 h4 hBl hBn hI hJ hI0 hI1 hJ0 hJ1 ha ha' hn hn' ho ho'
    have hsb : (w.heap.size + 1) < w2.heap.size := blk_lt c3.1
    go_upto_region 10 with fail
    go_cut [10, 11] (fun sx se wx => ∃ bn ABn cbn APn cpn, sx = .pointer (some ⟨bn, 0, none⟩) ∧ se = .int .i64 0 ∧ w2.heap.size ≤ bn ∧ (wx.cell? ⟨bn, 0, none⟩ = some (.slice ABn B.length cbn) ∧ wx.cell? ⟨bn, 1, none⟩ = some (.slice APn P1.length cpn) ∧ wx.cell? ⟨bn, 2, none⟩ = some (.int .i64 F1)) ∧ OkD wx ABn APn cpn B P1 ∧ Below w2.heap.size w2 wx)
    case first =>
      go_region_held3 (fun W' => W'.cell? ⟨(w.heap.size + 1), 0, none⟩ = some (.slice AB B.length cb) ∧ W'.cell? ⟨(w.heap.size + 1), 1, none⟩ = some (.slice AP P.length cp) ∧ W'.cell? ⟨(w.heap.size + 1), 2, none⟩ = some (.int .i64 f))
        (with_reducible (first | exact box_ext (bl_drew (Below.refl _ _)) c3 | exact box_ext (bl_drew (bl_alloc (Below.refl _ w2) _)) c3 | (refine box_ext hbc ?_; assumption) | (refine box_ext hbb ?_; assumption) | (refine box_ext (bl_alloc (Below.refl _ _) _) ?_; assumption) | (refine box_swap (o := .cells #[.slice none 0 0, .slice none 0 0, .int .i64 0] 25) hbc' ?_; assumption) | (refine box_set3 (b' := wb.heap.size) hnb ?_; assumption) | (refine box_set3 (b' := w2.heap.size) (Nat.ne_of_lt hsb) ?_; assumption)))
        (first
          | (go_at_call 31; refine (c_block n m hnm.out _ bN hbN.out).mono ?_; rintro e wb ⟨⟨Ab, ccb, rfl, hbk⟩, hbb⟩; have hsw : w2.heap.size ≤ wb.heap.size := (by have := hbb.size; (try simp at this); omega); have hnb : (w.heap.size + 1) ≠ wb.heap.size := (by omega); have hbW : Below w2.heap.size w2 wb := (by with_reducible (first | exact bl_then (bl_drew (Below.refl _ w2)) hbb | exact bl_then (bl_drew (bl_alloc (Below.refl _ w2) _)) hbb)); (try (have hq := (by with_reducible exact box1d hbb); obtain ⟨ca, fa, la⟩ := hq)))
          | (go_at_call 23; refine (c_writeS w2.heap.size AB cb AP cp f I Ab ccb bN _ B P ?_ p1.out ?_ N1.out N2.out 0 P1 F1 hE1.out hP1.out hF1.out).mono ?_; (with_reducible (first | exact okS_of d3 hbW | exact okS_of d3 (bl_alloc hbW _))); (with_reducible (first | exact hbk | exact hbk.ext (bl_alloc (Below.refl _ _) _))); rintro e wc ⟨⟨ABn, cbn, APn, cpn, rfl, hdn⟩, hbc⟩; have hbc' : (w.heap.size + 1) < wc.heap.size := (by have := hbc.size; (try simp at this); omega); (first | (have hq := (by with_reducible exact box1 hbc); obtain ⟨can, fan, lan⟩ := hq) | (have can := fun o => (hbc.cell (p := ⟨w2.heap.size, o, none⟩) la).trans (ca o); have fan := fun o => (hbc.frozen (p := ⟨w2.heap.size, o, none⟩) la).trans (fa o)) | skip)))
      all_goals (go_wp2_with fail; go_meet)
      · exact ⟨wc.heap.size, ABn, cbn, APn, cpn, rfl, rfl, by have := hbc.size; omega, box_new (Below.refl _ _), (hdn.okD).ext (bl_alloc (Below.refl _ _) _), bl_alloc (bl_then hbW hbc) _⟩
      · exact ⟨wb.heap.size, ABn, cbn, APn, cpn, rfl, rfl, hsw, set_cell3 wc _ _ _ _ ⟨can 0, can 1, can 2⟩, hdn.set3 hsw (by simp) _ _ _, bl_set (bl_set (bl_set (bl_then (bl_alloc hbW _) hbc) hsw _) hsw _) hsw _⟩
      · exact ⟨w2.heap.size, ABn, cbn, APn, cpn, rfl, rfl, Nat.le_refl _, set_cell3 wc _ _ _ _ ⟨can 0, can 1, can 2⟩, hdn.set3 (Nat.le_refl _) la _ _ _, bl_set (bl_set (bl_set (bl_then hbW hbc) (Nat.le_refl _) _) (Nat.le_refl _) _) (Nat.le_refl _) _⟩
    case rest =>
    obtain ⟨bn, AB10, cb10, AP10, cp10, rfl, rfl, -, c10, d10, gw⟩ := hcut
    replace c3 := box_ext gw c3
    replace d3 := d3.ext gw
    replace g := Lib.hid (bl_then g.out gw)
    clear gw
    go_upto_region 12 with (go_at_call 19; refine (c_read AB10 cb10 AP10 cp10 F1 I _ B P1 d10 b1.out p2.out 0 bN hR1.out hV1.out).mono ?_; rintro e w11 ⟨⟨A12, cc12, rfl, r12⟩, hb11⟩; replace c3 := box_ext hb11 c3; replace c10 := box_ext hb11 c10; replace d3 := d3.ext hb11; replace d10 := d10.ext hb11; replace g := Lib.hid (bl_then g.out hb11); clear hb11)
    go_upto_region 13 with (go_at_call 19; refine (c_read AB10 cb10 AP10 cp10 F1 J _ B P1 d10 b1.out p2.out 0 vb hR2.out hV2.out).mono ?_; rintro e w12 ⟨⟨A14, cc14, rfl, r14⟩, hb12⟩; replace c3 := box_ext hb12 c3; replace c10 := box_ext hb12 c10; replace d3 := d3.ext hb12; replace d10 := d10.ext hb12; replace r12 := r12.ext hb12; replace g := Lib.hid (bl_then g.out hb12); clear hb12)
    go_upto_region 14 with (go_at_call 19; refine (c_read AB cb AP cp f J _ B P d3 b1.out p1.out 0 vc hR3.out hV3.out).mono ?_; rintro e w13 ⟨⟨A16, cc16, rfl, r16⟩, hb13⟩; replace c10 := box_ext hb13 c10; replace d10 := d10.ext hb13; replace r12 := r12.ext hb13; replace r14 := r14.ext hb13; replace g := Lib.hid (bl_then g.out hb13); clear hb13)
    go_upto_region 15 with (go_at_call 25; refine (c_flush AB10 cb10 AP10 cp10 F1 _ B P1 d10 b1.out b0.out p2.out okn.out 0 B2 P2 hE4.out hB2.out hP2.out).mono ?_; rintro e w18 ⟨⟨AB18, cb18, AP18, cp18, rfl, d18⟩, hb18⟩; replace r12 := r12.ext hb18; replace r14 := r14.ext hb18; replace r16 := r16.ext hb18; replace g := Lib.hid (bl_then g.out hb18); clear hb18)
    have ha := bl_alloc (Below.refl _ w18) (.cells #[.slice AB18 B2.length cb18, .slice AP18 P2.length cp18, .int .i64 F1] 25)
    have c18 := box_new (Below.refl _ (w18.alloc (.cells #[.slice AB18 B2.length cb18, .slice AP18 P2.length cp18, .int .i64 F1] 25)))
    replace r12 := r12.ext ha
    replace r14 := r14.ext ha
    replace r16 := r16.ext ha
    replace d18 := d18.ext ha
    replace g := Lib.hid (bl_then g.out ha)
    clear ha
    go_upto_region 16 with (go_at_call 19; refine (c_read AB18 cb18 AP18 cp18 F1 J _ B2 P2 d18 b2.out p3.out 0 vb hR4.out hV4.out).mono ?_; rintro e w19 ⟨⟨A20, cc20, rfl, r20⟩, hb19⟩; replace r12 := r12.ext hb19; replace r14 := r14.ext hb19; replace r16 := r16.ext hb19; replace g := Lib.hid (bl_then g.out hb19); clear hb19)
    by_cases hij : J = I
    · have hk : (J == I) = true := by simp [hij]
      clear hij
      go_wp2_with (first
        | (go_at_call 31; refine (c_block n m hnm.out _ bN hbN.out).mono ?_; rintro e w20 ⟨⟨Ab, ccb, rfl, rbb⟩, hb20⟩; replace r12 := r12.ext hb20; replace r14 := r14.ext hb20; replace r16 := r16.ext hb20; replace r20 := r20.ext hb20; replace g := Lib.hid (bl_then g.out hb20); clear hb20)
        | (go_at_call_of 21 (Value.slice A12 bN.length cc12); refine (c_same A12 cc12 bN Ab ccb bN _ r12 rbb true q1.out).mono ?_; rintro e w20 ⟨rfl, hb20⟩; replace r14 := r14.ext hb20; replace r16 := r16.ext hb20; replace r20 := r20.ext hb20; replace g := Lib.hid (bl_then g.out hb20); clear hb20)
        | (go_at_call_of 21 (Value.slice A20 vb.length cc20); refine (c_same A20 cc20 vb A14 cc14 vb _ r20 r14 true q2.out).mono ?_; rintro e w20 ⟨rfl, hb20⟩; replace g := Lib.hid (bl_then g.out hb20); clear hb20)
        | (go_at_call_of 21 (Value.slice A14 vb.length cc14); refine (c_same A14 cc14 vb A16 cc16 vc _ r14 r16 true q4.out).mono ?_; rintro e w20 ⟨rfl, hb20⟩; replace r14 := r14.ext hb20; replace r20 := r20.ext hb20; replace g := Lib.hid (bl_then g.out hb20); clear hb20) | fail)
      go_ret
      exact ⟨ret_bool (by simp), g.out⟩
    · have hk : (J == I) = false := by simp [hij]
      have q4 := Lib.hid (q3.out (fun h => hij h.symm))
      clear hij
      go_wp2_with (first
        | (go_at_call 31; refine (c_block n m hnm.out _ bN hbN.out).mono ?_; rintro e w20 ⟨⟨Ab, ccb, rfl, rbb⟩, hb20⟩; replace r12 := r12.ext hb20; replace r14 := r14.ext hb20; replace r16 := r16.ext hb20; replace r20 := r20.ext hb20; replace g := Lib.hid (bl_then g.out hb20); clear hb20)
        | (go_at_call_of 21 (Value.slice A12 bN.length cc12); refine (c_same A12 cc12 bN Ab ccb bN _ r12 rbb true q1.out).mono ?_; rintro e w20 ⟨rfl, hb20⟩; replace r14 := r14.ext hb20; replace r16 := r16.ext hb20; replace r20 := r20.ext hb20; replace g := Lib.hid (bl_then g.out hb20); clear hb20)
        | (go_at_call_of 21 (Value.slice A20 vb.length cc20); refine (c_same A20 cc20 vb A14 cc14 vb _ r20 r14 true q2.out).mono ?_; rintro e w20 ⟨rfl, hb20⟩; replace g := Lib.hid (bl_then g.out hb20); clear hb20)
        | (go_at_call_of 21 (Value.slice A14 vb.length cc14); refine (c_same A14 cc14 vb A16 cc16 vc _ r14 r16 true q4.out).mono ?_; rintro e w20 ⟨rfl, hb20⟩; replace r14 := r14.ext hb20; replace r20 := r20.ext hb20; replace g := Lib.hid (bl_then g.out hb20); clear hb20) | fail)
      go_ret
      exact ⟨ret_bool (by simp), g.out⟩
end Go.Proofs.Ytkfalgdhpojejaa
