import Derived.Test.YtkfalgdhpojejaaYF
namespace Go.Proofs.Ytkfalgdhpojejaa
open Go.RowKit

theorem layTo_none {B : List (List UInt8)} {P : List PutD} : ∀ k, layTo B P (keepF []) k = B
  | 0 => rfl
  | k + 1 => by rw [layTo, if_neg (by simp [keepF]), layTo_none k]
theorem u8_wrap {z : Int} (h : 0 ≤ z) (h' : z < 256) : IntKind.u8.wrap z = z := IntWalk.u8_in _ (by omega)

set_option maxRecDepth 20000 in
set_option maxHeartbeats 4000000 in
theorem fuses_any (AB : Option Addr) (cb : Nat) (AP : Option Addr) (cp : Nat) (f n more : Int) (w : World) (B : List (List UInt8)) (P : List PutD)
    (hD : OkD w AB AP cp B P) (hlB : B.length ≤ 140737488351232) (hlP : P.length ≤ 140737488351232) (hn : 0 ≤ n) (hn' : n ≤ 255) (ho : 0 ≤ more) (ho' : more ≤ 255) :
    Calls Try.prog 6 #[.agg #[.slice AB B.length cb, .slice AP P.length cp, .int .i64 f], .int .u8 n, .int .u8 more] w fun e w' => e = .returned (.bool true) ∧ Below w.heap.size w w' := by
  have g0 := bl_alloc (Below.refl _ w) (.cells #[.slice AB B.length cb, .slice AP P.length cp, .int .i64 f] 25)
  have g := Lib.hid g0
  have d3 := hD.ext g0
  have L1 := Lib.hid hlB
  have L2 := Lib.hid hlP
  clear hD g0 hlB hlP
  obtain ⟨my, hm⟩ : ∃ x, (smallD B P 40 && rightD B P) = x := ⟨_, rfl⟩
  obtain ⟨k, hk⟩ : ∃ x, n.tmod 20 = x := ⟨_, rfl⟩
  obtain ⟨m5, hm5⟩ : ∃ x, more.tmod 5 = x := ⟨_, rfl⟩
  have hk0 : 0 ≤ k := by rw [← hk]; exact Int.tmod_nonneg _ hn
  have hk1 : k < 20 := by rw [← hk]; exact Int.tmod_lt_of_pos _ (by omega)
  have hm0 : 0 ≤ m5 := by rw [← hm5]; exact Int.tmod_nonneg _ ho
  have hm1 : m5 < 5 := by rw [← hm5]; exact Int.tmod_lt_of_pos _ (by omega)
  go_enter Try.func6, Try.ntmps6
  go_upto_region 2 with (go_at_call 10; refine (shown_any _).mono ?_; rintro e w1 ⟨rfl, hb⟩; obtain ⟨k3, -, -⟩ := box1 hb; replace d3 := d3.ext hb; replace g := Lib.hid (bl_then g.out hb); clear hb)
  have c3 : w1.cell? ⟨w.heap.size, 0, none⟩ = _ ∧ w1.cell? ⟨w.heap.size, 1, none⟩ = _ ∧ w1.cell? ⟨w.heap.size, 2, none⟩ = _ := ⟨k3 0, k3 1, k3 2⟩
  simp only [List.getElem?_toArray, List.getElem?_cons_zero, List.getElem?_cons_succ] at c3
  clear k3
  cases my
  · go_wp2_with (go_at_call 22; refine (c_may AB cb AP cp f 40 _ B P d3 L1.out L2.out false hm).mono ?_; rintro e w2 ⟨rfl, hb2⟩; replace c3 := box_ext hb2 c3; replace d3 := d3.ext hb2; replace g := Lib.hid (bl_then g.out hb2); clear hb2)
    go_ret
    exact ⟨rfl, g.out⟩
  · obtain ⟨⟨s1, s2⟩, hr⟩ := may_facts hm
    have ok := Lib.hid (right_okP hr)
    have b0 := Lib.hid (show 0 < B.length from (right_facts hr).1)
    have b1 := Lib.hid (show B.length ≤ 4096 by omega)
    have s2' := Lib.hid s2
    go_upto_region 4 with (go_at_call 22; refine (c_may AB cb AP cp f 40 _ B P d3 L1.out L2.out true hm).mono ?_; rintro e w2 ⟨rfl, hb2⟩; replace c3 := box_ext hb2 c3; replace d3 := d3.ext hb2; replace g := Lib.hid (bl_then g.out hb2); clear hb2)
    clear hm hr s1 s2
    have hF : max k (-1) = k := by omega
    go_upto_region 6 with (go_at_call 29; refine (c_arm AB B.length cb AP P.length cp f k _ k hF).mono ?_; rintro e w9 ⟨rfl, hb9⟩; replace c3 := box_ext hb9 c3; replace d3 := d3.ext hb9; replace g := Lib.hid (bl_then g.out hb9); clear hb9)
    have hne := Lib.hid (blk_lt c3.1)
    have dF0 := (OkD.okF d3).mono (ψ := fun b => b ≠ w9.heap.size) (fun b hb => Nat.ne_of_lt hb)
    have dF := Lib.hid (dF0.ext (bl_alloc (Below.refl _ w9) (.cells #[.slice AB B.length cb, .slice AP P.length cp, .int .i64 k] 25)))
    clear dF0
    have sx0 := Lib.hid (show w9.heap.size < (w9.alloc (.cells #[.slice AB B.length cb, .slice AP P.length cp, .int .i64 k] 25)).heap.size by simp)
    have fz0 := (box1 (Below.refl _ (w9.alloc (.cells #[.slice AB B.length cb, .slice AP P.length cp, .int .i64 k] 25)))).2.1
    have ha := bl_alloc (Below.refl _ w9) (.cells #[.slice AB B.length cb, .slice AP P.length cp, .int .i64 k] 25)
    have cx := box_new (Below.refl _ (w9.alloc (.cells #[.slice AB B.length cb, .slice AP P.length cp, .int .i64 k] 25)))
    replace c3 := box_ext ha c3
    replace d3 := d3.ext ha
    replace g := Lib.hid (bl_then g.out ha)
    clear ha
    go_upto_region 7 with fail
    go_loopw [10, 11, 12] (fun i _ _ wr => ∃ j : Nat, (j : Int) ≤ k + m5 ∧ i = .int .i64 j ∧ ∃ ABx cbx APx cpx Px Fx, (wr.cell? ⟨w9.heap.size, 0, none⟩ = some (.slice ABx B.length cbx) ∧ wr.cell? ⟨w9.heap.size, 1, none⟩ = some (.slice APx Px.length cpx) ∧ wr.cell? ⟨w9.heap.size, 2, none⟩ = some (.int .i64 Fx)) ∧ Hid (OkF (fun b => b ≠ w9.heap.size) wr ABx APx cpx B Px) ∧ Hid (Fx = max (k - j) 0) ∧ Hid (okP B.length Px ∧ Px.length ≤ 40 + j) ∧ (wr.cell? ⟨w.heap.size, 0, none⟩ = some (.slice AB B.length cb) ∧ wr.cell? ⟨w.heap.size, 1, none⟩ = some (.slice AP P.length cp) ∧ wr.cell? ⟨w.heap.size, 2, none⟩ = some (.int .i64 f)) ∧ Hid (OkF (fun b => b ≠ w9.heap.size) wr AB AP cp B P) ∧ (∀ o, wr.frozen? ⟨w9.heap.size, o, none⟩ = false) ∧ Hid (w9.heap.size < wr.heap.size) ∧ Hid (Below w.heap.size w wr)) (fun i _ _ _ => 30 - (intOf i).toNat)
    case atStart => exact ⟨0, by omega, rfl, AB, cb, AP, cp, P, k, cx, dF, (by show _ = _; omega), ⟨ok.out, by have := s2'.out; omega⟩, c3, dF, fz0, sx0, g⟩
    case round =>
      clear g dF c3 cx d3 fz0 sx0
      obtain ⟨j, hj, rfl, ABx, cbx, APx, cpx, Px, Fx, bxc, ox, hFx, hPx, c3, dF, fz, hsz, g⟩ := hrel
      have hj0 : (0 : Int) ≤ (j : Int) := Int.natCast_nonneg _
      have hj9 : (j : Int) < 256 := by omega
      have p1 := Lib.hid (show Px.length ≤ 1000000 by have := hPx.out.2; omega)
      have okx := Lib.hid hPx.out.1
      by_cases hlt : (j : Int) < k + m5
      · obtain ⟨m8, hm8⟩ : ∃ m8 : UInt8, (j : Int) = (m8.toNat : Int) := ⟨UInt8.ofNat j, by simp; omega⟩
        obtain ⟨bN, hbN⟩ : ∃ x, List.replicate 64 m8 = x := ⟨_, rfl⟩
        have hbl : Hid (bN.length = 64) := by show _ = _; rw [← hbN]; simp
        replace hm8 := Lib.hid hm8
        replace hbN := Lib.hid hbN
        have hin := Lib.hid (show (0 : Int) ≤ 0 ∧ (0 : Int) < B.length by have := b0.out; omega)
        have h3 : ((j : Int) < k ∧ (j : Int) < k - 1) ∨ ((j : Int) < k ∧ k - 1 ≤ (j : Int)) ∨ (k ≤ (j : Int) ∧ k - 1 ≤ (j : Int)) := by omega
        rcases h3 with ⟨h1, h2⟩ | ⟨h1, h2⟩ | ⟨h1, h2⟩
        · obtain ⟨P1, hP1⟩ : ∃ x, writeP Px 0 0 bN = x := ⟨_, rfl⟩
          obtain ⟨F1, hF1⟩ : ∃ x, writeF Fx 0 = x := ⟨_, rfl⟩
          have hFv : F1 = k - j - 1 := by have := hFx.out; rw [← hF1]; unfold writeF; rw [if_pos rfl, if_pos (by omega)]; omega
          have hE1 := Lib.hid (show writeE B Fx 0 bN = 0 by have := hFx.out; unfold writeE; rw [if_pos hin.out, if_pos hbl.out, if_neg (by omega)])
          have hPv : P1 = Px ++ [(0, bN)] := by rw [← hP1]; rfl
          have hO := Lib.hid (show (F1 == 0) = false by rw [hFv]; simp; omega)
          have hFn := Lib.hid (show F1 = max (k - ((j + 1 : Nat) : Int)) 0 by rw [hFv]; omega)
          have hPn : Hid (okP B.length P1 ∧ P1.length ≤ 40 + (j + 1)) := by
            refine ⟨fun q hq => ?_, by rw [hPv]; have := hPx.out.2; simp; omega⟩
            have : P1[q] ∈ Px ++ [(0, bN)] := by rw [← hPv]; exact List.getElem_mem hq
            rcases List.mem_append.1 this with h | h
            · obtain ⟨q', hq', e⟩ := List.getElem_of_mem h
              rw [← e]; exact okx.out q' hq'
            · rw [List.mem_singleton.1 h]; exact hin.out
          have hsz' := hsz.out
          have hw8 := u8_wrap hj0 hj9
          have hr1 : -9223372036854775808 ≤ Fx := by have := hFx.out; omega
          have hr2 : Fx ≤ 9223372036854775807 := by have := hFx.out; omega
          replace hr1 := Lib.hid hr1
          replace hr2 := Lib.hid hr2
          replace hP1 := Lib.hid hP1
          replace hF1 := Lib.hid hF1
          clear hFv hPv
          go_upto_region 9 with fail
          go_cut [11, 12] from 31 to 71 (fun sx se wx => ∃ bn ABn cbn APn cpn, sx = .pointer (some ⟨bn, 0, none⟩) ∧ se = .int .i64 0 ∧ wr.heap.size ≤ bn ∧ (wx.cell? ⟨bn, 0, none⟩ = some (.slice ABn B.length cbn) ∧ wx.cell? ⟨bn, 1, none⟩ = some (.slice APn P1.length cpn) ∧ wx.cell? ⟨bn, 2, none⟩ = some (.int .i64 F1)) ∧ OkF (fun b => b ≠ w9.heap.size) wx ABn APn cpn B P1 ∧ Below wr.heap.size wr wx)
          case first =>
            go_region_held3 (fun W' => W'.cell? ⟨w9.heap.size, 0, none⟩ = some (.slice ABx B.length cbx) ∧ W'.cell? ⟨w9.heap.size, 1, none⟩ = some (.slice APx Px.length cpx) ∧ W'.cell? ⟨w9.heap.size, 2, none⟩ = some (.int .i64 Fx))
              (with_reducible (first | exact box_ext (bl_drew (Below.refl _ _)) bxc | exact box_ext (bl_drew (bl_alloc (Below.refl _ wr) _)) bxc | (refine box_ext hbc ?_; assumption) | (refine box_ext hbb ?_; assumption) | (refine box_ext (bl_alloc (Below.refl _ _) _) ?_; assumption) | (refine box_swap (o := .cells #[.slice none 0 0, .slice none 0 0, .int .i64 0] 25) hbc' ?_; assumption) | (refine box_set3 (b' := wb.heap.size) hnb ?_; assumption) | (refine box_set3 (b' := wr.heap.size) (Nat.ne_of_lt hsz.out) ?_; assumption)))
              (first
                | (go_at_call 31; refine (c_block j m8 hm8.out _ bN hbN.out).mono ?_; rintro e wb ⟨⟨Ab, ccb, rfl, hbk⟩, hbb⟩; have hsw : wr.heap.size ≤ wb.heap.size := (by have := hbb.size; (try simp at this); omega); have hnb : w9.heap.size ≠ wb.heap.size := (by omega); have hbW : Below wr.heap.size wr wb := (by with_reducible (first | exact bl_then (bl_drew (Below.refl _ wr)) hbb | exact bl_then (bl_drew (bl_alloc (Below.refl _ wr) _)) hbb)); (try (have hq := (by with_reducible exact box1d hbb); obtain ⟨ca, fa, la⟩ := hq)))
                | (go_at_call 23; refine (c_writeF (fun b => b ≠ w9.heap.size ∧ b < wr.heap.size) ABx cbx APx cpx Fx 0 Ab ccb bN _ B Px ?_ p1.out ?_ hr1.out hr2.out 0 P1 F1 hE1.out hP1.out hF1.out).mono ?_; (with_reducible (first | exact okF_of ox.out hbW | exact okF_of ox.out (bl_alloc hbW _))); (with_reducible (first | exact hbk | exact hbk.ext (bl_alloc (Below.refl _ _) _))); rintro e wc ⟨⟨ABn, cbn, APn, cpn, rfl, hdn⟩, hbc⟩; have hbc' : w9.heap.size < wc.heap.size := (by have := hbc.size; (try simp at this); omega); (first | (have hq := (by with_reducible exact box1 hbc); obtain ⟨can, fan, lan⟩ := hq) | (have can := fun o => (hbc.cell (p := ⟨wr.heap.size, o, none⟩) la).trans (ca o); have fan := fun o => (hbc.frozen (p := ⟨wr.heap.size, o, none⟩) la).trans (fa o)) | skip))
                | fail)
            all_goals (go_wp2_with fail; go_meet)
            · exact ⟨wc.heap.size, ABn, cbn, APn, cpn, rfl, rfl, by have := hbc.size; omega, box_new (Below.refl _ _), (hdn.mono (fun b hb => by rcases hb with hb | hb <;> omega)).ext (bl_alloc (Below.refl _ _) _), bl_alloc (bl_then hbW hbc) _⟩
            · exact ⟨wb.heap.size, ABn, cbn, APn, cpn, rfl, rfl, hsw, set_cell3 wc _ _ _ _ ⟨can 0, can 1, can 2⟩, (hdn.set3 (by simp; omega) _ _ _).mono (fun b hb => by rcases hb with hb | hb; exact hb.1; simp at hb; omega), bl_set (bl_set (bl_set (bl_then (bl_alloc hbW _) hbc) hsw _) hsw _) hsw _⟩
            · exact ⟨wr.heap.size, ABn, cbn, APn, cpn, rfl, rfl, Nat.le_refl _, set_cell3 wc _ _ _ _ ⟨can 0, can 1, can 2⟩, (hdn.set3 (by omega) _ _ _).mono (fun b hb => by rcases hb with hb | hb <;> omega), bl_set (bl_set (bl_set (bl_then hbW hbc) (Nat.le_refl _) _) (Nat.le_refl _) _) (Nat.le_refl _) _⟩
          case rest =>
            obtain ⟨bn, ABn, cbn, APn, cpn, rfl, rfl, hbn, cn, dn, gw⟩ := hcut
            replace c3 := box_ext gw c3
            replace bxc := box_ext gw bxc
            replace dF := Lib.hid (dF.out.ext gw)
            have fz' : ∀ o, wc.frozen? ⟨w9.heap.size, o, none⟩ = false := fun o => (gw.frozen (p := ⟨w9.heap.size, o, none⟩) hsz.out).trans (fz o)
            replace hsz := Lib.hid (Nat.lt_of_lt_of_le hsz.out gw.size)
            replace g := Lib.hid (bl_then g.out gw)
            clear gw fz
            go_wp2_with (go_at_call 17; refine (c_off ABn B.length cbn APn P1.length cpn F1 _ false hO.out).mono ?_; rintro e wd ⟨rfl, hbd⟩; replace c3 := box_ext hbd c3; replace bxc := box_ext hbd bxc; replace cn := box_ext hbd cn; replace dn := dn.ext hbd; replace dF := Lib.hid (dF.out.ext hbd); replace fz' := fun o => (hbd.frozen (p := ⟨w9.heap.size, o, none⟩) hsz.out).trans (fz' o); replace hsz := Lib.hid (Nat.lt_of_lt_of_le hsz.out hbd.size); replace g := Lib.hid (bl_then g.out hbd); clear hbd)
            go_roundw
            case rel =>
              have hne' : w.heap.size ≠ w9.heap.size := Nat.ne_of_lt hne.out
              have hle : w.heap.size ≤ w9.heap.size := Nat.le_of_lt hne.out
              exact ⟨j + 1, by omega, by go_num, ABn, cbn, APn, cpn, P1, F1, set_cell3 _ _ _ _ _ bxc, dn.set3 (fun h => h rfl) _ _ _, hFn.out, hPn.out, box_set3 hne' c3, dF.out.set3 (fun h => h rfl) _ _ _, by intro o; simp [World.frozen?_setCell, fz' o], by have := hsz.out; simp; omega, bl_set (bl_set (bl_set g.out hle _) hle _) hle _⟩
            case measure => simp [intOf]; omega

        · obtain ⟨P1, hP1⟩ : ∃ x, writeP Px 0 0 bN = x := ⟨_, rfl⟩
          obtain ⟨F1, hF1⟩ : ∃ x, writeF Fx 0 = x := ⟨_, rfl⟩
          have hFv : F1 = k - j - 1 := by have := hFx.out; rw [← hF1]; unfold writeF; rw [if_pos rfl, if_pos (by omega)]; omega
          have hE1 := Lib.hid (show writeE B Fx 0 bN = 0 by have := hFx.out; unfold writeE; rw [if_pos hin.out, if_pos hbl.out, if_neg (by omega)])
          have hPv : P1 = Px ++ [(0, bN)] := by rw [← hP1]; rfl
          have hO := Lib.hid (show (F1 == 0) = true by rw [hFv]; simp; omega)
          have hFn := Lib.hid (show F1 = max (k - ((j + 1 : Nat) : Int)) 0 by rw [hFv]; omega)
          have hPn : Hid (okP B.length P1 ∧ P1.length ≤ 40 + (j + 1)) := by
            refine ⟨fun q hq => ?_, by rw [hPv]; have := hPx.out.2; simp; omega⟩
            have : P1[q] ∈ Px ++ [(0, bN)] := by rw [← hPv]; exact List.getElem_mem hq
            rcases List.mem_append.1 this with h | h
            · obtain ⟨q', hq', e⟩ := List.getElem_of_mem h
              rw [← e]; exact okx.out q' hq'
            · rw [List.mem_singleton.1 h]; exact hin.out
          have hsz' := hsz.out
          have hw8 := u8_wrap hj0 hj9
          have hr1 : -9223372036854775808 ≤ Fx := by have := hFx.out; omega
          have hr2 : Fx ≤ 9223372036854775807 := by have := hFx.out; omega
          replace hr1 := Lib.hid hr1
          replace hr2 := Lib.hid hr2
          replace hP1 := Lib.hid hP1
          replace hF1 := Lib.hid hF1
          clear hFv hPv
          go_upto_region 9 with fail
          go_cut [11, 12] from 31 to 71 (fun sx se wx => ∃ bn ABn cbn APn cpn, sx = .pointer (some ⟨bn, 0, none⟩) ∧ se = .int .i64 0 ∧ wr.heap.size ≤ bn ∧ (wx.cell? ⟨bn, 0, none⟩ = some (.slice ABn B.length cbn) ∧ wx.cell? ⟨bn, 1, none⟩ = some (.slice APn P1.length cpn) ∧ wx.cell? ⟨bn, 2, none⟩ = some (.int .i64 F1)) ∧ OkF (fun b => b ≠ w9.heap.size) wx ABn APn cpn B P1 ∧ Below wr.heap.size wr wx)
          case first =>
            go_region_held3 (fun W' => W'.cell? ⟨w9.heap.size, 0, none⟩ = some (.slice ABx B.length cbx) ∧ W'.cell? ⟨w9.heap.size, 1, none⟩ = some (.slice APx Px.length cpx) ∧ W'.cell? ⟨w9.heap.size, 2, none⟩ = some (.int .i64 Fx))
              (with_reducible (first | exact box_ext (bl_drew (Below.refl _ _)) bxc | exact box_ext (bl_drew (bl_alloc (Below.refl _ wr) _)) bxc | (refine box_ext hbc ?_; assumption) | (refine box_ext hbb ?_; assumption) | (refine box_ext (bl_alloc (Below.refl _ _) _) ?_; assumption) | (refine box_swap (o := .cells #[.slice none 0 0, .slice none 0 0, .int .i64 0] 25) hbc' ?_; assumption) | (refine box_set3 (b' := wb.heap.size) hnb ?_; assumption) | (refine box_set3 (b' := wr.heap.size) (Nat.ne_of_lt hsz.out) ?_; assumption)))
              (first
                | (go_at_call 31; refine (c_block j m8 hm8.out _ bN hbN.out).mono ?_; rintro e wb ⟨⟨Ab, ccb, rfl, hbk⟩, hbb⟩; have hsw : wr.heap.size ≤ wb.heap.size := (by have := hbb.size; (try simp at this); omega); have hnb : w9.heap.size ≠ wb.heap.size := (by omega); have hbW : Below wr.heap.size wr wb := (by with_reducible (first | exact bl_then (bl_drew (Below.refl _ wr)) hbb | exact bl_then (bl_drew (bl_alloc (Below.refl _ wr) _)) hbb)); (try (have hq := (by with_reducible exact box1d hbb); obtain ⟨ca, fa, la⟩ := hq)))
                | (go_at_call 23; refine (c_writeF (fun b => b ≠ w9.heap.size ∧ b < wr.heap.size) ABx cbx APx cpx Fx 0 Ab ccb bN _ B Px ?_ p1.out ?_ hr1.out hr2.out 0 P1 F1 hE1.out hP1.out hF1.out).mono ?_; (with_reducible (first | exact okF_of ox.out hbW | exact okF_of ox.out (bl_alloc hbW _))); (with_reducible (first | exact hbk | exact hbk.ext (bl_alloc (Below.refl _ _) _))); rintro e wc ⟨⟨ABn, cbn, APn, cpn, rfl, hdn⟩, hbc⟩; have hbc' : w9.heap.size < wc.heap.size := (by have := hbc.size; (try simp at this); omega); (first | (have hq := (by with_reducible exact box1 hbc); obtain ⟨can, fan, lan⟩ := hq) | (have can := fun o => (hbc.cell (p := ⟨wr.heap.size, o, none⟩) la).trans (ca o); have fan := fun o => (hbc.frozen (p := ⟨wr.heap.size, o, none⟩) la).trans (fa o)) | skip))
                | fail)
            all_goals (go_wp2_with fail; go_meet)
            · exact ⟨wc.heap.size, ABn, cbn, APn, cpn, rfl, rfl, by have := hbc.size; omega, box_new (Below.refl _ _), (hdn.mono (fun b hb => by rcases hb with hb | hb <;> omega)).ext (bl_alloc (Below.refl _ _) _), bl_alloc (bl_then hbW hbc) _⟩
            · exact ⟨wb.heap.size, ABn, cbn, APn, cpn, rfl, rfl, hsw, set_cell3 wc _ _ _ _ ⟨can 0, can 1, can 2⟩, (hdn.set3 (by simp; omega) _ _ _).mono (fun b hb => by rcases hb with hb | hb; exact hb.1; simp at hb; omega), bl_set (bl_set (bl_set (bl_then (bl_alloc hbW _) hbc) hsw _) hsw _) hsw _⟩
            · exact ⟨wr.heap.size, ABn, cbn, APn, cpn, rfl, rfl, Nat.le_refl _, set_cell3 wc _ _ _ _ ⟨can 0, can 1, can 2⟩, (hdn.set3 (by omega) _ _ _).mono (fun b hb => by rcases hb with hb | hb <;> omega), bl_set (bl_set (bl_set (bl_then hbW hbc) (Nat.le_refl _) _) (Nat.le_refl _) _) (Nat.le_refl _) _⟩
          case rest =>
            obtain ⟨bn, ABn, cbn, APn, cpn, rfl, rfl, hbn, cn, dn, gw⟩ := hcut
            replace c3 := box_ext gw c3
            replace bxc := box_ext gw bxc
            replace dF := Lib.hid (dF.out.ext gw)
            have fz' : ∀ o, wc.frozen? ⟨w9.heap.size, o, none⟩ = false := fun o => (gw.frozen (p := ⟨w9.heap.size, o, none⟩) hsz.out).trans (fz o)
            replace hsz := Lib.hid (Nat.lt_of_lt_of_le hsz.out gw.size)
            replace g := Lib.hid (bl_then g.out gw)
            clear gw fz
            go_wp2_with (go_at_call 17; refine (c_off ABn B.length cbn APn P1.length cpn F1 _ true hO.out).mono ?_; rintro e wd ⟨rfl, hbd⟩; replace c3 := box_ext hbd c3; replace bxc := box_ext hbd bxc; replace cn := box_ext hbd cn; replace dn := dn.ext hbd; replace dF := Lib.hid (dF.out.ext hbd); replace fz' := fun o => (hbd.frozen (p := ⟨w9.heap.size, o, none⟩) hsz.out).trans (fz' o); replace hsz := Lib.hid (Nat.lt_of_lt_of_le hsz.out hbd.size); replace g := Lib.hid (bl_then g.out hbd); clear hbd)
            go_roundw
            case rel =>
              have hne' : w.heap.size ≠ w9.heap.size := Nat.ne_of_lt hne.out
              have hle : w.heap.size ≤ w9.heap.size := Nat.le_of_lt hne.out
              exact ⟨j + 1, by omega, by go_num, ABn, cbn, APn, cpn, P1, F1, set_cell3 _ _ _ _ _ bxc, dn.set3 (fun h => h rfl) _ _ _, hFn.out, hPn.out, box_set3 hne' c3, dF.out.set3 (fun h => h rfl) _ _ _, by intro o; simp [World.frozen?_setCell, fz' o], by have := hsz.out; simp; omega, bl_set (bl_set (bl_set g.out hle _) hle _) hle _⟩
            case measure => simp [intOf]; omega

        · obtain ⟨P1, hP1⟩ : ∃ x, writeP Px 13 0 bN = x := ⟨_, rfl⟩
          obtain ⟨F1, hF1⟩ : ∃ x, writeF Fx 13 = x := ⟨_, rfl⟩
          have hFv : F1 = 0 := by have := hFx.out; rw [← hF1]; unfold writeF; rw [if_neg (by omega)]; omega
          have hE1 := Lib.hid (show writeE B Fx 0 bN = 13 by have := hFx.out; unfold writeE; rw [if_pos hin.out, if_pos hbl.out, if_pos (by omega)])
          have hPv : P1 = Px := by rw [← hP1]; rfl
          have hO := Lib.hid (show (F1 == 0) = true by rw [hFv]; rfl)
          have hFn := Lib.hid (show F1 = max (k - ((j + 1 : Nat) : Int)) 0 by rw [hFv]; omega)
          have hPn : Hid (okP B.length P1 ∧ P1.length ≤ 40 + (j + 1)) := by
            show _ ∧ _
            rw [hPv]; exact ⟨okx.out, by have := hPx.out.2; omega⟩
          have hsz' := hsz.out
          have hw8 := u8_wrap hj0 hj9
          have hr1 : -9223372036854775808 ≤ Fx := by have := hFx.out; omega
          have hr2 : Fx ≤ 9223372036854775807 := by have := hFx.out; omega
          replace hr1 := Lib.hid hr1
          replace hr2 := Lib.hid hr2
          replace hP1 := Lib.hid hP1
          replace hF1 := Lib.hid hF1
          clear hFv hPv
          go_upto_region 9 with fail
          go_cut [11, 12] from 31 to 71 (fun sx se wx => ∃ bn ABn cbn APn cpn, sx = .pointer (some ⟨bn, 0, none⟩) ∧ se = .int .i64 13 ∧ wr.heap.size ≤ bn ∧ (wx.cell? ⟨bn, 0, none⟩ = some (.slice ABn B.length cbn) ∧ wx.cell? ⟨bn, 1, none⟩ = some (.slice APn P1.length cpn) ∧ wx.cell? ⟨bn, 2, none⟩ = some (.int .i64 F1)) ∧ OkF (fun b => b ≠ w9.heap.size) wx ABn APn cpn B P1 ∧ Below wr.heap.size wr wx)
          case first =>
            go_region_held3 (fun W' => W'.cell? ⟨w9.heap.size, 0, none⟩ = some (.slice ABx B.length cbx) ∧ W'.cell? ⟨w9.heap.size, 1, none⟩ = some (.slice APx Px.length cpx) ∧ W'.cell? ⟨w9.heap.size, 2, none⟩ = some (.int .i64 Fx))
              (with_reducible (first | exact box_ext (bl_drew (Below.refl _ _)) bxc | exact box_ext (bl_drew (bl_alloc (Below.refl _ wr) _)) bxc | (refine box_ext hbc ?_; assumption) | (refine box_ext hbb ?_; assumption) | (refine box_ext (bl_alloc (Below.refl _ _) _) ?_; assumption) | (refine box_swap (o := .cells #[.slice none 0 0, .slice none 0 0, .int .i64 0] 25) hbc' ?_; assumption) | (refine box_set3 (b' := wb.heap.size) hnb ?_; assumption) | (refine box_set3 (b' := wr.heap.size) (Nat.ne_of_lt hsz.out) ?_; assumption)))
              (first
                | (go_at_call 31; refine (c_block j m8 hm8.out _ bN hbN.out).mono ?_; rintro e wb ⟨⟨Ab, ccb, rfl, hbk⟩, hbb⟩; have hsw : wr.heap.size ≤ wb.heap.size := (by have := hbb.size; (try simp at this); omega); have hnb : w9.heap.size ≠ wb.heap.size := (by omega); have hbW : Below wr.heap.size wr wb := (by with_reducible (first | exact bl_then (bl_drew (Below.refl _ wr)) hbb | exact bl_then (bl_drew (bl_alloc (Below.refl _ wr) _)) hbb)); (try (have hq := (by with_reducible exact box1d hbb); obtain ⟨ca, fa, la⟩ := hq)))
                | (go_at_call 23; refine (c_writeF (fun b => b ≠ w9.heap.size ∧ b < wr.heap.size) ABx cbx APx cpx Fx 0 Ab ccb bN _ B Px ?_ p1.out ?_ hr1.out hr2.out 13 P1 F1 hE1.out hP1.out hF1.out).mono ?_; (with_reducible (first | exact okF_of ox.out hbW | exact okF_of ox.out (bl_alloc hbW _))); (with_reducible (first | exact hbk | exact hbk.ext (bl_alloc (Below.refl _ _) _))); rintro e wc ⟨⟨ABn, cbn, APn, cpn, rfl, hdn⟩, hbc⟩; have hbc' : w9.heap.size < wc.heap.size := (by have := hbc.size; (try simp at this); omega); (first | (have hq := (by with_reducible exact box1 hbc); obtain ⟨can, fan, lan⟩ := hq) | (have can := fun o => (hbc.cell (p := ⟨wr.heap.size, o, none⟩) la).trans (ca o); have fan := fun o => (hbc.frozen (p := ⟨wr.heap.size, o, none⟩) la).trans (fa o)) | skip))
                | fail)
            all_goals (go_wp2_with fail; go_meet)
            · exact ⟨wc.heap.size, ABn, cbn, APn, cpn, rfl, rfl, by have := hbc.size; omega, box_new (Below.refl _ _), (hdn.mono (fun b hb => by rcases hb with hb | hb <;> omega)).ext (bl_alloc (Below.refl _ _) _), bl_alloc (bl_then hbW hbc) _⟩
            · exact ⟨wb.heap.size, ABn, cbn, APn, cpn, rfl, rfl, hsw, set_cell3 wc _ _ _ _ ⟨can 0, can 1, can 2⟩, (hdn.set3 (by simp; omega) _ _ _).mono (fun b hb => by rcases hb with hb | hb; exact hb.1; simp at hb; omega), bl_set (bl_set (bl_set (bl_then (bl_alloc hbW _) hbc) hsw _) hsw _) hsw _⟩
            · exact ⟨wr.heap.size, ABn, cbn, APn, cpn, rfl, rfl, Nat.le_refl _, set_cell3 wc _ _ _ _ ⟨can 0, can 1, can 2⟩, (hdn.set3 (by omega) _ _ _).mono (fun b hb => by rcases hb with hb | hb <;> omega), bl_set (bl_set (bl_set (bl_then hbW hbc) (Nat.le_refl _) _) (Nat.le_refl _) _) (Nat.le_refl _) _⟩
          case rest =>
            obtain ⟨bn, ABn, cbn, APn, cpn, rfl, rfl, hbn, cn, dn, gw⟩ := hcut
            replace c3 := box_ext gw c3
            replace bxc := box_ext gw bxc
            replace dF := Lib.hid (dF.out.ext gw)
            have fz' : ∀ o, wc.frozen? ⟨w9.heap.size, o, none⟩ = false := fun o => (gw.frozen (p := ⟨w9.heap.size, o, none⟩) hsz.out).trans (fz o)
            replace hsz := Lib.hid (Nat.lt_of_lt_of_le hsz.out gw.size)
            replace g := Lib.hid (bl_then g.out gw)
            clear gw fz
            go_wp2_with (go_at_call 17; refine (c_off ABn B.length cbn APn P1.length cpn F1 _ true hO.out).mono ?_; rintro e wd ⟨rfl, hbd⟩; replace c3 := box_ext hbd c3; replace bxc := box_ext hbd bxc; replace cn := box_ext hbd cn; replace dn := dn.ext hbd; replace dF := Lib.hid (dF.out.ext hbd); replace fz' := fun o => (hbd.frozen (p := ⟨w9.heap.size, o, none⟩) hsz.out).trans (fz' o); replace hsz := Lib.hid (Nat.lt_of_lt_of_le hsz.out hbd.size); replace g := Lib.hid (bl_then g.out hbd); clear hbd)
            go_roundw
            case rel =>
              have hne' : w.heap.size ≠ w9.heap.size := Nat.ne_of_lt hne.out
              have hle : w.heap.size ≤ w9.heap.size := Nat.le_of_lt hne.out
              exact ⟨j + 1, by omega, by go_num, ABn, cbn, APn, cpn, P1, F1, set_cell3 _ _ _ _ _ bxc, dn.set3 (fun h => h rfl) _ _ _, hFn.out, hPn.out, box_set3 hne' c3, dF.out.set3 (fun h => h rfl) _ _ _, by intro o; simp [World.frozen?_setCell, fz' o], by have := hsz.out; simp; omega, bl_set (bl_set (bl_set g.out hle _) hle _) hle _⟩
            case measure => simp [intOf]; omega

      · obtain rfl : Fx = 0 := by have := hFx.out; omega
        have dx' := ox.out.okD
        have d3' := dF.out.okD
        obtain ⟨B2, hB2⟩ : ∃ x, flushB B Px 0 = x := ⟨_, rfl⟩
        obtain ⟨P2, hP2⟩ : ∃ x, flushP Px 0 = x := ⟨_, rfl⟩
        obtain ⟨P3, hP3⟩ : ∃ x : List PutD, x = [] := ⟨_, rfl⟩
        obtain ⟨e0, he0⟩ : ∃ x, readB B Px 0 0 = x := ⟨_, rfl⟩
        have hB0 : 0 < B.length := b0.out
        have r1 := Lib.hid (show readE B 0 0 = 13 by unfold readE; rw [if_pos ⟨Int.le_refl _, by omega⟩, if_pos rfl])
        have f1 := Lib.hid (show flushE 0 = 13 from rfl)
        have k1 := Lib.hid (layTo_none (B := B) (P := Px) Px.length)
        have r2 := Lib.hid (show readE B (-1) 0 = 0 by unfold readE; rw [if_pos ⟨Int.le_refl _, by omega⟩, if_neg (by omega)])
        have r3 := Lib.hid (show readB B P3 (-1) 0 = B[0] by unfold readB; rw [if_pos r2.out, hP3]; simp [readTo, hB0])
        have p4 := Lib.hid (show P3.length ≤ 1000000 by subst hP3; simp)
        have hq := Lib.hid (show (B[0] == B[0]) = true by simp)
        have hO := Lib.hid (show ((0 : Int) == 0) = true from rfl)
        replace hB2 := Lib.hid hB2
        replace hP2 := Lib.hid hP2
        replace hP3 := Lib.hid hP3
        replace he0 := Lib.hid he0
        have hx : ∃ b off, AB = some ⟨b, off, none⟩ ∧ ∃ A' c', wr.cell? ⟨b, off, none⟩ = some (.slice A' B[0].length c') ∧ OkB wr A' c' B[0] := by
          rcases d3'.1 with h | ⟨b, off, _, e1, e2⟩
          · rw [h] at hB0; simp at hB0
          · obtain ⟨v, e3, A', c', rfl, e4, e5, e6⟩ := e2 0 hB0
            exact ⟨b, off, e1, A', c', by simpa using e3, e6, e4, e5⟩
        obtain ⟨bt, ot, rfl, A', c', ct, rt⟩ := hx
        clear dF ox d3'
        have rl := Lib.hid (show ∀ w, RL w none [] from fun w => .inl rfl)
        go_upto_region 14 with (go_at_call 19; refine (c_read ABx cbx APx cpx 0 0 _ B Px dx' b1.out p1.out 13 e0 r1.out he0.out).mono ?_; rintro e w13 ⟨⟨A13, cc13, rfl, r13⟩, hb13⟩; replace ct := cell_ext hb13 ct; replace c3 := box_ext hb13 c3; replace bxc := box_ext hb13 bxc; replace dx' := dx'.ext hb13; replace rt := rt.ext hb13; replace g := Lib.hid (bl_then g.out hb13); clear hb13)
        go_upto_region 15 with (go_at_call 25; refine (c_flush ABx cbx APx cpx 0 _ B Px dx' b1.out b0.out p1.out okx.out 13 B2 P2 f1.out hB2.out hP2.out).mono ?_; rintro e w15 ⟨⟨AB15, cb15, AP15, cp15, rfl, -⟩, hb15⟩; replace ct := cell_ext hb15 ct; replace c3 := box_ext hb15 c3; replace bxc := box_ext hb15 bxc; replace dx' := dx'.ext hb15; replace rt := rt.ext hb15; replace g := Lib.hid (bl_then g.out hb15); clear hb15)
        have ha := bl_alloc (Below.refl _ w15) (.cells #[.slice AB15 B2.length cb15, .slice AP15 P2.length cp15, .int .i64 0] 25)
        replace ct := cell_ext ha ct
        replace c3 := box_ext ha c3
        replace bxc := box_ext ha bxc
        replace dx' := dx'.ext ha
        replace rt := rt.ext ha
        replace g := Lib.hid (bl_then g.out ha)
        clear ha
        go_upto_region 16 with (go_at_call 27; refine (c_crash ABx cbx APx cpx 0 _ B Px dx' b1.out b0.out p1.out okx.out none 0 [] (rl.out _) B P3 k1.out hP3.out).mono ?_; rintro e w17 ⟨⟨AB17, cb17, AP17, cp17, rfl, d17⟩, hb17⟩; replace ct := cell_ext hb17 ct; replace c3 := box_ext hb17 c3; replace bxc := box_ext hb17 bxc; replace rt := rt.ext hb17; replace g := Lib.hid (bl_then g.out hb17); clear hb17)
        have ha := bl_alloc (Below.refl _ w17) (.cells #[.slice AB17 B.length cb17, .slice AP17 P3.length cp17, .int .i64 (-1)] 25)
        have c17 := box_new (Below.refl _ (w17.alloc (.cells #[.slice AB17 B.length cb17, .slice AP17 P3.length cp17, .int .i64 (-1)] 25)))
        replace ct := cell_ext ha ct
        replace c3 := box_ext ha c3
        replace bxc := box_ext ha bxc
        replace d17 := d17.ext ha
        replace rt := rt.ext ha
        replace g := Lib.hid (bl_then g.out ha)
        clear ha
        go_upto_region 17 with (go_at_call 19; refine (c_read AB17 cb17 AP17 cp17 (-1) 0 _ B P3 d17 b1.out p4.out 0 B[0] r2.out r3.out).mono ?_; rintro e w18 ⟨⟨A18, cc18, rfl, r18⟩, hb18⟩; replace ct := cell_ext hb18 ct; replace c3 := box_ext hb18 c3; replace bxc := box_ext hb18 bxc; replace rt := rt.ext hb18; replace g := Lib.hid (bl_then g.out hb18); clear hb18)
        have hBi : (0 : Int) < B.length := by omega
        go_wp2_with (first
          | (go_at_call 17; refine (c_off ABx B.length cbx APx Px.length cpx 0 _ true hO.out).mono ?_; rintro e w19 ⟨rfl, hb19⟩; replace ct := cell_ext hb19 ct; replace c3 := box_ext hb19 c3; replace rt := rt.ext hb19; replace r18 := r18.ext hb19; replace g := Lib.hid (bl_then g.out hb19); clear hb19)
          | (go_at_call 21; refine (c_same A18 cc18 B[0] A' c' B[0] _ r18 rt true hq.out).mono ?_; rintro e w20 ⟨rfl, hb20⟩; replace g := Lib.hid (bl_then g.out hb20); clear hb20) | fail)
        go_ret
        exact ⟨ret_bool (by simp), g.out⟩
end Go.Proofs.Ytkfalgdhpojejaa
