import Derived.Test.YtkfalgdhpojejaaBase
namespace Go.Proofs.Ytkfalgdhpojejaa
open Go.RowKit

/-- The string of bytes. -/
def strOf (bs : List UInt8) : ByteArray := ⟨bs.toArray⟩

theorem run_str {src dst e : TypeId} {P : Program} (hs : P.underlying src = some (.slice e)) (he : P.underlying e = some (.int .u8)) (hd : P.underlying dst = some .string)
    {w : World} {A : Option Addr} {c : Nat} {bs : List UInt8} (h : RB w A bs) :
    (convert src dst (.slice A bs.length c)).run P w = .ok (.string (strOf bs)) w := by
  rcases h with rfl | ⟨b, off, rfl, hc⟩
  · cases A with
    | none => rw [run_convert_bytes_nil w src e hs he _ _ dst hd]; rfl
    | some a =>
      rw [run_convert_bytes_string w src dst e _ _ c hs he hd]
      have h0 : (loadCells a 0).run P w = .ok (([] : List Int).map (Value.int .u8)).toArray w := by
        simp [loadCells, loadCellsFrom, Sem.run_pure]
      rw [List.length_nil, run_bytesToString w a 0 c [] h0]
      rfl
  · have := run_convert_bytes_arg (P := P) w src e hs he b off bs.length c (bs.map fun x => (x.toNat : Int)) (by simp) (fun i hi => by
      rw [hc i hi]; simp [List.getD, hi]) dst hd
    rw [this]
    have e : strOfNums (bs.map fun x => (x.toNat : Int)) = strOf bs := by
      simp only [strOfNums, strOf, List.map_map]
      congr 2
      conv => rhs; rw [← List.map_id bs]
      apply List.map_congr_left
      intro x _
      simp
    rw [e]

theorem strOf_eq (x y : List UInt8) : ((strOf x).toList == (strOf y).toList) = (x == y) := by
  rw [ByteArray.toList_eq, ByteArray.toList_eq]; rfl

theorem ret_bool {a b : Bool} (h : a = b) : Ending.returned (.bool a) = .returned (.bool b) := by rw [h]
theorem ret_int {k : IntKind} {a b : Int} (h : a = b) : Ending.returned (.int k a) = .returned (.int k b) := by rw [h]

set_option maxHeartbeats 400000 in
theorem same_any (A : Option Addr) (c : Nat) (x : List UInt8) (A' : Option Addr) (c' : Nat) (y : List UInt8) (w : World) (hx : RB w A x) (hy : RB w A' y) :
    Calls Try.prog 21 #[.slice A x.length c, .slice A' y.length c'] w fun e w' => e = .returned (.bool (x == y)) ∧ w = w' := by
  have h1 := run_str (P := Try.prog) (c := c) Try.underlying37 Try.underlying5 Try.underlying9 hx
  have h2 := run_str (P := Try.prog) (c := c') Try.underlying37 Try.underlying5 Try.underlying9 hy
  clear hx hy
  go_enter Try.func21, Try.ntmps21
  go_wp2
  go_ret
  exact ⟨ret_bool (strOf_eq x y), rfl⟩

set_option maxHeartbeats 400000 in
theorem equal_any (A : Option Addr) (c : Nat) (x : List UInt8) (A' : Option Addr) (c' : Nat) (y : List UInt8) (w : World) (hx : RB w A x) (hy : RB w A' y) :
    Calls Try.prog 38 #[.slice A x.length c, .slice A' y.length c'] w fun e w' => e = .returned (.bool (x == y)) ∧ w = w' := by
  have h1 := run_str (P := Try.prog) (c := c) Try.underlying37 Try.underlying5 Try.underlying9 hx
  have h2 := run_str (P := Try.prog) (c := c') Try.underlying37 Try.underlying5 Try.underlying9 hy
  clear hx hy
  go_enter Try.func38, Try.ntmps38
  go_wp2
  go_ret
  exact ⟨ret_bool (strOf_eq x y), rfl⟩

abbrev mkDisk (AB : Option Addr) (nb cb : Nat) (AP : Option Addr) (np cp : Nat) (f : Int) : Value := .agg #[.slice AB nb cb, .slice AP np cp, .int .i64 f]

set_option maxHeartbeats 400000 in
theorem off_any (AB : Option Addr) (nb cb : Nat) (AP : Option Addr) (np cp : Nat) (f : Int) (w : World) :
    Calls Try.prog 17 #[.agg #[.slice AB nb cb, .slice AP np cp, .int .i64 f]] w fun e w' => e = .returned (.bool (f == 0)) ∧ Below w.heap.size w w' := by
  go_enter Try.func17, Try.ntmps17
  go_wp2
  go_ret
  exact ⟨rfl, (Below.refl _ _).alloc (Nat.le_refl _) _⟩

set_option maxHeartbeats 400000 in
theorem isBlock_any (AB : Option Addr) (nb cb : Nat) (AP : Option Addr) (np cp : Nat) (f at_ : Int) (w : World) :
    Calls Try.prog 34 #[.agg #[.slice AB nb cb, .slice AP np cp, .int .i64 f], .int .i64 at_] w fun e w' => e = .returned (.bool (decide (0 ≤ at_ ∧ at_ < nb))) ∧ Below w.heap.size w w' := by
  by_cases h0 : 0 ≤ at_
  · go_enter Try.func34, Try.ntmps34
    go_wp2
    go_ret
    exact ⟨ret_bool (by simp [h0]), (Below.refl _ _).alloc (Nat.le_refl _) _⟩
  · go_enter Try.func34, Try.ntmps34
    go_wp2
    go_ret
    exact ⟨ret_bool (by rw [decide_eq_false (Int.not_le.2 h0)]; rfl), (Below.refl _ _).alloc (Nat.le_refl _) _⟩

theorem ne_cast (n m : Nat) : ((n : Int) != (m : Int)) = (n != m) := by
  rw [Bool.eq_iff_iff]; simp; omega

set_option maxHeartbeats 400000 in
theorem short_any (A : Option Addr) (n c : Nat) (w : World) :
    Calls Try.prog 32 #[.slice A n c] w fun e w' => e = .returned (.bool (n != 64)) ∧ w = w' := by
  go_enter Try.func32, Try.ntmps32
  go_wp2
  go_ret
  exact ⟨ret_bool (ne_cast n 64), rfl⟩

set_option maxHeartbeats 400000 in
theorem arm_any (AB : Option Addr) (nb cb : Nat) (AP : Option Addr) (np cp : Nat) (f n : Int) (w : World) :
    Calls Try.prog 29 #[.agg #[.slice AB nb cb, .slice AP np cp, .int .i64 f], .int .i64 n] w fun e w' => e = .returned (.agg #[.slice AB nb cb, .slice AP np cp, .int .i64 (max n (-1))]) ∧ Below w.heap.size w w' := by
  by_cases h : n < -1
  · rw [show max n (-1) = -1 by omega]
    go_enter Try.func29, Try.ntmps29
    go_wp2
    exact bodyPost_ret (v := .agg #[.slice AB nb cb, .slice AP np cp, .int .i64 (-1)]) (by simp [results, Try.results29, go_sem]) rfl ⟨rfl, bl_alloc (bl_alloc (Below.refl _ _) _) _⟩
  · rw [show max n (-1) = n by omega]
    go_enter Try.func29, Try.ntmps29
    go_wp2
    exact bodyPost_ret (v := .agg #[.slice AB nb cb, .slice AP np cp, .int .i64 n]) (by simp [results, Try.results29, go_sem]) rfl ⟨rfl, bl_alloc (bl_alloc (Below.refl _ _) _) _⟩

set_option maxHeartbeats 400000 in
theorem rarm_any (AB : Option Addr) (nb cb : Nat) (AP : Option Addr) (np cp : Nat) (f n : Int) (w : World) :
    Calls Try.prog 30 #[.agg #[.slice AB nb cb, .slice AP np cp, .int .i64 f], .int .i64 n] w fun e w' => e = .returned (.agg #[.slice AB nb cb, .slice AP np cp, .int .i64 (if n < 0 then -1 else n)]) ∧ Below w.heap.size w w' := by
  by_cases h : n < 0
  · rw [if_pos h]
    go_enter Try.func30, Try.ntmps30
    go_wp2
    exact bodyPost_ret (v := .agg #[.slice AB nb cb, .slice AP np cp, .int .i64 (-1)]) (by simp [results, Try.results30, go_sem]) rfl ⟨rfl, bl_alloc (bl_alloc (Below.refl _ _) _) _⟩
  · rw [if_neg h]
    go_enter Try.func30, Try.ntmps30
    go_wp2
    exact bodyPost_ret (v := .agg #[.slice AB nb cb, .slice AP np cp, .int .i64 n]) (by simp [results, Try.results30, go_sem]) rfl ⟨rfl, bl_alloc (bl_alloc (Below.refl _ _) _) _⟩

set_option maxHeartbeats 400000 in
theorem flush1_any (i : Int) (w : World) : Calls Try.prog 45 #[.int .i64 i] w fun e w' => e = .returned (.bool true) ∧ w = w' := by
  go_enter Try.func45, Try.ntmps45
  go_wp2
  go_ret
  exact ⟨rfl, rfl⟩

/-- A row of bools. -/
def RL (w : World) (A : Option Addr) (l : List Bool) : Prop :=
  l = [] ∨ ∃ b off, A = some ⟨b, off, none⟩ ∧ ∀ i (h : i < l.length), w.cell? ⟨b, off + i, none⟩ = some (.bool l[i])
theorem RL.ext {w w' : World} {A : Option Addr} {l : List Bool} (h : RL w A l) (hb : Below w.heap.size w w') : RL w' A l := by
  rcases h with h | ⟨b, off, h1, h2⟩
  · exact .inl h
  · exact .inr ⟨b, off, h1, fun i hi => cell_ext hb (h2 i hi)⟩

set_option maxHeartbeats 400000 in
theorem crash1_any (i : Nat) (A : Option Addr) (c : Nat) (l : List Bool) (B : Nat) (w : World) (hR : RL w A l) (hc : w.cell? ⟨B, 0, none⟩ = some (.slice A l.length c)) :
    Calls Try.prog 46 #[.int .i64 i, .pointer (some ⟨B, 0, none⟩)] w fun e w' => e = .returned (.bool (l.getD i false)) ∧ w = w' := by
  by_cases h : i < l.length
  · obtain ⟨b, off, rfl, hcs⟩ := hR.resolve_left (by intro e; simp [e] at h)
    have hi := hcs i h
    clear hcs
    have e : l.getD i false = l[i] := by simp [h]
    rw [e]
    go_enter Try.func46, Try.ntmps46
    go_wp2
    go_ret
    exact ⟨rfl, rfl⟩
  · have e : l.getD i false = false := by simp [List.getD, List.getElem?_eq_none (Nat.le_of_not_lt h)]
    rw [e]
    clear e
    clear hR
    go_enter Try.func46, Try.ntmps46
    go_wp2
    go_ret
    exact ⟨rfl, rfl⟩

set_option maxHeartbeats 400000 in
theorem odd_any (at_ : Int) (A : Option Addr) (n c : Nat) (AB : Option Addr) (nb cb : Nat) (AP : Option Addr) (np cp : Nat) (f : Int) (B : Nat) (w : World)
    (h0 : w.cell? ⟨B, 0, none⟩ = some (.slice AB nb cb)) (h1 : w.cell? ⟨B, 1, none⟩ = some (.slice AP np cp)) (h2 : w.cell? ⟨B, 2, none⟩ = some (.int .i64 f)) (h3 : w.cell? ⟨B + 1, 0, none⟩ = some (.func (.func 32) #[] #[])) :
    Calls Try.prog 33 #[.agg #[.int .i64 at_, .slice A n c], .pointer (some ⟨B, 0, none⟩), .pointer (some ⟨B + 1, 0, none⟩)] w fun e w' => e = .returned (.bool (!decide (0 ≤ at_ ∧ at_ < nb) || n != 64)) ∧ Below w.heap.size w w' := by
  have hB := blk_lt h0
  have hB' := blk_lt h3
  by_cases hd : 0 ≤ at_ ∧ at_ < nb
  · have hd' : decide (0 ≤ at_ ∧ at_ < nb) = true := decide_eq_true hd
    rw [hd']
    have Hd := Lib.hid hd'
    clear hd hd'
    go_enter Try.func33, Try.ntmps33
    go_wp2_with fail
    refine (isBlock_any AB nb cb AP np cp f at_ _).mono ?_
    rw [Hd.out]
    rintro e w1 ⟨rfl, hb⟩
    obtain ⟨hc, hf, hs⟩ := bcell hb
    go_wp2_with fail
    refine (short_any A n c _).mono ?_
    rintro e w2 ⟨rfl, rfl⟩
    go_wp2_with fail
    go_ret
    exact ⟨by simp, bl_then (bl_alloc (Below.refl _ _) _) hb⟩
  · have hd' : decide (0 ≤ at_ ∧ at_ < nb) = false := decide_eq_false hd
    rw [hd']
    have Hd := Lib.hid hd'
    clear hd hd'
    go_enter Try.func33, Try.ntmps33
    go_wp2_with fail
    refine (isBlock_any AB nb cb AP np cp f at_ _).mono ?_
    rw [Hd.out]
    rintro e w1 ⟨rfl, hb⟩
    obtain ⟨hc, hf, hs⟩ := bcell hb
    go_wp2_with fail
    go_ret
    exact ⟨by simp, bl_then (bl_alloc (Below.refl _ _) _) hb⟩

set_option maxHeartbeats 400000 in
theorem index47_any (A : Option Addr) (c : Nat) (l : List (List UInt8)) (w : World) (hl : l.length ≤ 140737488351232) (hR : RBB w A l) :
    Calls Try.prog 47 #[.slice A l.length c, .func (.func 32) #[] #[]] w fun e w' => (∃ r : Int, e = .returned (.int .i64 r) ∧ decide (0 ≤ r) = l.any fun b => b.length != 64) ∧ w = w' := by
  have HR := Lib.hid hR
  clear hR
  go_enter Try.func47, Try.ntmps47
  go_wp2_with fail
  go_loop [8] (fun i => ∃ k : Nat, k ≤ l.length ∧ i = .int .i64 k ∧ Upto (fun b => b.length != 64) l k) (fun i => l.length - (intOf i).toNat)
  case atStart => exact ⟨0, Nat.zero_le _, rfl, Upto.zero _ _⟩
  case round =>
    obtain ⟨k, hk, rfl, Hr⟩ := hrel
    by_cases hlt : k < l.length
    · obtain ⟨b, off, rfl, A', c', hv1, hl1, hl2, hR⟩ := HR.out.some_ hlt
      clear hR
      cases he : l[k].length != 64
      · go_wp2_with (go_at_call 32; refine (short_any _ _ _ _).mono ?_; rintro e w' ⟨rfl, rfl⟩)
        go_round
        case rel => exact ⟨k + 1, by omega, by go_num, Hr.succ hlt he⟩
        case measure => simp [intOf]; omega
      · have Hs := Lib.hid (any_at (p := fun b => b.length != 64) hlt he)
        go_wp2_with (go_at_call 32; refine (short_any _ _ _ _).mono ?_; rintro e w' ⟨rfl, rfl⟩)
        go_ret
        exact ⟨⟨k, rfl, by rw [Hs.out]; simp⟩, rfl⟩
    · go_wp2_with fail
      go_ret
      exact ⟨⟨-1, rfl, by rw [Hr.any (by omega)]; rfl⟩, rfl⟩

set_option maxHeartbeats 400000 in
theorem contains35_any (A : Option Addr) (c : Nat) (l : List (List UInt8)) (w : World) (hl : l.length ≤ 140737488351232) (hR : RBB w A l) :
    Calls Try.prog 35 #[.slice A l.length c, .func (.func 32) #[] #[]] w fun e w' => e = .returned (.bool (l.any fun b => b.length != 64)) ∧ w = w' := by
  have hc := index47_any A c l w hl hR
  have HC := Lib.hid hc
  clear hR hc
  go_enter Try.func35, Try.ntmps35
  go_wp2_with (go_at_call 47; refine HC.out.mono ?_; rintro e w' ⟨⟨r, rfl, hr⟩, rfl⟩; have Hr := Lib.hid hr; clear hr)
  go_ret
  exact ⟨ret_bool Hr.out, rfl⟩

def oddP (nb : Nat) (p : PutD) : Bool := !decide (0 ≤ p.1 ∧ p.1 < nb) || p.2.length != 64

set_option maxHeartbeats 400000 in
theorem index48_any (A : Option Addr) (c : Nat) (l : List PutD) (w : World) (hl : l.length ≤ 140737488351232) (hR : RP w A l)
    (AB : Option Addr) (nb cb : Nat) (AP : Option Addr) (np cp : Nat) (f : Int) (B : Nat)
    (h0 : w.cell? ⟨B, 0, none⟩ = some (.slice AB nb cb)) (h1 : w.cell? ⟨B, 1, none⟩ = some (.slice AP np cp)) (h2 : w.cell? ⟨B, 2, none⟩ = some (.int .i64 f)) (h3 : w.cell? ⟨B + 1, 0, none⟩ = some (.func (.func 32) #[] #[])) :
    Calls Try.prog 48 #[.slice A l.length c, .func (.func 33) #[] #[.pointer (some ⟨B, 0, none⟩), .pointer (some ⟨B + 1, 0, none⟩)]] w fun e w' => (∃ r : Int, e = .returned (.int .i64 r) ∧ decide (0 ≤ r) = l.any (oddP nb)) ∧ Below w.heap.size w w' := by
  have HR := Lib.hid hR
  have H0 := Lib.hid h0
  have H1 := Lib.hid h1
  have H2 := Lib.hid h2
  have H3 := Lib.hid h3
  clear hR h0 h1 h2 h3
  go_enter Try.func48, Try.ntmps48
  go_wp2_with fail
  go_loopw [8] (fun i wr => ∃ k : Nat, k ≤ l.length ∧ i = .int .i64 k ∧ Upto (oddP nb) l k ∧ Hid (Below w.heap.size w wr)) (fun i _ => l.length - (intOf i).toNat)
  case atStart => exact ⟨0, Nat.zero_le _, rfl, Upto.zero _ _, Below.refl _ _⟩
  case round =>
    obtain ⟨k, hk, rfl, Hr, Hb⟩ := hrel
    by_cases hlt : k < l.length
    · obtain ⟨b, off, rfl, hv0, A', c', hv1, hl1, hl2, hR⟩ := HR.out.some_ hlt
      clear hR
      replace hv0 := cell_ext Hb hv0
      replace hv1 := cell_ext Hb hv1
      have hodd := odd_any l[k].1 A' l[k].2.length c' AB nb cb AP np cp f B wr (cell_ext Hb H0.out) (cell_ext Hb H1.out) (cell_ext Hb H2.out) (cell_ext Hb H3.out)
      cases he : oddP nb l[k]
      · rw [show (!decide (0 ≤ l[k].1 ∧ l[k].1 < nb) || l[k].2.length != 64) = false from he] at hodd
        have Hodd := Lib.hid hodd
        have He := Lib.hid he
        clear hodd he
        go_wp2_with (go_at_call 33; refine Hodd.out.mono ?_; rintro e w' ⟨rfl, hbb⟩; have Hbb := Lib.hid hbb; clear hbb)
        go_roundw
        case rel => exact ⟨k + 1, by omega, by go_num, Hr.succ hlt He.out, bl_then Hb Hbb.out⟩
        case measure => simp [intOf]; omega
      · rw [show (!decide (0 ≤ l[k].1 ∧ l[k].1 < nb) || l[k].2.length != 64) = true from he] at hodd
        have Hodd := Lib.hid hodd
        have Hs := Lib.hid (any_at hlt he)
        clear hodd he
        go_wp2_with (go_at_call 33; refine Hodd.out.mono ?_; rintro e w' ⟨rfl, hbb⟩; have Hbb := Lib.hid hbb; clear hbb)
        go_ret
        exact ⟨⟨k, rfl, by rw [Hs.out]; simp⟩, bl_then Hb Hbb.out⟩
    · go_wp2_with fail
      go_ret
      exact ⟨⟨-1, rfl, by rw [Hr.any (by omega)]; rfl⟩, Hb⟩

set_option maxHeartbeats 400000 in
theorem contains36_any (A : Option Addr) (c : Nat) (l : List PutD) (w : World) (hl : l.length ≤ 140737488351232) (hR : RP w A l)
    (AB : Option Addr) (nb cb : Nat) (AP : Option Addr) (np cp : Nat) (f : Int) (B : Nat)
    (h0 : w.cell? ⟨B, 0, none⟩ = some (.slice AB nb cb)) (h1 : w.cell? ⟨B, 1, none⟩ = some (.slice AP np cp)) (h2 : w.cell? ⟨B, 2, none⟩ = some (.int .i64 f)) (h3 : w.cell? ⟨B + 1, 0, none⟩ = some (.func (.func 32) #[] #[])) :
    Calls Try.prog 36 #[.slice A l.length c, .func (.func 33) #[] #[.pointer (some ⟨B, 0, none⟩), .pointer (some ⟨B + 1, 0, none⟩)]] w fun e w' => e = .returned (.bool (l.any (oddP nb))) ∧ Below w.heap.size w w' := by
  have HC := Lib.hid (index48_any A c l w hl hR AB nb cb AP np cp f B h0 h1 h2 h3)
  clear hR h0 h1 h2 h3
  go_enter Try.func36, Try.ntmps36
  go_wp2_with (go_at_call 48; refine HC.out.mono ?_; rintro e w' ⟨⟨r, rfl, hr⟩, hb⟩; have Hr := Lib.hid hr; clear hr; have Hb := Lib.hid hb; clear hb)
  go_ret
  exact ⟨ret_bool Hr.out, Hb.out⟩

end Go.Proofs.Ytkfalgdhpojejaa
