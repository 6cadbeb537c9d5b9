import Derived.Test.YtkfalgdhpojejaaT
import Derived.Test.YtkfalgdhpojejaaO
import Derived.Test.YtkfalgdhpojejaaR
namespace Go.Proofs.Ytkfalgdhpojejaa
open Go.RowKit

/-- What a disk's two slices hold. -/
def OkD (w : World) (AB AP : Option Addr) (cp : Nat) (B : List (List UInt8)) (P : List PutD) : Prop :=
  RBBF (fun _ => True) w AB B ∧ RPF (fun _ => True) w AP P ∧ P.length ≤ cp ∧ (AP = none → cp = 0)
/-- What a slice of bytes holds. -/
def OkB (w : World) (A : Option Addr) (c : Nat) (bs : List UInt8) : Prop := RBF (fun _ => True) w A bs ∧ bs.length ≤ c ∧ bs.length ≤ 140737488351232
theorem OkD.ext {w w' : World} {AB AP : Option Addr} {cp : Nat} {B : List (List UInt8)} {P : List PutD} (h : OkD w AB AP cp B P) (hb : Below w.heap.size w w') : OkD w' AB AP cp B P :=
  ⟨h.1.kept (Kept.below _ hb), h.2.1.kept (Kept.below _ hb), h.2.2.1, h.2.2.2⟩
theorem OkB.ext {w w' : World} {A : Option Addr} {c : Nat} {bs : List UInt8} (h : OkB w A c bs) (hb : Below w.heap.size w w') : OkB w' A c bs := ⟨h.1.kept (Kept.below _ hb), h.2⟩
/-- A disk's three cells. -/
def Box (w : World) (b : Nat) (AB : Option Addr) (nb cb : Nat) (AP : Option Addr) (np cp : Nat) (f : Int) : Prop :=
  w.cell? ⟨b, 0, none⟩ = some (.slice AB nb cb) ∧ w.cell? ⟨b, 1, none⟩ = some (.slice AP np cp) ∧ w.cell? ⟨b, 2, none⟩ = some (.int .i64 f)
theorem box_ext {w w' : World} {b : Nat} {x y z : Value} (hb : Below w.heap.size w w') (h : w.cell? ⟨b, 0, none⟩ = some x ∧ w.cell? ⟨b, 1, none⟩ = some y ∧ w.cell? ⟨b, 2, none⟩ = some z) :
    w'.cell? ⟨b, 0, none⟩ = some x ∧ w'.cell? ⟨b, 1, none⟩ = some y ∧ w'.cell? ⟨b, 2, none⟩ = some z := ⟨cell_ext hb h.1, cell_ext hb h.2.1, cell_ext hb h.2.2⟩
/-- A disk's box that was laid last. -/
theorem box_new {w w' : World} {x y z : Value} {t : TypeId} (hb : Below (w.alloc (.cells #[x, y, z] t)).heap.size (w.alloc (.cells #[x, y, z] t)) w') :
    w'.cell? ⟨w.heap.size, 0, none⟩ = some x ∧ w'.cell? ⟨w.heap.size, 1, none⟩ = some y ∧ w'.cell? ⟨w.heap.size, 2, none⟩ = some z := by
  obtain ⟨h, _, _⟩ := box1 hb
  exact ⟨h 0, h 1, h 2⟩

theorem ok_of_vd {φ : Nat → Prop} {w : World} {v : Value} {B : List (List UInt8)} {P : List PutD} {f : Int} (h : VD φ w v B P f) : ∃ AB cb AP cp, v = .agg #[.slice AB B.length cb, .slice AP P.length cp, .int .i64 f] ∧ OkD w AB AP cp B P := by
  obtain ⟨AB, cb, AP, cp, h1, h2, h3, h4, h5⟩ := h
  exact ⟨AB, cb, AP, cp, h1, h4.mono fun _ _ => trivial, h5.mono fun _ _ => trivial, h2, h3⟩
theorem ok_of_vbf {φ : Nat → Prop} {w : World} {v : Value} {bs : List UInt8} (h : VBF φ w v bs) : ∃ A c, v = .slice A bs.length c ∧ OkB w A c bs := by
  obtain ⟨A, c, h1, h2, h3, h4⟩ := h
  exact ⟨A, c, h1, h4.mono fun _ _ => trivial, h2, h3⟩

abbrev dv (AB : Option Addr) (B : List (List UInt8)) (cb : Nat) (AP : Option Addr) (P : List PutD) (cp : Nat) (f : Int) : Value := .agg #[.slice AB B.length cb, .slice AP P.length cp, .int .i64 f]

theorem c_new (n : Int) (w : World) (hn : -9223372036854775808 ≤ n) (hn' : n ≤ 9223372036854775807) (E : Int) (B : List (List UInt8)) (P : List PutD) (F : Int) (hE : newE n = E) (hB : newB n = B) (hP : P = []) (hF : newF n = F) :
    Calls Try.prog 12 #[.int .i64 n] w fun e w' => (∃ AB cb AP cp, e = .returned (.tuple #[.agg #[.slice AB B.length cb, .slice AP P.length cp, .int .i64 F], .int .i64 E]) ∧ OkD w' AB AP cp B P) ∧ Below w.heap.size w w' := by
  subst hE hB hP hF
  refine (new_any n w hn hn').mono ?_
  rintro e w' ⟨⟨v, rfl, hv⟩, hb⟩
  obtain ⟨AB, cb, AP, cp, rfl, h⟩ := ok_of_vd hv
  exact ⟨⟨AB, cb, AP, cp, rfl, h⟩, hb⟩
theorem c_rnew (n : Int) (w : World) (hn : -9223372036854775808 ≤ n) (hn' : n ≤ 9223372036854775807) (E : Int) (B : List (List UInt8)) (P : List PutD) (F : Int) (hE : newE n = E) (hB : newB n = B) (hP : P = []) (hF : newF n = F) :
    Calls Try.prog 13 #[.int .i64 n] w fun e w' => (∃ AB cb AP cp, e = .returned (.tuple #[.agg #[.slice AB B.length cb, .slice AP P.length cp, .int .i64 F], .int .i64 E]) ∧ OkD w' AB AP cp B P) ∧ Below w.heap.size w w' := by
  subst hE hB hP hF
  refine (rnew_any n w hn hn').mono ?_
  rintro e w' ⟨⟨v, rfl, hv⟩, hb⟩
  obtain ⟨AB, cb, AP, cp, rfl, h⟩ := ok_of_vd hv
  exact ⟨⟨AB, cb, AP, cp, rfl, h⟩, hb⟩
theorem c_block (n : Int) (m : UInt8) (hm : n = (m.toNat : Int)) (w : World) (bs : List UInt8) (hbs : List.replicate 64 m = bs) :
    Calls Try.prog 31 #[.int .u8 n] w fun e w' => (∃ A c, e = .returned (.slice A bs.length c) ∧ OkB w' A c bs) ∧ Below w.heap.size w w' := by
  subst hm hbs
  refine (block_any m w).mono ?_
  rintro e w' ⟨⟨v, rfl, hv⟩, hb⟩
  obtain ⟨A, c, rfl, h⟩ := ok_of_vbf hv
  exact ⟨⟨A, c, rfl, h⟩, hb⟩
theorem c_write (AB : Option Addr) (cb : Nat) (AP : Option Addr) (cp : Nat) (f at_ : Int) (A : Option Addr) (c : Nat) (bs : List UInt8) (w : World) (B : List (List UInt8)) (P : List PutD) (hD : OkD w AB AP cp B P) (hlP : P.length ≤ 1000000) (hR : OkB w A c bs) (hf : -9223372036854775808 ≤ f) (hf' : f ≤ 9223372036854775807)
    (E : Int) (P' : List PutD) (F : Int) (hE : writeE B f at_ bs = E) (hP' : writeP P E at_ bs = P') (hF : writeF f E = F) :
    Calls Try.prog 23 #[.agg #[.slice AB B.length cb, .slice AP P.length cp, .int .i64 f], .int .i64 at_, .slice A bs.length c] w fun e w' =>
      (∃ AB' cb' AP' cp', e = .returned (.tuple #[.agg #[.slice AB' B.length cb', .slice AP' P'.length cp', .int .i64 F], .int .i64 E]) ∧ OkD w' AB' AP' cp' B P') ∧ Below w.heap.size w w' := by
  subst hE hP' hF
  refine (write_any (fun _ => True) AB cb AP cp f at_ A c bs w B P hD.1 hD.2.1 hD.2.2.1 hD.2.2.2 hlP hR.1.plain hR.2.2 hf hf').mono ?_
  rintro e w' ⟨⟨v, rfl, hv⟩, hb⟩
  obtain ⟨AB, cb, AP, cp, rfl, h⟩ := ok_of_vd hv
  exact ⟨⟨AB, cb, AP, cp, rfl, h⟩, hb⟩
theorem c_rwrite (AB : Option Addr) (cb : Nat) (AP : Option Addr) (cp : Nat) (f at_ : Int) (A : Option Addr) (c : Nat) (bs : List UInt8) (w : World) (B : List (List UInt8)) (P : List PutD) (hD : OkD w AB AP cp B P) (hlP : P.length ≤ 1000000) (hR : OkB w A c bs) (hf : -9223372036854775808 ≤ f) (hf' : f ≤ 9223372036854775807)
    (E : Int) (P' : List PutD) (F : Int) (hE : writeE B f at_ bs = E) (hP' : writeP P E at_ bs = P') (hF : writeF f E = F) :
    Calls Try.prog 24 #[.agg #[.slice AB B.length cb, .slice AP P.length cp, .int .i64 f], .int .i64 at_, .slice A bs.length c] w fun e w' =>
      (∃ AB' cb' AP' cp', e = .returned (.tuple #[.agg #[.slice AB' B.length cb', .slice AP' P'.length cp', .int .i64 F], .int .i64 E]) ∧ OkD w' AB' AP' cp' B P') ∧ Below w.heap.size w w' := by
  subst hE hP' hF
  refine (rwrite_any (fun _ => True) AB cb AP cp f at_ A c bs w B P hD.1 hD.2.1 hD.2.2.1 hD.2.2.2 hlP hR.1 hR.2.1 hR.2.2 hf hf').mono ?_
  rintro e w' ⟨⟨v, rfl, hv⟩, hb⟩
  obtain ⟨AB, cb, AP, cp, rfl, h⟩ := ok_of_vd hv
  exact ⟨⟨AB, cb, AP, cp, rfl, h⟩, hb⟩
theorem c_read (AB : Option Addr) (cb : Nat) (AP : Option Addr) (cp : Nat) (f at_ : Int) (w : World) (B : List (List UInt8)) (P : List PutD) (hD : OkD w AB AP cp B P) (hlB : B.length ≤ 4096) (hlP : P.length ≤ 1000000)
    (E : Int) (bs : List UInt8) (hE : readE B f at_ = E) (hbs : readB B P f at_ = bs) :
    Calls Try.prog 19 #[.agg #[.slice AB B.length cb, .slice AP P.length cp, .int .i64 f], .int .i64 at_] w fun e w' =>
      (∃ A c, e = .returned (.tuple #[.slice A bs.length c, .int .i64 E]) ∧ OkB w' A c bs) ∧ Below w.heap.size w w' := by
  subst hE hbs
  refine (dread_any (fun _ => True) AB cb AP cp f at_ w B P hD.1 hD.2.1 (by omega) (by omega)).mono ?_
  rintro e w' ⟨⟨v, rfl, hv⟩, hb⟩
  obtain ⟨A, c, rfl, h⟩ := ok_of_vbf hv
  exact ⟨⟨A, c, rfl, h⟩, hb⟩
theorem c_rread (AB : Option Addr) (cb : Nat) (AP : Option Addr) (cp : Nat) (f at_ : Int) (w : World) (B : List (List UInt8)) (P : List PutD) (hD : OkD w AB AP cp B P) (hlB : B.length ≤ 4096) (hlP : P.length ≤ 1000000)
    (E : Int) (bs : List UInt8) (hE : readE B f at_ = E) (hbs : readB B P f at_ = bs) :
    Calls Try.prog 20 #[.agg #[.slice AB B.length cb, .slice AP P.length cp, .int .i64 f], .int .i64 at_] w fun e w' =>
      (∃ A c, e = .returned (.tuple #[.slice A bs.length c, .int .i64 E]) ∧ OkB w' A c bs) ∧ Below w.heap.size w w' := by
  subst hE hbs
  refine (rread_any (fun _ => True) AB cb AP cp f at_ w B P hD.1 hD.2.1 (by omega) (by omega)).mono ?_
  rintro e w' ⟨⟨v, rfl, hv⟩, hb⟩
  obtain ⟨A, c, rfl, h⟩ := ok_of_vbf hv
  exact ⟨⟨A, c, rfl, h⟩, hb⟩
theorem c_flush (AB : Option Addr) (cb : Nat) (AP : Option Addr) (cp : Nat) (f : Int) (w : World) (B : List (List UInt8)) (P : List PutD) (hD : OkD w AB AP cp B P) (hlB : B.length ≤ 4096) (hlB0 : 0 < B.length) (hlP : P.length ≤ 1000000) (hok : okP B.length P)
    (E : Int) (B' : List (List UInt8)) (P' : List PutD) (hE : flushE f = E) (hB' : flushB B P f = B') (hP' : flushP P f = P') :
    Calls Try.prog 25 #[.agg #[.slice AB B.length cb, .slice AP P.length cp, .int .i64 f]] w fun e w' =>
      (∃ AB' cb' AP' cp', e = .returned (.tuple #[.agg #[.slice AB' B'.length cb', .slice AP' P'.length cp', .int .i64 f], .int .i64 E]) ∧ OkD w' AB' AP' cp' B' P') ∧ Below w.heap.size w w' := by
  subst hE hB' hP'
  refine (flush_any (fun _ => True) AB cb AP cp f w B P hD.1 hD.2.1 hD.2.2.1 hD.2.2.2 hlB hlB0 hlP hok).mono ?_
  rintro e w' ⟨⟨v, rfl, hv⟩, hb⟩
  obtain ⟨AB, cb, AP, cp, rfl, h⟩ := ok_of_vd hv
  exact ⟨⟨AB, cb, AP, cp, rfl, h⟩, hb⟩
theorem c_rflush (AB : Option Addr) (cb : Nat) (AP : Option Addr) (cp : Nat) (f : Int) (w : World) (B : List (List UInt8)) (P : List PutD) (hD : OkD w AB AP cp B P) (hlB : B.length ≤ 4096) (hlB0 : 0 < B.length) (hlP : P.length ≤ 1000000) (hok : okP B.length P)
    (E : Int) (B' : List (List UInt8)) (P' : List PutD) (hE : flushE f = E) (hB' : flushB B P f = B') (hP' : flushP P f = P') :
    Calls Try.prog 26 #[.agg #[.slice AB B.length cb, .slice AP P.length cp, .int .i64 f]] w fun e w' =>
      (∃ AB' cb' AP' cp', e = .returned (.tuple #[.agg #[.slice AB' B'.length cb', .slice AP' P'.length cp', .int .i64 f], .int .i64 E]) ∧ OkD w' AB' AP' cp' B' P') ∧ Below w.heap.size w w' := by
  subst hE hB' hP'
  refine (rflush_any (fun _ => True) AB cb AP cp f w B P hD.1 hD.2.1 hD.2.2.1 hD.2.2.2 hlB hlB0 hlP hok).mono ?_
  rintro e w' ⟨⟨v, rfl, hv⟩, hb⟩
  obtain ⟨AB, cb, AP, cp, rfl, h⟩ := ok_of_vd hv
  exact ⟨⟨AB, cb, AP, cp, rfl, h⟩, hb⟩
theorem c_crash (AB : Option Addr) (cb : Nat) (AP : Option Addr) (cp : Nat) (f : Int) (w : World) (B : List (List UInt8)) (P : List PutD) (hD : OkD w AB AP cp B P) (hlB : B.length ≤ 4096) (hlB0 : 0 < B.length) (hlP : P.length ≤ 1000000) (hok : okP B.length P)
    (AK : Option Addr) (cK : Nat) (K : List Bool) (hRL : RL w AK K) (B' : List (List UInt8)) (P' : List PutD) (hB' : layTo B P (keepF K) P.length = B') (hP' : P' = []) :
    Calls Try.prog 27 #[.agg #[.slice AB B.length cb, .slice AP P.length cp, .int .i64 f], .slice AK K.length cK] w fun e w' =>
      (∃ AB' cb' AP' cp', e = .returned (.agg #[.slice AB' B'.length cb', .slice AP' P'.length cp', .int .i64 (-1)]) ∧ OkD w' AB' AP' cp' B' P') ∧ Below w.heap.size w w' := by
  subst hB' hP'
  refine (crash_any (fun _ => True) AB cb AP cp f w B P hD.1 hD.2.1 hlB hlB0 hlP hok AK cK K hRL).mono ?_
  rintro e w' ⟨⟨v, rfl, hv⟩, hb⟩
  obtain ⟨AB, cb, AP, cp, rfl, h⟩ := ok_of_vd hv
  exact ⟨⟨AB, cb, AP, cp, rfl, h⟩, hb⟩
theorem c_rcrash (AB : Option Addr) (cb : Nat) (AP : Option Addr) (cp : Nat) (f : Int) (w : World) (B : List (List UInt8)) (P : List PutD) (hD : OkD w AB AP cp B P) (hlB : B.length ≤ 4096) (hlB0 : 0 < B.length) (hlP : P.length ≤ 1000000) (hok : okP B.length P)
    (AK : Option Addr) (cK : Nat) (K : List Bool) (hRL : RL w AK K) (B' : List (List UInt8)) (P' : List PutD) (hB' : layTo B P (keepF K) P.length = B') (hP' : P' = []) :
    Calls Try.prog 28 #[.agg #[.slice AB B.length cb, .slice AP P.length cp, .int .i64 f], .slice AK K.length cK] w fun e w' =>
      (∃ AB' cb' AP' cp', e = .returned (.agg #[.slice AB' B'.length cb', .slice AP' P'.length cp', .int .i64 (-1)]) ∧ OkD w' AB' AP' cp' B' P') ∧ Below w.heap.size w w' := by
  subst hB' hP'
  refine (rcrash_any (fun _ => True) AB cb AP cp f w B P hD.1 hD.2.1 hlB hlB0 hlP hok AK cK K hRL).mono ?_
  rintro e w' ⟨⟨v, rfl, hv⟩, hb⟩
  obtain ⟨AB, cb, AP, cp, rfl, h⟩ := ok_of_vd hv
  exact ⟨⟨AB, cb, AP, cp, rfl, h⟩, hb⟩
theorem c_arm (AB : Option Addr) (nb cb : Nat) (AP : Option Addr) (np cp : Nat) (f n : Int) (w : World) (F : Int) (hF : max n (-1) = F) :
    Calls Try.prog 29 #[.agg #[.slice AB nb cb, .slice AP np cp, .int .i64 f], .int .i64 n] w fun e w' => e = .returned (.agg #[.slice AB nb cb, .slice AP np cp, .int .i64 F]) ∧ Below w.heap.size w w' := by
  subst hF; exact arm_any AB nb cb AP np cp f n w
theorem c_rarm (AB : Option Addr) (nb cb : Nat) (AP : Option Addr) (np cp : Nat) (f n : Int) (w : World) (F : Int) (hF : max n (-1) = F) :
    Calls Try.prog 30 #[.agg #[.slice AB nb cb, .slice AP np cp, .int .i64 f], .int .i64 n] w fun e w' => e = .returned (.agg #[.slice AB nb cb, .slice AP np cp, .int .i64 F]) ∧ Below w.heap.size w w' := by
  subst hF
  rw [show max n (-1) = if n < 0 then -1 else n by split <;> omega]
  exact rarm_any AB nb cb AP np cp f n w
theorem c_off (AB : Option Addr) (nb cb : Nat) (AP : Option Addr) (np cp : Nat) (f : Int) (w : World) (b : Bool) (hb : (f == 0) = b) :
    Calls Try.prog 17 #[.agg #[.slice AB nb cb, .slice AP np cp, .int .i64 f]] w fun e w' => e = .returned (.bool b) ∧ Below w.heap.size w w' := by
  subst hb; exact off_any AB nb cb AP np cp f w
theorem c_right (AB : Option Addr) (cb : Nat) (AP : Option Addr) (cp : Nat) (f : Int) (w : World) (B : List (List UInt8)) (P : List PutD) (hD : OkD w AB AP cp B P) (hlB : B.length ≤ 4096) (hlP : P.length ≤ 1000000) (b : Bool) (hb : rightD B P = b) :
    Calls Try.prog 16 #[.agg #[.slice AB B.length cb, .slice AP P.length cp, .int .i64 f]] w fun e w' => e = .returned (.bool b) ∧ Below w.heap.size w w' := by
  subst hb; exact right_any AB cb AP cp f w B P hD.1.plain hD.2.1.plain (by omega) (by omega)
theorem c_rright (AB : Option Addr) (cb : Nat) (AP : Option Addr) (cp : Nat) (f : Int) (w : World) (B : List (List UInt8)) (P : List PutD) (hD : OkD w AB AP cp B P) (hlB : B.length ≤ 4096) (hlP : P.length ≤ 1000000) (b : Bool) (hb : rightD B P = b) :
    Calls Try.prog 14 #[.agg #[.slice AB B.length cb, .slice AP P.length cp, .int .i64 f]] w fun e w' => e = .returned (.bool b) ∧ Below w.heap.size w w' := by
  subst hb; exact rright_any AB cb AP cp f w B P hD.1.plain hD.2.1.plain (by omega) (by omega)
theorem c_dsame (AB : Option Addr) (cb : Nat) (AP : Option Addr) (cp : Nat) (f : Int) (AB' : Option Addr) (cb' : Nat) (AP' : Option Addr) (cp' : Nat) (f' : Int) (w : World) (B : List (List UInt8)) (P : List PutD) (B' : List (List UInt8)) (P' : List PutD) (hD : OkD w AB AP cp B P) (hD' : OkD w AB' AP' cp' B' P') (hlB : B.length ≤ 4096) (hlP : P.length ≤ 1000000) (b : Bool) (hb : sameD B P f B' P' f' = b) :
    Calls Try.prog 18 #[.agg #[.slice AB B.length cb, .slice AP P.length cp, .int .i64 f], .agg #[.slice AB' B'.length cb', .slice AP' P'.length cp', .int .i64 f']] w fun e w' => e = .returned (.bool b) ∧ Below w.heap.size w w' := by
  subst hb; exact dsame_any AB cb AP cp f AB' cb' AP' cp' f' w B P B' P' hD.1.plain hD.2.1.plain hD'.1.plain hD'.2.1.plain (by omega) (by omega)
theorem c_rsame (AB : Option Addr) (cb : Nat) (AP : Option Addr) (cp : Nat) (f : Int) (AB' : Option Addr) (cb' : Nat) (AP' : Option Addr) (cp' : Nat) (f' : Int) (w : World) (B : List (List UInt8)) (P : List PutD) (B' : List (List UInt8)) (P' : List PutD) (hD : OkD w AB AP cp B P) (hD' : OkD w AB' AP' cp' B' P') (hlB : B.length ≤ 4096) (hlP : P.length ≤ 1000000) (b : Bool) (hb : sameD B P f B' P' f' = b) :
    Calls Try.prog 15 #[.agg #[.slice AB B.length cb, .slice AP P.length cp, .int .i64 f], .agg #[.slice AB' B'.length cb', .slice AP' P'.length cp', .int .i64 f']] w fun e w' => e = .returned (.bool b) ∧ Below w.heap.size w w' := by
  subst hb; exact rsame_any AB cb AP cp f AB' cb' AP' cp' f' w B P B' P' hD.1.plain hD.2.1.plain hD'.1.plain hD'.2.1.plain (by omega) (by omega)
theorem c_same (A : Option Addr) (c : Nat) (x : List UInt8) (A' : Option Addr) (c' : Nat) (y : List UInt8) (w : World) (hx : OkB w A c x) (hy : OkB w A' c' y) (b : Bool) (hb : (x == y) = b) :
    Calls Try.prog 21 #[.slice A x.length c, .slice A' y.length c'] w fun e w' => e = .returned (.bool b) ∧ Below w.heap.size w w' :=
  (same_any' A c x A' c' y w b hx.1.plain hy.1.plain hb).mono fun _ _ h => ⟨h.1, h.2 ▸ Below.refl _ _⟩
end Go.Proofs.Ytkfalgdhpojejaa
