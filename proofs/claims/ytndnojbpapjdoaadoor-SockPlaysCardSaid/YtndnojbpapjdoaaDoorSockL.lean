/- The chapter's example: jackfieldlaw03.alive is true. -/
import Derived.Test.YtndnojbpapjdoaaDoorSockE
import Derived.Lib.SlBytesConst
import Derived.LaidEql
namespace Go.Proofs.YtndnojbpapjdoaaDoor
open Go.Sp Go.RowKit

def P0 : Sock.Pair := .new 4
def P1 : Sock.Pair := ⟨4, ⟨[97, 98, 99, 100], [], false, false⟩, .new, false⟩
def P2 : Sock.Pair := ⟨4, ⟨[100], [97, 98, 99], false, false⟩, .new, false⟩
def P3 : Sock.Pair := ⟨4, ⟨[100], [99], false, false⟩, .new, false⟩
def P4 : Sock.Pair := ⟨4, ⟨[], [99], false, false⟩, .new, true⟩
def P5 : Sock.Pair := ⟨4, ⟨[], [], false, false⟩, .new, true⟩
theorem ok0 : P0.ok := ⟨by decide, by decide, by decide⟩
theorem ok1 : P1.ok := ⟨by decide, by decide, by decide⟩
theorem ok2 : P2.ok := ⟨by decide, by decide, by decide⟩
theorem ok3 : P3.ok := ⟨by decide, by decide, by decide⟩
theorem ok4 : P4.ok := ⟨by decide, by decide, by decide⟩
theorem ok5 : P5.ok := ⟨by decide, by decide, by decide⟩

theorem infoE : (Tryd.prog.info? 182).map (fun i => i.comparable) = some true := by kernel_rfl
theorem infoS : (Tryd.prog.info? 206).map (fun i => i.size) = some 1 := by kernel_rfl
theorem err_same (E : Nat → Addr) (k : Nat) (w : World) : (binOp .eql 26 (er E k) (er E k)).run Tryd.prog w = .ok (.bool true) w := by
  obtain ⟨i, hi, hc⟩ := Option.map_eq_some_iff.1 infoE
  obtain ⟨j, hj, _⟩ := Option.map_eq_some_iff.1 infoS
  exact run_eql_iface_ptr_same (w := w) (E k) Tryd.underlying26 Tryd.underlying182 hi hc hj

def abc : List UInt8 := [97, 98, 99, 100, 101, 102]
theorem reads_new (w : World) (l : List UInt8) (e : TypeId) (f : Nat × Nat) (h : l.length ≤ 65536) : Reads (w.alloc (.cells (l.map B).toArray e f)) (.slice (some ⟨w.heap.size, 0, none⟩) l.length l.length) l := by
  refine ⟨some ⟨w.heap.size, 0, none⟩, l.length, rfl, Nat.le_refl _, ?_, (fun h => by cases h), fun ad had j u hu => ?_⟩
  · unfold maxLen; omega
  cases had
  have hadd : (⟨w.heap.size, 0, none⟩ : Addr).add j = ⟨w.heap.size, j, none⟩ := by unfold Addr.add; split <;> simp_all
  rw [hadd, cell_blk (heap_alloc_new w _)]
  simp [hu]

theorem write_to (E : Nat → Addr) (b : Nat) (p p' : Sock.Pair) (e : Int) (w0 w : World) (L : List Asn) (hE : SockErrs E w0) (hp : p.ok) (hS : Sat w0 w (isPair b p :: L)) (v : Value) (bs : List UInt8) (hb : Reads w v bs) (n : Int) (k : Nat) (h : p.writeR e bs = (n.toNat, k, p')) (hn : 0 ≤ n) :
    Calls Tryd.prog 15 #[.pointer (some ⟨b, 0, none⟩), .int .i64 e, v] w fun r w' =>
      r = .returned (.tuple #[.int .i64 n, ev E k]) ∧ Sat w0 w' (isPair b p' :: L) := by
  have := write_any E b p e w0 w L hE hp hS v bs hb
  rw [h] at this
  simp only [Int.toNat_of_nonneg hn] at this
  exact this
theorem carry_to (E : Nat → Addr) (b : Nat) (p p' : Sock.Pair) (e : Int) (w0 w : World) (L : List Asn) (hE : SockErrs E w0) (hp : p.ok) (hS : Sat w0 w (isPair b p :: L)) (m : Int) (n : Int) (k : Nat) (h : p.carryR e m = (n.toNat, k, p')) (hn : 0 ≤ n) :
    Calls Tryd.prog 16 #[.pointer (some ⟨b, 0, none⟩), .int .i64 e, .int .i64 m] w fun r w' =>
      r = .returned (.tuple #[.int .i64 n, ev E k]) ∧ Sat w0 w' (isPair b p' :: L) := by
  have := carry_any E b p e w0 w L hE hp hS m
  rw [h] at this
  simp only [Int.toNat_of_nonneg hn] at this
  exact this
theorem shut_to (E : Nat → Addr) (b : Nat) (p p' : Sock.Pair) (e : Int) (w0 w : World) (L : List Asn) (hE : SockErrs E w0) (hp : p.ok) (hS : Sat w0 w (isPair b p :: L)) (k : Nat) (h : p.shutR e = (k, p')) :
    Calls Tryd.prog 20 #[.pointer (some ⟨b, 0, none⟩), .int .i64 e] w fun r w' =>
      r = .returned (ev E k) ∧ Sat w0 w' (isPair b p' :: L) := by
  have := shut_any E b p e w0 w L hE hp hS
  rw [h] at this
  exact this
theorem read_to (E : Nat → Addr) (b : Nat) (p p' : Sock.Pair) (e : Int) (w0 w : World) (L : List Asn) (hE : SockErrs E w0) (hp : p.ok) (hS : Sat w0 w (isPair b p :: L)) (m : Int) (l : List UInt8) (q k : Nat) (h : p.readR e m = (l, k, p')) (hq : l.length = q) :
    Calls Tryd.prog 18 #[.pointer (some ⟨b, 0, none⟩), .int .i64 e, .int .i64 m] w fun r w' =>
      ∃ a c, r = .returned (.tuple #[.slice a q c, ev E k]) ∧ Sat w0 w' (Bytes 5 (.slice a q c) l :: isPair b p' :: L) := by
  subst hq
  have := read_any E b p e w0 w L hE hp hS m
  rw [h] at this
  refine this.mono fun r w' ⟨v, hr, hS⟩ => ?_
  obtain ⟨a, c, rfl, _⟩ := hS.row_len
  exact ⟨a, c, hr, hS⟩
theorem room_to (b : Nat) (p : Sock.Pair) (e : Int) (w0 w : World) (L : List Asn) (hp : p.ok) (hS : Sat w0 w (isPair b p :: L)) (n : Int) (h : p.roomR e = n.toNat) (hn : 0 ≤ n) : Calls Tryd.prog 23 #[.pointer (some ⟨b, 0, none⟩), .int .i64 e] w fun r w' => r = .returned (.int .i64 n) ∧ Sat w0 w' (isPair b p :: L) := by
  have := room_any b p e w0 w L hS hp
  rw [h] at this
  simp only [Int.toNat_of_nonneg hn] at this
  exact this
theorem flight_to (b : Nat) (p : Sock.Pair) (e : Int) (w0 w : World) (L : List Asn) (hp : p.ok) (hS : Sat w0 w (isPair b p :: L)) (n : Int) (h : p.flightR e = n.toNat) (hn : 0 ≤ n) : Calls Tryd.prog 19 #[.pointer (some ⟨b, 0, none⟩), .int .i64 e] w fun r w' => r = .returned (.int .i64 n) ∧ w = w' := by
  have := flight_any b p e w0 w L hS hp
  rw [h] at this
  simp only [Int.toNat_of_nonneg hn] at this
  exact this
theorem ended_to (b : Nat) (p : Sock.Pair) (e : Int) (w0 w : World) (L : List Asn) (hp : p.ok) (hS : Sat w0 w (isPair b p :: L)) (z : Bool) (h : p.endedR e = z) : Calls Tryd.prog 21 #[.pointer (some ⟨b, 0, none⟩), .int .i64 e] w fun r w' => r = .returned (.bool z) ∧ Sat w0 w' (isPair b p :: L) := by
  subst h
  exact ended_any b p e w0 w L hS hp
theorem cut_to (b : Nat) (p : Sock.Pair) (w0 w : World) (L : List Asn) (hp : p.ok) (hS : Sat w0 w (isPair b p :: L)) (p' : Sock.Pair) (h : p.cuts = p') : Calls Tryd.prog 17 #[.pointer (some ⟨b, 0, none⟩)] w fun r w' => r = .returned (.tuple #[]) ∧ Sat w0 w' (isPair b p' :: L) := by
  subst h
  exact cut_any b p w0 w L hS hp

theorem e01 : P0.writeR 0 abc = ((4 : Int).toNat, 0, P1) := rfl
theorem e12 : P1.carryR 0 3 = ((3 : Int).toNat, 0, P2) := rfl
theorem e23 : P2.readR 1 2 = ([97, 98], 0, P3) := rfl
theorem e3 : P3.roomR 0 = (2 : Int).toNat := rfl
theorem e34 : P3.cuts = P4 := rfl
theorem e45 : P4.readR 1 9 = ([99], 0, P5) := rfl
theorem e55 : P5.readR 1 9 = ([], 5, P5) := rfl

set_option maxRecDepth 100000 in
set_option maxHeartbeats 1000000 in
theorem alive_ok (E : Nat → Addr) (w0 w : World) (L : List Asn) (hE : SockErrs E w0) (hS : Sat w0 w L) :
    Calls Tryd.prog 13 #[] w fun r w' => r = .returned (.bool true) ∧ Sat w0 w' L := by
  have kc := fun (w : World) (C : Array Value) (n c : Nat) => Lib.run_convert_bytes_const (P := Tryd.prog) w 22 5 C n c Tryd.underlying22 Tryd.underlying5
  have hes := err_same E 5
  have hx := old_cell hS hE.broken
  go_enter Tryd.func13, Tryd.ntmps13
  go_wp2_with (first
    | (go_at_call 18; (refine (read_to E b P5 P5 1 w0 _ _ hE ok5 hS7 9 [] 0 5 e55 rfl).mono ?_; rintro r w8 ⟨a8, c8, rfl, hS8⟩; simp only [ev_succ]; have kx := old_cell hS8 hE.broken; have k4 := run_string_of Tryd.underlying22 Tryd.underlying5 Tryd.underlying9 (hS8.pick 3).bytes_reads; have k7 := run_string_of Tryd.underlying22 Tryd.underlying5 Tryd.underlying9 (hS8.pick 2).bytes_reads; replace hes := hes w8))
    | (go_at_call 18; (refine (read_to E b P4 P5 1 w0 _ _ hE ok4 hS6 9 [99] 1 0 e45 rfl).mono ?_; rintro r w7 ⟨a7, c7, rfl, hS7⟩; simp only [ev_zero]; replace hS7 : Sat w0 w7 (isPair b P5 :: Bytes 5 (.slice a7 1 c7) [99] :: Bytes 5 (.slice a4 2 c4) [97, 98] :: L) := hS7.pick 1))
    | (go_at_call 17; go_must (refine (cut_to b P3 w0 _ _ ok3 hS5 P4 e34).mono ?_; rintro r w6 ⟨rfl, hS6⟩))
    | (go_at_call 23; go_must (refine (room_to b P3 0 w0 _ _ ok3 hS4 2 e3 (by decide)).mono ?_; rintro r w5 ⟨rfl, hS5⟩))
    | (go_at_call 18; (refine (read_to E b P2 P3 1 w0 _ _ hE ok2 hS3 2 [97, 98] 2 0 e23 rfl).mono ?_; rintro r w4 ⟨a4, c4, rfl, hS4⟩; simp only [ev_zero]; replace hS4 : Sat w0 w4 (isPair b P3 :: Bytes 5 (.slice a4 2 c4) [97, 98] :: L) := hS4.pick 1))
    | (go_at_call 16; go_must (refine (carry_to E b P1 P2 0 w0 _ _ hE ok1 hS2 3 3 0 e12 (by decide)).mono ?_; rintro r w3 ⟨rfl, hS3⟩; simp only [ev_zero]))
    | (go_at_call 15; go_must (refine (write_to E b P0 P1 0 w0 _ _ hE ok0 ((hS1.alloc _).drop) _ abc (reads_new _ abc _ _ (by decide)) 4 0 e01 (by decide)).mono ?_; rintro r w2 ⟨rfl, hS2⟩; simp only [ev_zero]))
    | (go_at_call 14; go_must (refine (new_ok E 4 w0 _ _ hS (by decide) (by decide)).mono ?_; rintro r w1 ⟨b, rfl, hS1⟩; simp only [ev_zero])))
  go_ret
  exact ⟨rfl, hS8.drop.drop.drop.drop⟩

end Go.Proofs.YtndnojbpapjdoaaDoor
