/- The document's pair of sockets as layer 3's reference keeps it, in plain words, and how it goes along with the pair itself. No program is named here. -/
import Derived.Test.YtndnojbpapjdoaaDoorSockK
namespace Go.Ref3
open Go.Sock

structure RWay where
  all : List UInt8
  car : Nat
  rd : Nat
  shut : Bool
structure RPair where
  room : Nat
  x : RWay
  y : RWay
  cut : Bool
def RWay.new : RWay := ⟨[], 0, 0, false⟩
def RPair.way (m : RPair) (e : Int) : RWay := if e = 0 then m.x else m.y
def RPair.put (m : RPair) (e : Int) (w : RWay) : RPair := if e = 0 then { m with x := w } else { m with y := w }
def known (e : Int) : Prop := e = 0 ∨ e = 1
instance (e : Int) : Decidable (known e) := by unfold known; infer_instance

def RPair.free (m : RPair) (e : Int) : Nat := if ¬ known e ∨ m.cut ∨ (m.way e).shut then 0 else m.room - ((m.way e).all.length - (m.way e).rd)
def RPair.writeR (m : RPair) (e : Int) (b : List UInt8) : Nat × Nat × RPair :=
  if ¬ known e then (0, 1, m) else if m.cut then (0, 5, m) else if (m.way e).shut then (0, 17, m)
  else (min (m.room - ((m.way e).all.length - (m.way e).rd)) b.length, 0, m.put e { m.way e with all := (m.way e).all ++ b.take (min (m.room - ((m.way e).all.length - (m.way e).rd)) b.length) })
def RPair.shutR (m : RPair) (e : Int) : Nat × RPair := if ¬ known e then (1, m) else if m.cut then (5, m) else (0, m.put e { m.way e with shut := true })
def RPair.carryR (m : RPair) (e n : Int) : Nat × Nat × RPair :=
  if ¬ known e ∨ n < 0 then (0, 1, m) else if m.cut then (0, 5, m)
  else (min n.toNat ((m.way e).all.length - (m.way e).car), 0, m.put e { m.way e with car := (m.way e).car + min n.toNat ((m.way e).all.length - (m.way e).car) })
def RPair.takeR (m : RPair) (e n : Int) : List UInt8 × Nat × RPair :=
  if ¬ known e ∨ n < 0 then ([], 1, m) else if m.cut ∧ (m.way (1 - e)).rd = (m.way (1 - e)).car then ([], 5, m)
  else
    let y := m.way (1 - e)
    let k := min n.toNat (y.car - y.rd)
    ((y.all.drop y.rd).take k, 0, m.put (1 - e) { y with rd := y.rd + k })
def RPair.endedR (m : RPair) (e : Int) : Bool := if ¬ known e then false else (m.way (1 - e)).shut && decide ((m.way (1 - e)).rd = (m.way (1 - e)).all.length)
def RPair.flightR (m : RPair) (e : Int) : Nat := if ¬ known e ∨ m.cut then 0 else (m.way e).all.length - (m.way e).car
def RPair.inboxR (m : RPair) (e : Int) : Nat := if ¬ known e then 0 else (m.way (1 - e)).car - (m.way (1 - e)).rd
/-- What the law makes of a way that is cut. -/
def RWay.cut (r : RWay) : RWay := if r.car < r.all.length then { r with shut := false, all := r.all.take r.car } else r
def RPair.cuts (m : RPair) : RPair := if m.cut then m else { m with x := m.x.cut, y := m.y.cut, cut := true }

/-- A way of the reference's is in order. -/
def RWay.ok (r : RWay) (room bound : Nat) : Prop := r.rd ≤ r.car ∧ r.car ≤ r.all.length ∧ r.all.length - r.rd ≤ room ∧ r.all.length ≤ bound
def RPair.ok (m : RPair) (bound : Nat) : Prop := m.x.ok m.room bound ∧ m.y.ok m.room bound ∧ m.room ≤ 65536 ∧ bound ≤ 34359738368
theorem RPair.way_ok {m : RPair} {bound : Nat} (h : m.ok bound) (e : Int) : (m.way e).ok m.room bound := by
  unfold RPair.way
  split
  · exact h.1
  · exact h.2.1

structure SimW (y : Sock.Way) (r : RWay) (cut : Bool) : Prop where
  rd : r.rd ≤ r.car
  car : r.car ≤ r.all.length
  inb : (r.all.take r.car).drop r.rd = y.inb
  up : cut = false → r.all.drop r.car = y.fl ∧ r.shut = y.shut
  down : cut = true → r.car = r.all.length ∧ y.fl = [] ∧ r.shut = y.ended
structure Sim (p : Sock.Pair) (m : RPair) : Prop where
  ok : p.ok
  room : m.room = p.room
  cut : m.cut = p.cut
  x : SimW p.x m.x p.cut
  y : SimW p.y m.y p.cut
theorem Sim.way {p : Sock.Pair} {m : RPair} (h : Sim p m) (e : Int) : SimW (p.way e) (m.way e) p.cut := by
  unfold Sock.Pair.way RPair.way
  split
  · exact h.x
  · exact h.y
theorem Sim.put {p : Sock.Pair} {m : RPair} {e : Int} {y : Sock.Way} {r : RWay} (h : Sim p m) (hk : (p.put e y).ok) (hs : SimW y r p.cut) : Sim (p.put e y) (m.put e r) := by
  unfold Sock.Pair.put RPair.put at *
  split
  · next he => rw [if_pos he] at hk; exact ⟨hk, h.room, h.cut, hs, h.y⟩
  · next he => rw [if_neg he] at hk; exact ⟨hk, h.room, h.cut, h.x, hs⟩
theorem SimW.inb_len {y : Sock.Way} {r : RWay} {cut : Bool} (h : SimW y r cut) : y.inb.length = r.car - r.rd := by
  rw [← h.inb]; have := h.car; simp; omega
theorem SimW.fl_len {y : Sock.Way} {r : RWay} (h : SimW y r false) : y.fl.length = r.all.length - r.car := by
  rw [← (h.up rfl).1]; simp
theorem SimW.held {y : Sock.Way} {r : RWay} (h : SimW y r false) : r.all.length - r.rd = y.held := by
  unfold Sock.Way.held
  have := h.inb_len; have := h.fl_len; have := h.rd; have := h.car
  omega
theorem sim_new (n : Nat) (h : n ≤ 65536) : Sim (.new n) ⟨n, .new, .new, false⟩ :=
  ⟨⟨Nat.zero_le _, Nat.zero_le _, h⟩, rfl, rfl, ⟨Nat.le_refl _, Nat.le_refl _, rfl, fun _ => ⟨rfl, rfl⟩, fun h => by cases h⟩, ⟨Nat.le_refl _, Nat.le_refl _, rfl, fun _ => ⟨rfl, rfl⟩, fun h => by cases h⟩⟩

theorem Sim.ok_ref {p : Sock.Pair} {m : RPair} {bound : Nat} (h : Sim p m) (hx : m.x.all.length ≤ bound) (hy : m.y.all.length ≤ bound) (hb : bound ≤ 34359738368) : m.ok bound := by
  have key : ∀ (y : Sock.Way) (r : RWay), SimW y r p.cut → y.held ≤ p.room → r.all.length - r.rd ≤ m.room := by
    intro y r hs hle
    rw [h.room]
    cases hc : p.cut with
    | false => rw [hc] at hs; rw [hs.held]; exact hle
    | true =>
      rw [hc] at hs
      have h1 := hs.inb_len
      have h2 := (hs.down rfl).1
      unfold Sock.Way.held at hle
      omega
  refine ⟨⟨h.x.rd, h.x.car, key _ _ h.x h.ok.1, hx⟩, ⟨h.y.rd, h.y.car, key _ _ h.y h.ok.2.1, hy⟩, ?_, hb⟩
  rw [h.room]; exact h.ok.2.2

/-- The four things that the law asks at an end. -/
theorem sim_asks {p : Sock.Pair} {m : RPair} (h : Sim p m) (e : Int) : p.roomR e = m.free e ∧ p.flightR e = m.flightR e ∧ p.inboxR e = m.inboxR e ∧ p.endedR e = m.endedR e := by
  have hw := h.way e
  have hw' := h.way (1 - e)
  refine ⟨?_, ?_, ?_, ?_⟩
  · unfold Sock.Pair.roomR RPair.free known
    rw [h.cut, h.room]
    by_cases hk : e = 0 ∨ e = 1
    · cases hc : p.cut with
      | true => simp
      | false =>
        rw [hc] at hw
        rw [(hw.up rfl).2, hw.held]
    · rw [if_pos (.inl hk), if_pos (.inl hk)]
  · unfold Sock.Pair.flightR RPair.flightR known
    rw [h.cut]
    by_cases hk : e = 0 ∨ e = 1
    · rw [if_neg (not_not_intro hk)]
      cases hc : p.cut with
      | true => rw [hc] at hw; simp [(hw.down rfl).2.1]
      | false => rw [hc] at hw; rw [if_neg (by simp [hk]), hw.fl_len]
    · rw [if_pos hk, if_pos (.inl hk)]
  · unfold Sock.Pair.inboxR RPair.inboxR known
    split
    · rfl
    · exact hw'.inb_len
  · unfold Sock.Pair.endedR RPair.endedR known Sock.Pair.hasEnded
    split
    · rfl
    · have hi := hw'.inb_len
      have hc1 := hw'.rd
      have hc2 := hw'.car
      cases hc : p.cut with
      | true =>
        rw [hc] at hw'
        obtain ⟨h1, h2, h3⟩ := hw'.down rfl
        simp only [if_true, h3]
        cases (p.way (1 - e)).ended
        · rfl
        · simp only [Bool.true_and]
          rw [Bool.eq_iff_iff, List.isEmpty_iff, decide_eq_true_iff, ← List.length_eq_zero_iff]
          omega
      | false =>
        rw [hc] at hw'
        have h2 := hw'.fl_len
        simp only [(hw'.up rfl).2]
        cases (p.way (1 - e)).shut
        · rfl
        · simp only [Bool.true_and, Bool.false_eq_true, if_false]
          rw [Bool.eq_iff_iff, Bool.and_eq_true, List.isEmpty_iff, List.isEmpty_iff, decide_eq_true_iff, ← List.length_eq_zero_iff, ← List.length_eq_zero_iff]
          omega
theorem SimW.grow {y : Sock.Way} {r : RWay} (h : SimW y r false) (b : List UInt8) : SimW { y with fl := y.fl ++ b } { r with all := r.all ++ b } false := by
  have hc := h.car
  refine ⟨h.rd, ?_, ?_, fun _ => ⟨?_, (h.up rfl).2⟩, fun h => by cases h⟩
  · simp only [List.length_append]; omega
  · simp only [List.take_append_of_le_length hc]; exact h.inb
  · simp only [List.drop_append_of_le_length hc, (h.up rfl).1]
theorem SimW.carry {y : Sock.Way} {r : RWay} (h : SimW y r false) (k : Nat) (hk : k ≤ y.fl.length) : SimW (y.carry k) { r with car := r.car + k } false := by
  have h1 := h.fl_len
  have h2 := h.rd
  have h3 := h.car
  have ht : r.all.take (r.car + k) = r.all.take r.car ++ y.fl.take k := by rw [List.take_add, (h.up rfl).1]
  refine ⟨by simp only; omega, by simp only; omega, ?_, fun _ => ⟨?_, (h.up rfl).2⟩, fun h => by cases h⟩
  · simp only [ht, Way.carry, ← h.inb]
    rw [List.drop_append_of_le_length (by simp; omega)]
  · simp only [Way.carry, ← (h.up rfl).1, List.drop_drop]
theorem SimW.read {y : Sock.Way} {r : RWay} {cut : Bool} (h : SimW y r cut) (k : Nat) (hk : k ≤ r.car - r.rd) : SimW { y with inb := y.inb.drop k } { r with rd := r.rd + k } cut := by
  have h2 := h.rd
  refine ⟨by simp only; omega, h.car, ?_, h.up, h.down⟩
  simp only [← h.inb, List.drop_drop]
theorem sim_write {p : Sock.Pair} {m : RPair} (h : Sim p m) (e : Int) (b : List UInt8) :
    (p.writeR e b).1 = (m.writeR e b).1 ∧ (p.writeR e b).2.1 = (m.writeR e b).2.1 ∧ Sim (p.writeR e b).2.2 (m.writeR e b).2.2 := by
  have hw := h.way e
  have hk := (write_keeps h.ok e b).ok
  have hcut := h.cut
  unfold Sock.Pair.writeR RPair.writeR known at *
  by_cases he : e = 0 ∨ e = 1
  case neg => rw [if_pos he, if_pos he]; exact ⟨rfl, rfl, h⟩
  rw [if_neg (not_not_intro he), if_neg (not_not_intro he)]
  rw [if_neg (not_not_intro he)] at hk
  by_cases hc : p.cut = true
  case pos => rw [if_pos hc, if_pos (hcut.trans hc)]; exact ⟨rfl, rfl, h⟩
  have hc' : p.cut = false := by simpa using hc
  rw [if_neg hc] at hk
  rw [if_neg hc, if_neg (show ¬ (m.cut = true) by rw [hcut]; exact hc)]
  rw [hc'] at hw
  have hsm := (hw.up rfl).2
  by_cases hs : (p.way e).shut = true
  case pos => rw [if_pos hs, if_pos (hsm.trans hs)]; exact ⟨rfl, rfl, h⟩
  rw [if_neg hs] at hk
  rw [if_neg hs, if_neg (show ¬ ((m.way e).shut = true) by rw [hsm]; exact hs), h.room, hw.held]
  refine ⟨rfl, rfl, h.put hk ?_⟩
  rw [hc']
  exact hw.grow _
theorem sim_shut {p : Sock.Pair} {m : RPair} (h : Sim p m) (e : Int) : (p.shutR e).1 = (m.shutR e).1 ∧ Sim (p.shutR e).2 (m.shutR e).2 := by
  have hw := h.way e
  have hcut := h.cut
  unfold Sock.Pair.shutR RPair.shutR known
  by_cases he : e = 0 ∨ e = 1
  case neg => rw [if_pos he, if_pos he]; exact ⟨rfl, h⟩
  rw [if_neg (not_not_intro he), if_neg (not_not_intro he)]
  by_cases hc : p.cut = true
  case pos => rw [if_pos hc, if_pos (hcut.trans hc)]; exact ⟨rfl, h⟩
  have hc' : p.cut = false := by simpa using hc
  rw [if_neg hc, if_neg (show ¬ (m.cut = true) by rw [hcut]; exact hc)]
  rw [hc'] at hw
  refine ⟨rfl, h.put (shut_ok h.ok e) ?_⟩
  rw [hc']
  exact ⟨hw.rd, hw.car, hw.inb, fun _ => ⟨(hw.up rfl).1, rfl⟩, fun h => by cases h⟩
theorem sim_carry {p : Sock.Pair} {m : RPair} (h : Sim p m) (e n : Int) : (p.carryR e n).1 = (m.carryR e n).1 ∧ (p.carryR e n).2.1 = (m.carryR e n).2.1 ∧ Sim (p.carryR e n).2.2 (m.carryR e n).2.2 := by
  have hw := h.way e
  have hk := (carry_keeps h.ok e n).ok
  have hcut := h.cut
  unfold Sock.Pair.carryR RPair.carryR known at *
  by_cases he : (¬ (e = 0 ∨ e = 1)) ∨ n < 0
  case pos => rw [if_pos he, if_pos he]; exact ⟨rfl, rfl, h⟩
  rw [if_neg he, if_neg he]
  rw [if_neg he] at hk
  by_cases hc : p.cut = true
  case pos => rw [if_pos hc, if_pos (hcut.trans hc)]; exact ⟨rfl, rfl, h⟩
  have hc' : p.cut = false := by simpa using hc
  rw [if_neg hc] at hk
  rw [if_neg hc, if_neg (show ¬ (m.cut = true) by rw [hcut]; exact hc)]
  rw [hc'] at hw
  rw [← hw.fl_len]
  refine ⟨rfl, rfl, h.put hk ?_⟩
  rw [hc']
  exact hw.carry _ (Nat.min_le_right _ _)
theorem sim_take {p : Sock.Pair} {m : RPair} (h : Sim p m) (e n : Int) : (p.readR e n).1 = (m.takeR e n).1 ∧ (p.readR e n).2.1 = (m.takeR e n).2.1 ∧ Sim (p.readR e n).2.2 (m.takeR e n).2.2 := by
  have hw := h.way (1 - e)
  have hk := (read_keeps h.ok e n).ok
  have hi := hw.inb_len
  have h2 := hw.rd
  have h3 := hw.car
  have hcut := h.cut
  unfold Sock.Pair.readR RPair.takeR known at *
  by_cases he : (¬ (e = 0 ∨ e = 1)) ∨ n < 0
  case pos => rw [if_pos he, if_pos he]; exact ⟨rfl, rfl, h⟩
  rw [if_neg he, if_neg he]
  rw [if_neg he] at hk
  have hiff : (p.cut = true ∧ (p.way (1 - e)).inb = []) ↔ (m.cut = true ∧ (m.way (1 - e)).rd = (m.way (1 - e)).car) := by
    rw [← List.length_eq_zero_iff, hcut]
    constructor
    · rintro ⟨a, b⟩; exact ⟨a, by omega⟩
    · rintro ⟨a, b⟩; exact ⟨a, by omega⟩
  by_cases hc : p.cut = true ∧ (p.way (1 - e)).inb = []
  case pos => rw [if_pos hc, if_pos (hiff.1 hc)]; exact ⟨rfl, rfl, h⟩
  rw [if_neg hc, if_neg (fun q => hc (hiff.2 q))]
  rw [if_neg hc] at hk
  rw [hi]
  rw [hi] at hk
  refine ⟨?_, rfl, h.put hk (hw.read _ (Nat.min_le_right _ _))⟩
  show (p.way (1 - e)).inb.take _ = ((m.way (1 - e)).all.drop (m.way (1 - e)).rd).take _
  rw [← hw.inb, List.drop_take, List.take_take]
  congr 1
  omega
theorem SimW.cut {y : Sock.Way} {r : RWay} (h : SimW y r false) : SimW y.cut r.cut true := by
  have h1 := h.rd
  have h2 := h.car
  have h3 := h.fl_len
  unfold RWay.cut
  by_cases hl : r.car < r.all.length
  · rw [if_pos hl]
    refine ⟨h1, ?_, ?_, (fun h => by cases h), fun _ => ⟨?_, rfl, ?_⟩⟩
    · simp only [List.length_take]; omega
    · show ((r.all.take r.car).take r.car).drop r.rd = y.inb
      rw [List.take_take, Nat.min_self]; exact h.inb
    · simp only [List.length_take]; omega
    · show false = (y.shut && y.fl.isEmpty)
      have : y.fl.isEmpty = false := by
        rw [Bool.eq_false_iff]
        intro hh
        rw [List.isEmpty_iff, ← List.length_eq_zero_iff] at hh
        omega
      rw [this, Bool.and_false]
  · rw [if_neg hl]
    refine ⟨h1, h2, h.inb, (fun h => by cases h), fun _ => ⟨by omega, rfl, ?_⟩⟩
    show r.shut = (y.shut && y.fl.isEmpty)
    have : y.fl.isEmpty = true := by
      rw [List.isEmpty_iff, ← List.length_eq_zero_iff]
      omega
    rw [this, Bool.and_true]
    exact (h.up rfl).2
theorem sim_cuts {p : Sock.Pair} {m : RPair} (h : Sim p m) : Sim p.cuts m.cuts := by
  unfold Sock.Pair.cuts RPair.cuts
  rw [h.cut]
  cases hc : p.cut
  case true => exact h
  have hx := h.x
  have hy := h.y
  have hok := h.ok
  rw [hc] at hx hy
  have h1 := Way.cut_held p.x
  have h2 := Way.cut_held p.y
  obtain ⟨a, b, c⟩ := hok
  exact ⟨⟨Nat.le_trans h1 a, Nat.le_trans h2 b, c⟩, h.room, rfl, hx.cut, hy.cut⟩
end Go.Ref3
namespace Go.Ref3
open Go.Sock
theorem sim_write' {p : Sock.Pair} {m : RPair} (h : Sim p m) (e : Int) (b : List UInt8) : ∃ (n k : Nat) (p' : Sock.Pair) (m' : RPair), p.writeR e b = ((n : Int).toNat, k, p') ∧ m.writeR e b = (n, k, m') ∧ Sim p' m' ∧ k ≤ 18 ∧
    m'.x.all.length ≤ m.x.all.length + 65536 ∧ m'.y.all.length ≤ m.y.all.length + 65536 := by
  obtain ⟨h1, h2, h3⟩ := sim_write h e b
  refine ⟨(p.writeR e b).1, (p.writeR e b).2.1, (p.writeR e b).2.2, (m.writeR e b).2.2, rfl, ?_, h3, ?_, ?_, ?_⟩
  · rw [h1, h2]
  · unfold Sock.Pair.writeR
    split
    · show 1 ≤ 18; decide
    split
    · show 5 ≤ 18; decide
    split
    · show 17 ≤ 18; decide
    · exact Nat.zero_le _
  all_goals
    have hr : m.room ≤ 65536 := by rw [h.room]; exact h.ok.2.2
    unfold RPair.writeR
    split
    · exact Nat.le_add_right _ _
    split
    · exact Nat.le_add_right _ _
    split
    · exact Nat.le_add_right _ _
    unfold RPair.put RPair.way
    split
    · simp only [List.length_append, List.length_take]; omega
    · simp only [List.length_append, List.length_take]; omega
theorem sim_shut' {p : Sock.Pair} {m : RPair} (h : Sim p m) (e : Int) : ∃ (k : Nat) (p' : Sock.Pair) (m' : RPair), p.shutR e = (k, p') ∧ m.shutR e = (k, m') ∧ Sim p' m' ∧ k ≤ 18 ∧ m'.x.all = m.x.all ∧ m'.y.all = m.y.all := by
  obtain ⟨h1, h2⟩ := sim_shut h e
  refine ⟨(p.shutR e).1, (p.shutR e).2, (m.shutR e).2, rfl, by rw [h1], h2, ?_, ?_, ?_⟩
  · unfold Sock.Pair.shutR
    split
    · first | (show 1 ≤ 18; decide) | (show 5 ≤ 18; decide)
    split
    · first | (show 1 ≤ 18; decide) | (show 5 ≤ 18; decide)
    · exact Nat.zero_le _
  all_goals
    unfold RPair.shutR
    split
    · rfl
    split
    · rfl
    unfold RPair.put RPair.way
    split <;> rfl
theorem sim_carry' {p : Sock.Pair} {m : RPair} (h : Sim p m) (e n : Int) : ∃ (c k : Nat) (p' : Sock.Pair) (m' : RPair), p.carryR e n = ((c : Int).toNat, k, p') ∧ m.carryR e n = (c, k, m') ∧ Sim p' m' ∧ k ≤ 18 ∧ m'.x.all = m.x.all ∧ m'.y.all = m.y.all := by
  obtain ⟨h1, h2, h3⟩ := sim_carry h e n
  refine ⟨(p.carryR e n).1, (p.carryR e n).2.1, (p.carryR e n).2.2, (m.carryR e n).2.2, rfl, by rw [h1, h2], h3, ?_, ?_, ?_⟩
  · unfold Sock.Pair.carryR
    split
    · first | (show 1 ≤ 18; decide) | (show 5 ≤ 18; decide)
    split
    · first | (show 1 ≤ 18; decide) | (show 5 ≤ 18; decide)
    · exact Nat.zero_le _
  all_goals
    unfold RPair.carryR
    split
    · rfl
    split
    · rfl
    unfold RPair.put RPair.way
    split <;> rfl
theorem sim_take' {p : Sock.Pair} {m : RPair} (h : Sim p m) (e n : Int) : ∃ (l : List UInt8) (k : Nat) (p' : Sock.Pair) (m' : RPair), p.readR e n = (l, k, p') ∧ m.takeR e n = (l, k, m') ∧ Sim p' m' ∧ k ≤ 18 ∧ m'.x.all = m.x.all ∧ m'.y.all = m.y.all := by
  obtain ⟨h1, h2, h3⟩ := sim_take h e n
  refine ⟨(p.readR e n).1, (p.readR e n).2.1, (p.readR e n).2.2, (m.takeR e n).2.2, rfl, by rw [h1, h2], h3, ?_, ?_, ?_⟩
  · unfold Sock.Pair.readR
    split
    · first | (show 1 ≤ 18; decide) | (show 5 ≤ 18; decide)
    split
    · first | (show 1 ≤ 18; decide) | (show 5 ≤ 18; decide)
    · exact Nat.zero_le _
  all_goals
    unfold RPair.takeR
    split
    · rfl
    split
    · rfl
    unfold RPair.put RPair.way
    dsimp only
    split <;> rfl
theorem cuts_len (m : RPair) : m.cuts.x.all.length ≤ m.x.all.length ∧ m.cuts.y.all.length ≤ m.y.all.length := by
  unfold RPair.cuts
  split
  · exact ⟨Nat.le_refl _, Nat.le_refl _⟩
  · unfold RWay.cut
    constructor
    all_goals
      dsimp only
      split
      · simp only [List.length_take]; omega
      · exact Nat.le_refl _
end Go.Ref3
