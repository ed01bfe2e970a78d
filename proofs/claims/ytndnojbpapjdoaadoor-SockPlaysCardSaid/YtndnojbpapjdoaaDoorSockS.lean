/- The document's pair of sockets, in plain words: what package sock holds, and what its calls make of it. No program is named here. -/
namespace Go.Sock

structure Way where
  fl : List UInt8
  inb : List UInt8
  shut : Bool
  ended : Bool
structure Pair where
  room : Nat
  x : Way
  y : Way
  cut : Bool

def Way.new : Way := ⟨[], [], false, false⟩
def Pair.new (room : Nat) : Pair := ⟨room, .new, .new, false⟩
/-- The way from an end. -/
def Pair.way (p : Pair) (e : Int) : Way := if e = 0 then p.x else p.y
def Pair.put (p : Pair) (e : Int) (w : Way) : Pair := if e = 0 then { p with x := w } else { p with y := w }
def Way.held (w : Way) : Nat := w.fl.length + w.inb.length
def Pair.ok (p : Pair) : Prop := p.x.held ≤ p.room ∧ p.y.held ≤ p.room ∧ p.room ≤ 65536
/-- How many bytes a write takes. -/
def Pair.takes (p : Pair) (e : Int) (n : Nat) : Nat := min (p.room - (p.way e).held) n
def Pair.write (p : Pair) (e : Int) (b : List UInt8) : Pair := p.put e { p.way e with fl := (p.way e).fl ++ b.take (p.takes e b.length) }

def Way.carry (y : Way) (n : Nat) : Way := { y with fl := y.fl.drop n, inb := y.inb ++ y.fl.take n }
def Pair.carry (p : Pair) (e : Int) (n : Nat) : Pair := p.put e ((p.way e).carry n)
def Pair.read (p : Pair) (e : Int) (n : Nat) : Pair := p.put (1 - e) { p.way (1 - e) with inb := (p.way (1 - e)).inb.drop n }
def Pair.shut (p : Pair) (e : Int) : Pair := p.put e { p.way e with shut := true }
def Way.cut (y : Way) : Way := { y with fl := [], ended := y.shut && y.fl.isEmpty }
def Pair.cuts (p : Pair) : Pair := if p.cut then p else { p with x := p.x.cut, y := p.y.cut, cut := true }
def Pair.hasEnded (p : Pair) (e : Int) : Bool := let y := p.way (1 - e); if p.cut then y.ended && y.inb.isEmpty else y.shut && y.fl.isEmpty && y.inb.isEmpty

/-- The pair while it is cut: k of its ways are. -/
def Pair.cutN (p : Pair) (k : Nat) : Pair := { p with x := if 0 < k then p.x.cut else p.x, y := if 1 < k then p.y.cut else p.y, cut := true }
/-- What a write answers, the error's number, and the pair behind it. -/
def Pair.writeR (p : Pair) (e : Int) (b : List UInt8) : Nat × Nat × Pair :=
  if ¬ (e = 0 ∨ e = 1) then (0, 1, p) else if p.cut then (0, 5, p) else if (p.way e).shut then (0, 17, p) else (p.takes e b.length, 0, p.write e b)
def Pair.shutR (p : Pair) (e : Int) : Nat × Pair :=
  if ¬ (e = 0 ∨ e = 1) then (1, p) else if p.cut then (5, p) else (0, p.shut e)
def Pair.carryR (p : Pair) (e n : Int) : Nat × Nat × Pair :=
  if ¬ (e = 0 ∨ e = 1) ∨ n < 0 then (0, 1, p) else if p.cut then (0, 5, p) else (min n.toNat (p.way e).fl.length, 0, p.carry e (min n.toNat (p.way e).fl.length))
def Pair.readR (p : Pair) (e n : Int) : List UInt8 × Nat × Pair :=
  if ¬ (e = 0 ∨ e = 1) ∨ n < 0 then ([], 1, p) else if p.cut ∧ (p.way (1 - e)).inb = [] then ([], 5, p)
  else ((p.way (1 - e)).inb.take (min n.toNat (p.way (1 - e)).inb.length), 0, p.read e (min n.toNat (p.way (1 - e)).inb.length))
def Pair.endedR (p : Pair) (e : Int) : Bool := if ¬ (e = 0 ∨ e = 1) then false else p.hasEnded e
def Pair.roomR (p : Pair) (e : Int) : Nat := if ¬ (e = 0 ∨ e = 1) ∨ p.cut ∨ (p.way e).shut then 0 else p.room - (p.way e).held
def Pair.flightR (p : Pair) (e : Int) : Nat := if ¬ (e = 0 ∨ e = 1) then 0 else (p.way e).fl.length
def Pair.inboxR (p : Pair) (e : Int) : Nat := if ¬ (e = 0 ∨ e = 1) then 0 else (p.way (1 - e)).inb.length

theorem Pair.way_le {p : Pair} (h : p.ok) (e : Int) : (p.way e).fl.length + (p.way e).inb.length ≤ p.room := by
  unfold Pair.way; split
  · exact h.1
  · exact h.2.1

theorem Way.cut_held (y : Way) : y.cut.held ≤ y.held := by unfold Way.cut Way.held; simp
theorem Pair.cutN_ok {p : Pair} (h : p.ok) (k : Nat) : (p.cutN k).ok := by
  have h1 := Way.cut_held p.x
  have h2 := Way.cut_held p.y
  obtain ⟨a, b, c⟩ := h
  refine ⟨?_, ?_, c⟩ <;> simp only [Pair.cutN] <;> split <;> omega
theorem Pair.cutN_succ (p : Pair) (k : Nat) (hk : k < 2) : (p.cutN k).put k ((p.cutN k).way k).cut = p.cutN (k + 1) := by
  obtain rfl | rfl : k = 0 ∨ k = 1 := by omega
  · simp [Pair.cutN, Pair.put, Pair.way]
  · simp [Pair.cutN, Pair.put, Pair.way]
end Go.Sock
