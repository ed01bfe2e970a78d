/- What every call of a pair keeps: its room, its bounds, and what is shut. No program is named here. -/
import Derived.Test.YtndnojbpapjdoaaDoorSockS
import Derived.Laws.Entries
import Derived.RowKit
namespace Go.Sock

structure Keeps (p p' : Pair) : Prop where
  ok : p'.ok
  cut : p'.cut = p.cut
  room : p'.room = p.room
  x : p'.x.shut = p.x.shut
  y : p'.y.shut = p.y.shut
theorem Keeps.refl {p : Pair} (h : p.ok) : Keeps p p := ⟨h, rfl, rfl, rfl, rfl⟩
theorem write_keeps {p : Pair} (h : p.ok) (e : Int) (b : List UInt8) : Keeps p (p.writeR e b).2.2 := by
  unfold Pair.writeR
  split
  · exact .refl h
  split
  · exact .refl h
  split
  · exact .refl h
  obtain ⟨h1, h2, h3⟩ := h
  unfold Pair.write Pair.put Pair.way Pair.takes Pair.way Way.held
  unfold Way.held at h1 h2
  by_cases he : e = 0
  · simp only [he, if_true]
    exact ⟨⟨by simp [Way.held]; omega, h2, h3⟩, rfl, rfl, rfl, rfl⟩
  · simp only [he, if_false]
    exact ⟨⟨h1, by simp [Way.held]; omega, h3⟩, rfl, rfl, rfl, rfl⟩
theorem carry_keeps {p : Pair} (h : p.ok) (e n : Int) : Keeps p (p.carryR e n).2.2 := by
  unfold Pair.carryR
  split
  · exact .refl h
  split
  · exact .refl h
  obtain ⟨h1, h2, h3⟩ := h
  unfold Pair.carry Pair.put Pair.way Way.carry
  unfold Way.held at h1 h2
  by_cases he : e = 0
  · simp only [he, if_true]
    exact ⟨⟨by simp [Way.held]; omega, h2, h3⟩, rfl, rfl, rfl, rfl⟩
  · simp only [he, if_false]
    exact ⟨⟨h1, by simp [Way.held]; omega, h3⟩, rfl, rfl, rfl, rfl⟩
theorem read_keeps {p : Pair} (h : p.ok) (e n : Int) : Keeps p (p.readR e n).2.2 := by
  unfold Pair.readR
  split
  · exact .refl h
  split
  · exact .refl h
  obtain ⟨h1, h2, h3⟩ := h
  unfold Pair.read Pair.put Pair.way
  unfold Way.held at h1 h2
  by_cases he : 1 - e = 0
  · simp only [he, if_true]
    exact ⟨⟨by simp [Way.held]; omega, h2, h3⟩, rfl, rfl, rfl, rfl⟩
  · simp only [he, if_false]
    exact ⟨⟨h1, by simp [Way.held]; omega, h3⟩, rfl, rfl, rfl, rfl⟩
theorem shut_ok {p : Pair} (h : p.ok) (e : Int) : (p.shut e).ok := by
  obtain ⟨h1, h2, h3⟩ := h
  unfold Pair.shut Pair.put Pair.way
  split
  · exact ⟨h1, h2, h3⟩
  · exact ⟨h1, h2, h3⟩
theorem shut_cut (p : Pair) (e : Int) : (p.shut e).cut = p.cut := by
  unfold Pair.shut Pair.put; split <;> rfl
theorem shut_room (p : Pair) (e : Int) : (p.shut e).room = p.room := by
  unfold Pair.shut Pair.put; split <;> rfl
theorem shut_eq {p : Pair} (e : Int) (he : e = 0 ∨ e = 1) (hc : p.cut = false) : p.shutR e = (0, p.shut e) := by
  unfold Pair.shutR
  rw [if_neg (not_not_intro he), if_neg (by simp [hc])]
end Go.Sock
namespace Go.Sp
/-- 'x & 1'. -/
theorem and_one_i64 (x : Int) : ∃ e, bits BinOp.and IntKind.i64 x 1 = e ∧ (e = 0 ∨ e = 1) := by
  refine ⟨_, rfl, ?_⟩
  have h1 : (BitVec.ofInt IntKind.i64.bits x &&& BitVec.ofInt IntKind.i64.bits 1).toNat = (BitVec.ofInt IntKind.i64.bits x).toNat % 2 := by
    rw [BitVec.toNat_and]
    exact Nat.and_one_is_mod _
  unfold bits
  simp only [h1]
  have h2 : (BitVec.ofInt IntKind.i64.bits x).toNat % 2 = 0 ∨ (BitVec.ofInt IntKind.i64.bits x).toNat % 2 = 1 := by omega
  rcases h2 with h | h <;> rw [h]
  · exact .inl rfl
  · exact .inr rfl
end Go.Sp
namespace Go.Sock
theorem room_law {p : Pair} (hp : p.ok) (hc : p.cut = false) (e : Int) (he : e = 0 ∨ e = 1) :
    p.flightR e + p.inboxR (1 - e) ≤ p.room ∧ p.roomR e = if (p.way e).shut then 0 else p.room - (p.flightR e + p.inboxR (1 - e)) := by
  have he' : 1 - e = 0 ∨ 1 - e = 1 := by omega
  have h1 : 1 - (1 - e) = e := by omega
  have h2 := Pair.way_le hp e
  unfold Pair.flightR Pair.inboxR Pair.roomR
  rw [if_neg (not_not_intro he), if_neg (not_not_intro he'), h1]
  refine ⟨h2, ?_⟩
  cases hs : (p.way e).shut
  · rw [if_neg (by simp [he, hc])]
    rfl
  · rw [if_pos (by simp)]
    rfl
end Go.Sock
namespace Go.Sock
/-- What a write answers. -/
theorem write_says (p : Pair) (e : Int) (b : List UInt8) : ∃ (n k : Nat) (p' : Pair), p.writeR e b = ((n : Int).toNat, k, p') ∧ n ≤ b.length ∧ n ≤ p.room ∧ (k ≠ 0 → n = 0) := by
  unfold Pair.writeR
  split
  · exact ⟨0, 1, _, rfl, Nat.zero_le _, Nat.zero_le _, fun _ => rfl⟩
  split
  · exact ⟨0, 5, _, rfl, Nat.zero_le _, Nat.zero_le _, fun _ => rfl⟩
  split
  · exact ⟨0, 17, _, rfl, Nat.zero_le _, Nat.zero_le _, fun _ => rfl⟩
  · exact ⟨_, 0, _, rfl, Nat.min_le_right _ _, Nat.le_trans (Nat.min_le_left _ _) (Nat.sub_le _ _), fun h => (h rfl).elim⟩
theorem read_says (p : Pair) (e n : Int) : ∃ (l : List UInt8) (k : Nat) (p' : Pair), p.readR e n = (l, k, p') := ⟨_, _, _, rfl⟩
theorem write_room (p : Pair) (e : Int) (b : List UInt8) : (p.writeR e b).2.2.room = p.room := by
  unfold Pair.writeR Pair.write Pair.put
  split
  · rfl
  split
  · rfl
  split
  · rfl
  dsimp only
  split <;> rfl
theorem read_room (p : Pair) (e n : Int) : (p.readR e n).2.2.room = p.room := by
  unfold Pair.readR Pair.read Pair.put
  split
  · rfl
  split
  · rfl
  dsimp only
  split <;> rfl
theorem carry_room (p : Pair) (e n : Int) : (p.carryR e n).2.2.room = p.room := by
  unfold Pair.carryR Pair.carry Pair.put
  split
  · rfl
  split
  · rfl
  dsimp only
  split <;> rfl
theorem shutR_room (p : Pair) (e : Int) : (p.shutR e).2.room = p.room := by
  unfold Pair.shutR
  split
  · rfl
  split
  · rfl
  · exact shut_room p e
theorem cuts_room (p : Pair) : p.cuts.room = p.room := by
  unfold Pair.cuts
  split <;> rfl
end Go.Sock
