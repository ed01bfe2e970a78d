/- What was written and what was read, beside a pair: what an end reads is a beginning of what the other one wrote. No program is named here. -/
import Derived.Test.YtndnojbpapjdoaaDoorSockK
namespace Go.Sock

/-- A way, all that was written to it, and all that was read from it. -/
def Way.tracks (y : Way) (cut : Bool) (room : Nat) (W R : List UInt8) : Prop :=
  ∃ lost, W = R ++ y.inb ++ lost ∧ y.inb.length + lost.length ≤ room ∧ (cut = false → lost = y.fl) ∧ (cut = true → y.ended = true → lost = [])
structure Tracks (p : Pair) (W0 W1 R0 R1 : List UInt8) : Prop where
  ok : p.ok
  x : p.x.tracks p.cut p.room W0 R1
  y : p.y.tracks p.cut p.room W1 R0

theorem tracks_new (n : Nat) (h : n ≤ 65536) : Tracks (.new n) [] [] [] [] :=
  ⟨⟨Nat.zero_le _, Nat.zero_le _, h⟩, ⟨[], rfl, Nat.zero_le _, fun _ => rfl, fun h => by cases h⟩, ⟨[], rfl, Nat.zero_le _, fun _ => rfl, fun h => by cases h⟩⟩

/-- The four things that the law asks of a way. -/
theorem Way.tracks_asks {y : Way} {cut : Bool} {room : Nat} {W R : List UInt8} (h : y.tracks cut room W R) :
    R.length ≤ W.length ∧ W.take R.length = R ∧ W.length - R.length ≤ room ∧
      ((if cut then y.ended && y.inb.isEmpty else y.shut && y.fl.isEmpty && y.inb.isEmpty) = true → W.length = R.length) := by
  obtain ⟨lost, rfl, h1, h2, h3⟩ := h
  refine ⟨by simp only [List.length_append]; omega, by simp [List.append_assoc], by simp only [List.length_append]; omega, ?_⟩
  cases cut
  · intro he
    simp only [Bool.false_eq_true, if_false, Bool.and_eq_true, List.isEmpty_iff] at he
    simp [h2 rfl, he.1.2, he.2]
  · intro he
    simp only [if_true, Bool.and_eq_true, List.isEmpty_iff] at he
    simp [h3 rfl he.1, he.2]

theorem tracks_write {p : Pair} {W0 W1 R0 R1 : List UInt8} (h : Tracks p W0 W1 R0 R1) (e : Int) (he : e = 0 ∨ e = 1) (b : List UInt8) :
    Tracks (p.writeR e b).2.2 (if e = 0 then W0 ++ b.take (p.writeR e b).1 else W0) (if e = 0 then W1 else W1 ++ b.take (p.writeR e b).1) R0 R1 := by
  have hk := write_keeps h.ok e b
  have nothing : Tracks p (if e = 0 then W0 ++ b.take 0 else W0) (if e = 0 then W1 else W1 ++ b.take 0) R0 R1 := by
    simpa using h
  refine ⟨hk.ok, ?_, ?_⟩
  all_goals
    unfold Pair.writeR at hk ⊢
    rw [if_neg (not_not_intro he)] at hk ⊢
    cases hc : p.cut
    case true => simp only [if_true]; first | exact hc ▸ nothing.x | exact hc ▸ nothing.y
    cases hs : (p.way e).shut
    case true => simp only [if_true, Bool.false_eq_true, if_false]; first | exact hc ▸ nothing.x | exact hc ▸ nothing.y
    rw [hc, hs] at hk
    simp only [Bool.false_eq_true, if_false] at hk ⊢
  · obtain ⟨lost, h1, h2, h3, h4⟩ := h.x
    have hl := h3 hc
    have hb := hk.ok.1
    unfold Pair.write Pair.put Pair.way at hb ⊢
    by_cases h0 : e = 0
    · simp only [h0, if_true] at hb ⊢
      refine ⟨p.x.fl ++ b.take (p.takes 0 b.length), by rw [h1, hl]; simp, ?_, fun _ => rfl, fun h => by rw [hc] at h; cases h⟩
      unfold Way.held at hb
      simp only at hb ⊢
      omega
    · simp only [h0, if_false] at hb ⊢
      exact ⟨lost, h1, h2, h3, h4⟩
  · obtain ⟨lost, h1, h2, h3, h4⟩ := h.y
    have hl := h3 hc
    have hb := hk.ok.2.1
    unfold Pair.write Pair.put Pair.way at hb ⊢
    by_cases h0 : e = 0
    · simp only [h0, if_true] at hb ⊢
      exact ⟨lost, h1, h2, h3, h4⟩
    · simp only [h0, if_false] at hb ⊢
      refine ⟨p.y.fl ++ b.take (p.takes e b.length), by rw [h1, hl]; simp, ?_, fun _ => rfl, fun h => by rw [hc] at h; cases h⟩
      unfold Way.held at hb
      simp only at hb ⊢
      omega

theorem tracks_carry {p : Pair} {W0 W1 R0 R1 : List UInt8} (h : Tracks p W0 W1 R0 R1) (e n : Int) : Tracks (p.carryR e n).2.2 W0 W1 R0 R1 := by
  have hk := carry_keeps h.ok e n
  refine ⟨hk.ok, ?_, ?_⟩
  all_goals
    clear hk
    unfold Pair.carryR
    split
    · first | exact h.x | exact h.y
    cases hc : p.cut
    case true => simp only [if_true]; first | exact h.x | exact h.y
    simp only [Bool.false_eq_true, if_false]
    unfold Pair.carry Pair.put
  · obtain ⟨lost, h1, h2, h3, h4⟩ := h.x
    obtain rfl := h3 hc
    by_cases h0 : e = 0
    · simp only [h0, if_true]
      refine ⟨p.x.fl.drop (min n.toNat (p.way 0).fl.length), ?_, ?_, fun _ => rfl, fun h => by rw [hc] at h; cases h⟩
      · rw [h1]
        simp [Way.carry, Pair.way]
      · simp [Way.carry, Pair.way]; omega
    · simp only [h0, if_false]
      exact ⟨_, h1, h2, fun _ => rfl, fun h => by rw [hc] at h; cases h⟩
  · obtain ⟨lost, h1, h2, h3, h4⟩ := h.y
    obtain rfl := h3 hc
    by_cases h0 : e = 0
    · simp only [h0, if_true]
      exact ⟨_, h1, h2, fun _ => rfl, fun h => by rw [hc] at h; cases h⟩
    · simp only [h0, if_false]
      refine ⟨p.y.fl.drop (min n.toNat (p.way e).fl.length), ?_, ?_, fun _ => by simp [Way.carry, Pair.way, h0], fun h => by rw [hc] at h; cases h⟩
      · rw [h1]
        simp [Way.carry, Pair.way, h0]
      · simp [Way.carry, Pair.way, h0]; omega

theorem tracks_read {p : Pair} {W0 W1 R0 R1 : List UInt8} (h : Tracks p W0 W1 R0 R1) (e n : Int) (he : e = 0 ∨ e = 1) :
    Tracks (p.readR e n).2.2 W0 W1 (if e = 0 then R0 ++ (p.readR e n).1 else R0) (if e = 0 then R1 else R1 ++ (p.readR e n).1) := by
  have hk := read_keeps h.ok e n
  have nothing : Tracks p W0 W1 (if e = 0 then R0 ++ [] else R0) (if e = 0 then R1 else R1 ++ []) := by simpa using h
  refine ⟨hk.ok, ?_, ?_⟩
  all_goals
    clear hk
    unfold Pair.readR
    split
    · first | exact nothing.x | exact nothing.y
    split
    · first | exact nothing.x | exact nothing.y
    unfold Pair.read Pair.put
  · obtain ⟨lost, h1, h2, h3, h4⟩ := h.x
    rcases he with rfl | rfl
    · simp only [Int.sub_zero, Int.reduceEq, if_true, if_false]
      exact ⟨lost, h1, h2, h3, h4⟩
    · simp only [Int.sub_self, Int.reduceEq, if_true, if_false]
      refine ⟨lost, ?_, ?_, h3, h4⟩
      · rw [h1]
        simp [Pair.way]
      · simp [Pair.way]; omega
  · obtain ⟨lost, h1, h2, h3, h4⟩ := h.y
    rcases he with rfl | rfl
    · simp only [Int.sub_zero, Int.reduceEq, if_true, if_false]
      refine ⟨lost, ?_, ?_, h3, h4⟩
      · rw [h1]
        simp [Pair.way]
      · simp [Pair.way]; omega
    · simp only [Int.sub_self, Int.reduceEq, if_true, if_false]
      exact ⟨lost, h1, h2, h3, h4⟩

theorem tracks_shut {p : Pair} {W0 W1 R0 R1 : List UInt8} (h : Tracks p W0 W1 R0 R1) (e : Int) : Tracks (p.shutR e).2 W0 W1 R0 R1 := by
  unfold Pair.shutR
  split
  · exact h
  split
  · exact h
  refine ⟨shut_ok h.ok e, ?_, ?_⟩
  · have := h.x
    unfold Pair.shut Pair.put
    split
    · next h0 => subst h0; exact this
    · exact this
  · have := h.y
    unfold Pair.shut Pair.put
    split
    · exact this
    · next h0 => simpa [Pair.way, h0, Way.tracks] using this

theorem Way.cut_tracks {y : Way} {room : Nat} {W R : List UInt8} (h : y.tracks false room W R) : y.cut.tracks true room W R := by
  obtain ⟨lost, h1, h2, h3, _⟩ := h
  obtain rfl := h3 rfl
  refine ⟨y.fl, h1, h2, (fun h => by cases h), fun _ he => ?_⟩
  simp only [Way.cut, Bool.and_eq_true, List.isEmpty_iff] at he
  exact he.2
theorem tracks_cut {p : Pair} {W0 W1 R0 R1 : List UInt8} (h : Tracks p W0 W1 R0 R1) : Tracks p.cuts W0 W1 R0 R1 := by
  unfold Pair.cuts
  cases hc : p.cut
  case true => exact h
  have hx := h.x
  have hy := h.y
  have hok := h.ok
  rw [hc] at hx hy
  have h1 := Way.cut_held p.x
  have h2 := Way.cut_held p.y
  obtain ⟨a, b, c⟩ := hok
  exact ⟨⟨Nat.le_trans h1 a, Nat.le_trans h2 b, c⟩, Way.cut_tracks hx, Way.cut_tracks hy⟩
/-- What the law asks at an end. -/
theorem tracks_asks {p : Pair} {W0 W1 R0 R1 : List UInt8} (h : Tracks p W0 W1 R0 R1) :
    (R0.length ≤ W1.length ∧ W1.take R0.length = R0 ∧ W1.length - R0.length ≤ p.room ∧ (p.endedR 0 = true → W1.length = R0.length)) ∧
    (R1.length ≤ W0.length ∧ W0.take R1.length = R1 ∧ W0.length - R1.length ≤ p.room ∧ (p.endedR 1 = true → W0.length = R1.length)) :=
  ⟨Way.tracks_asks h.y, Way.tracks_asks h.x⟩
theorem Tracks.short0 {p : Pair} {W0 W1 R0 R1 : List UInt8} (h : Tracks p W0 W1 R0 R1) : R0.length ≤ W1.length := (tracks_asks h).1.1
theorem Tracks.short1 {p : Pair} {W0 W1 R0 R1 : List UInt8} (h : Tracks p W0 W1 R0 R1) : R1.length ≤ W0.length := (tracks_asks h).2.1
theorem read_len {p : Pair} (hp : p.ok) (e n : Int) : (p.readR e n).1.length ≤ 65536 := by
  have h1 := Pair.way_le hp (1 - e)
  have h2 := hp.2.2
  unfold Pair.readR
  split
  · simp
  split
  · simp
  · simp only [List.length_take]; omega
end Go.Sock
