/- The law SockEnds: jackfieldlaw03.SockEnds answers true, whatever it is handed. -/
import Derived.Test.YtndnojbpapjdoaaDoorSockL
namespace Go.Proofs.YtndnojbpapjdoaaDoor
open Go.Sp Go.RowKit

theorem Reads.old {w0 w : World} {L : List Asn} {v : Value} {l : List UInt8} (h : Reads w0 v l) (hS : Sat w0 w L) : Reads w v l := by
  obtain ⟨a, c, rfl, h1, h2, h3, h4⟩ := h
  exact ⟨a, c, rfl, h1, h2, h3, fun ad had j u hu => old_cell hS (h4 ad had j u hu)⟩

section
variable (s : List UInt8)
def A1 : Sock.Pair := ⟨65536, ⟨s, [], false, false⟩, .new, false⟩
def A2 : Sock.Pair := ⟨65536, ⟨s, [], true, false⟩, .new, false⟩
def A3 : Sock.Pair := ⟨65536, ⟨s.drop (s.length - 1), s.take (s.length - 1), true, false⟩, .new, false⟩
def A4 : Sock.Pair := ⟨65536, ⟨[], s.take (s.length - 1), true, false⟩, .new, true⟩
def A6 : Sock.Pair := ⟨65536, ⟨[], s, true, false⟩, .new, false⟩
def A7 : Sock.Pair := ⟨65536, ⟨[], [], true, false⟩, .new, false⟩
def A8 : Sock.Pair := ⟨65536, ⟨[], [], true, true⟩, .new, true⟩
theorem A_ok0 : (Sock.Pair.new (Int.toNat 65536)).ok := ⟨by decide, by decide, by decide⟩
theorem A_ok1 (h1 : 1 ≤ s.length) (h2 : s.length ≤ 60000) : (A1 s).ok := ⟨by simp [A1, Sock.Way.held]; omega, Nat.zero_le _, Nat.le_refl _⟩
theorem A_ok2 (h1 : 1 ≤ s.length) (h2 : s.length ≤ 60000) : (A2 s).ok := ⟨by simp [A2, Sock.Way.held]; omega, Nat.zero_le _, Nat.le_refl _⟩
theorem A_ok3 (h1 : 1 ≤ s.length) (h2 : s.length ≤ 60000) : (A3 s).ok := ⟨by simp [A3, Sock.Way.held]; omega, Nat.zero_le _, Nat.le_refl _⟩
theorem A_ok4 (h1 : 1 ≤ s.length) (h2 : s.length ≤ 60000) : (A4 s).ok := ⟨by simp [A4, Sock.Way.held]; omega, Nat.zero_le _, Nat.le_refl _⟩
theorem A_ok6 (h1 : 1 ≤ s.length) (h2 : s.length ≤ 60000) : (A6 s).ok := ⟨by simp [A6, Sock.Way.held]; omega, Nat.zero_le _, Nat.le_refl _⟩
theorem A_ok7 : A7.ok := ⟨by decide, by decide, by decide⟩
theorem A_ok8 : A8.ok := ⟨by decide, by decide, by decide⟩
theorem A_01 (h1 : 1 ≤ s.length) (h2 : s.length ≤ 60000) : (Sock.Pair.new (Int.toNat 65536)).writeR 0 s = ((s.length : Int).toNat, 0, A1 s) := by
  have h3 : min 65536 s.length = s.length := by omega
  simp [Sock.Pair.writeR, Sock.Pair.new, Sock.Pair.way, Sock.Way.new, Sock.Pair.takes, Sock.Way.held, Sock.Pair.write, Sock.Pair.put, A1, h3]
theorem A_ne (h1 : 1 ≤ s.length) (h2 : s.length ≤ 60000) : s.isEmpty = false := by cases s with | nil => simp at h1 | cons => rfl
theorem A_1e : (A1 s).endedR 1 = false := by simp [Sock.Pair.endedR, Sock.Pair.hasEnded, A1, Sock.Pair.way]
theorem A_12 : (A1 s).shutR 0 = (0, A2 s) := by simp [Sock.Pair.shutR, Sock.Pair.shut, A1, A2, Sock.Pair.way, Sock.Pair.put]
theorem A_2e (h1 : 1 ≤ s.length) (h2 : s.length ≤ 60000) : (A2 s).endedR 1 = false := by simp [Sock.Pair.endedR, Sock.Pair.hasEnded, A2, Sock.Pair.way]; intro h; subst h; simp at h1
theorem A_23 (h1 : 1 ≤ s.length) (h2 : s.length ≤ 60000) : (A2 s).carryR 0 ((s.length : Int) - 1) = (((s.length : Int) - 1).toNat, 0, A3 s) := by
  have h3 : ¬ ((s.length : Int) - 1 < 0) := by omega
  have h4 : ((s.length : Int) - 1).toNat = s.length - 1 := by omega
  have h5 : min (s.length - 1) s.length = s.length - 1 := by omega
  simp [Sock.Pair.carryR, Sock.Pair.carry, Sock.Way.carry, A2, A3, Sock.Pair.way, Sock.Pair.put, h3, h4, h5]
theorem A_34 (h1 : 1 ≤ s.length) (h2 : s.length ≤ 60000) : (A3 s).cuts = A4 s := by
  have h3 : ¬ (s.drop (s.length - 1) = []) := by intro h; have := congrArg List.length h; simp at this; omega
  simp [Sock.Pair.cuts, Sock.Way.cut, A3, A4, Sock.Way.new]
  omega
theorem A_45 (h1 : 1 ≤ s.length) (h2 : s.length ≤ 60000) (n : Int) : ((A4 s).readR 1 n).2.2.endedR 1 = false ∧ ((A4 s).readR 1 n).2.2.endedR 0 = false ∧ ((A4 s).readR 1 n).2.2.ok := by
  have hk := A_ok4 s h1 h2
  unfold Sock.Pair.readR
  split
  · exact ⟨by simp [Sock.Pair.endedR, Sock.Pair.hasEnded, A4, Sock.Pair.way], by simp [Sock.Pair.endedR, Sock.Pair.hasEnded, A4, Sock.Pair.way, Sock.Way.new], hk⟩
  split
  · exact ⟨by simp [Sock.Pair.endedR, Sock.Pair.hasEnded, A4, Sock.Pair.way], by simp [Sock.Pair.endedR, Sock.Pair.hasEnded, A4, Sock.Pair.way, Sock.Way.new], hk⟩
  · refine ⟨by simp [Sock.Pair.endedR, Sock.Pair.hasEnded, A4, Sock.Pair.way, Sock.Pair.read, Sock.Pair.put], by simp [Sock.Pair.endedR, Sock.Pair.hasEnded, A4, Sock.Pair.way, Sock.Way.new, Sock.Pair.read, Sock.Pair.put], ?_⟩
    refine ⟨?_, by simp [Sock.Pair.read, Sock.Pair.put, A4, Sock.Way.new, Sock.Way.held], Nat.le_refl _⟩
    simp [Sock.Pair.read, Sock.Pair.put, A4, Sock.Way.held, Sock.Pair.way]; omega
theorem A_26 (h1 : 1 ≤ s.length) (h2 : s.length ≤ 60000) : (A2 s).carryR 0 (s.length : Int) = ((s.length : Int).toNat, 0, A6 s) := by
  have h3 : ¬ ((s.length : Int) < 0) := by omega
  simp [Sock.Pair.carryR, Sock.Pair.carry, Sock.Way.carry, A2, A6, Sock.Pair.way, Sock.Pair.put, h3]
theorem A_6e (h1 : 1 ≤ s.length) (h2 : s.length ≤ 60000) : (A6 s).endedR 1 = false := by simp [Sock.Pair.endedR, Sock.Pair.hasEnded, A6, Sock.Pair.way]; intro h; subst h; simp at h1
theorem A_67 (h1 : 1 ≤ s.length) (h2 : s.length ≤ 60000) : (A6 s).readR 1 (s.length : Int) = (s, 0, A7) := by
  have h3 : ¬ ((s.length : Int) < 0) := by omega
  simp [Sock.Pair.readR, Sock.Pair.read, A6, A7, Sock.Pair.way, Sock.Pair.put, h3]
end
theorem A_7e : A7.endedR 1 = true := by rfl
theorem A_78 : A7.cuts = A8 := rfl
theorem A_8e : A8.endedR 1 = true := by rfl
theorem A_8f : A8.endedR 0 = false := by rfl

set_option maxRecDepth 100000 in
set_option maxHeartbeats 1000000 in
theorem ends_ok (E : Nat → Addr) (w0 w : World) (L : List Asn) (hE : SockErrs E w0) (hS : Sat w0 w L) (v : Value) (s : List UInt8) (hr : Reads w0 v s) (cut : Bool) :
    Calls Tryd.prog 5 #[v, .bool cut] w fun r w' => r = .returned (.bool true) ∧ Sat w0 w' L := by
  have hr0 := hr
  obtain ⟨a, c, rfl, hl1, hl2, _⟩ := hr
  by_cases h1 : 1 ≤ s.length
  case neg =>
    have h1 : s.length < 1 := by omega
    go_enter Tryd.func5, Tryd.ntmps5
    go_wp2_with (first
      | (go_at_call 13; (refine (alive_ok E w0 _ _ hE hS).mono ?_; rintro r w1 ⟨rfl, hS1⟩)))
    go_ret
    exact ⟨rfl, hS1⟩
  by_cases h2 : s.length ≤ 60000
  case neg =>
    have h2 : 60000 < s.length := by omega
    go_enter Tryd.func5, Tryd.ntmps5
    go_wp2_with (first
      | (go_at_call 13; (refine (alive_ok E w0 _ _ hE hS).mono ?_; rintro r w1 ⟨rfl, hS1⟩)))
    go_ret
    exact ⟨rfl, hS1⟩
  cases cut
  case true =>
    go_enter Tryd.func5, Tryd.ntmps5
    go_wp2_with (first
      | (go_at_call 13; (refine (alive_ok E w0 _ _ hE hS).mono ?_; rintro r w1 ⟨rfl, hS1⟩))
      | (go_at_call 14; (refine (new_ok E 65536 w0 _ _ hS1 (by decide) (by decide)).mono ?_; rintro r w2 ⟨b, rfl, hS2⟩; simp only [ev_zero]; have hw := Reads.old hr0 hS2))
      | (go_at_call 21; (refine (ended_to b _ 0 w0 _ _ (A_45 s h1 h2 s.length).2.2 hS9 false (A_45 s h1 h2 s.length).2.1).mono ?_; rintro r w10 ⟨rfl, hS10⟩))
      | (go_at_call 21; (refine (ended_to b _ 1 w0 _ _ (A_45 s h1 h2 s.length).2.2 hS8 false (A_45 s h1 h2 s.length).1).mono ?_; rintro r w9 ⟨rfl, hS9⟩))
      | (go_at_call 21; (refine (ended_to b (A2 s) 1 w0 _ _ (A_ok2 s h1 h2) hS5 false (A_2e s h1 h2)).mono ?_; rintro r w6 ⟨rfl, hS6⟩))
      | (go_at_call 21; (refine (ended_to b (A1 s) 1 w0 _ _ (A_ok1 s h1 h2) hS3 false (A_1e s)).mono ?_; rintro r w4 ⟨rfl, hS4⟩))
      | (go_at_call 15; (refine (write_to E b _ (A1 s) 0 w0 _ _ hE A_ok0 hS2 _ s hw s.length 0 (A_01 s h1 h2) (by omega)).mono ?_; rintro r w3 ⟨rfl, hS3⟩; simp only [ev_zero]))
      | (go_at_call 20; (refine (shut_to E b (A1 s) (A2 s) 0 w0 _ _ hE (A_ok1 s h1 h2) hS4 0 (A_12 s)).mono ?_; rintro r w5 ⟨rfl, hS5⟩; simp only [ev_zero]))
      | (go_at_call 16; (refine (carry_to E b (A2 s) (A3 s) 0 w0 _ _ hE (A_ok2 s h1 h2) hS6 (s.length - 1) (s.length - 1) 0 (A_23 s h1 h2) (by omega)).mono ?_; rintro r w7 ⟨rfl, hS7⟩; simp only [ev_zero]))
      | (go_at_call 17; (refine (cut_to b (A3 s) w0 _ _ (A_ok3 s h1 h2) hS7 (A4 s) (A_34 s h1 h2)).mono ?_; rintro r w7 ⟨rfl, hS7⟩))
      | (go_at_call 18; (refine (read_any E b (A4 s) 1 w0 _ _ hE (A_ok4 s h1 h2) hS7 s.length).mono ?_; rintro r w8 ⟨v8, rfl, hS8⟩; replace hS8 := hS8.drop; obtain ⟨ee, hee⟩ : ∃ ee, ee = ev E ((A4 s).readR 1 s.length).2.1 := ⟨_, rfl⟩; rw [← hee])))
    go_ret
    exact ⟨rfl, hS10.drop⟩
  case false =>
    go_enter Tryd.func5, Tryd.ntmps5
    go_wp2_with (first
      | (go_at_call 13; (refine (alive_ok E w0 _ _ hE hS).mono ?_; rintro r w1 ⟨rfl, hS1⟩))
      | (go_at_call 14; (refine (new_ok E 65536 w0 _ _ hS1 (by decide) (by decide)).mono ?_; rintro r w2 ⟨b, rfl, hS2⟩; simp only [ev_zero]; have hw := Reads.old hr0 hS2))
      | (go_at_call 21; (refine (ended_to b A8 0 w0 _ _ A_ok8 hSd false A_8f).mono ?_; rintro r we ⟨rfl, hSe⟩))
      | (go_at_call 21; (refine (ended_to b A8 1 w0 _ _ A_ok8 hSc true A_8e).mono ?_; rintro r wd ⟨rfl, hSd⟩))
      | (go_at_call 21; (refine (ended_to b A7 1 w0 _ _ A_ok7 hSa true A_7e).mono ?_; rintro r wb ⟨rfl, hSb⟩))
      | (go_at_call 21; (refine (ended_to b (A6 s) 1 w0 _ _ (A_ok6 s h1 h2) hS8 false (A_6e s h1 h2)).mono ?_; rintro r w9 ⟨rfl, hS9⟩))
      | (go_at_call 21; (refine (ended_to b (A2 s) 1 w0 _ _ (A_ok2 s h1 h2) hS5 false (A_2e s h1 h2)).mono ?_; rintro r w6 ⟨rfl, hS6⟩))
      | (go_at_call 21; (refine (ended_to b (A1 s) 1 w0 _ _ (A_ok1 s h1 h2) hS3 false (A_1e s)).mono ?_; rintro r w4 ⟨rfl, hS4⟩))
      | (go_at_call 15; (refine (write_to E b _ (A1 s) 0 w0 _ _ hE A_ok0 hS2 _ s hw s.length 0 (A_01 s h1 h2) (by omega)).mono ?_; rintro r w3 ⟨rfl, hS3⟩; simp only [ev_zero]))
      | (go_at_call 20; (refine (shut_to E b (A1 s) (A2 s) 0 w0 _ _ hE (A_ok1 s h1 h2) hS4 0 (A_12 s)).mono ?_; rintro r w5 ⟨rfl, hS5⟩; simp only [ev_zero]))
      | (go_at_call 16; (refine (carry_to E b (A2 s) (A6 s) 0 w0 _ _ hE (A_ok2 s h1 h2) hS6 s.length s.length 0 (A_26 s h1 h2) (by omega)).mono ?_; rintro r w8 ⟨rfl, hS8⟩; simp only [ev_zero]))
      | (go_at_call 17; (refine (cut_to b A7 w0 _ _ A_ok7 hSb A8 A_78).mono ?_; rintro r wc ⟨rfl, hSc⟩))
      | (go_at_call 18; (refine (read_to E b (A6 s) A7 1 w0 _ _ hE (A_ok6 s h1 h2) hS9 s.length s s.length 0 (A_67 s h1 h2) rfl).mono ?_; rintro r wa ⟨aa, ca, rfl, hSa⟩; simp only [ev_zero]; replace hSa := hSa.drop)))
    go_ret
    exact ⟨rfl, hSe.drop⟩
end Go.Proofs.YtndnojbpapjdoaaDoor
