/- The law SockLost: jackfieldlaw03.SockLost answers true, whatever it is handed. -/
import Derived.Test.YtndnojbpapjdoaaDoorSockM
namespace Go.Proofs.YtndnojbpapjdoaaDoor
open Go.Sp Go.RowKit

theorem umod (x : Int) (n : Nat) (hn : n ≤ 70000) : ∃ k : Nat, wrap64 ((IntKind.u64.wrap x).tmod ((n : Int) + 1)) = (k : Int) ∧ k ≤ n := by
  have h0 : 0 ≤ IntKind.u64.wrap x := by
    simp only [IntKind.wrap, IntKind.signed, IntKind.bits]
    simp
    omega
  have h1 := Int.tmod_nonneg ((n : Int) + 1) h0
  have h2 := Int.tmod_lt_of_pos (IntKind.u64.wrap x) (b := (n : Int) + 1) (by omega)
  generalize (IntKind.u64.wrap x).tmod ((n : Int) + 1) = z at h1 h2
  refine ⟨z.toNat, ?_, by omega⟩
  unfold wrap64
  omega
theorem umod3 (x : Int) : ∃ k : Nat, wrap64 (1 + wrap64 ((IntKind.u64.wrap x).tmod 3000)) = (k : Int) ∧ 1 ≤ k ∧ k ≤ 3000 := by
  obtain ⟨k, h, hk⟩ := umod x 2999 (by omega)
  refine ⟨k + 1, ?_, by omega, by omega⟩
  have h' : wrap64 ((IntKind.u64.wrap x).tmod 3000) = (k : Int) := h
  rw [h']
  unfold wrap64
  omega

section
variable (s : List UInt8) (k j : Nat)
def D1 : Sock.Pair := ⟨65536, .new, ⟨s, [], false, false⟩, false⟩
def D2 : Sock.Pair := ⟨65536, .new, ⟨s.drop k, s.take k, false, false⟩, false⟩
def D3 : Sock.Pair := ⟨65536, .new, ⟨[], (s.take k).drop j, false, false⟩, true⟩
theorem D_ok1 (h2 : s.length ≤ 60000) : (D1 s).ok := ⟨Nat.zero_le _, by simp [D1, Sock.Way.held]; omega, Nat.le_refl _⟩
theorem D_ok2 (h2 : s.length ≤ 60000) : (D2 s k).ok := ⟨Nat.zero_le _, by simp [D2, Sock.Way.held]; omega, Nat.le_refl _⟩
theorem D_ok3 (h2 : s.length ≤ 60000) : (D3 s k j).ok := ⟨Nat.zero_le _, by simp [D3, Sock.Way.held]; omega, Nat.le_refl _⟩
theorem D_01 (h2 : s.length ≤ 60000) : (Sock.Pair.new (Int.toNat 65536)).writeR 1 s = ((s.length : Int).toNat, 0, D1 s) := by
  have h3 : min 65536 s.length = s.length := by omega
  simp [Sock.Pair.writeR, Sock.Pair.new, Sock.Pair.way, Sock.Way.new, Sock.Pair.takes, Sock.Way.held, Sock.Pair.write, Sock.Pair.put, D1, h3]
theorem D_12 (hk : k ≤ s.length) : (D1 s).carryR 1 (k : Int) = ((k : Int).toNat, 0, D2 s k) := by
  have h3 : ¬ ((k : Int) < 0) := by omega
  have h4 : min k s.length = k := by omega
  simp [Sock.Pair.carryR, Sock.Pair.carry, Sock.Way.carry, D1, D2, Sock.Pair.way, Sock.Pair.put, h3, h4]
theorem D_23 : (D2 s k).cuts = D3 s k 0 := by
  simp [Sock.Pair.cuts, Sock.Way.cut, D2, D3, Sock.Way.new]
theorem D_33 (q : Nat) (hj : j < k) (hk : k ≤ s.length) : (D3 s k j).readR 0 (q : Int) = (((s.take k).drop j).take (min q (k - j)), 0, D3 s k (j + min q (k - j))) := by
  have h3 : ¬ ((q : Int) < 0) := by omega
  have h4 : ((s.take k).drop j).length = k - j := by simp; omega
  have h5 : ¬ ((s.take k).drop j = []) := by intro h; rw [h] at h4; simp at h4; omega
  unfold Sock.Pair.readR
  rw [if_neg (by simp [h3]), if_neg (by simp only [D3, Sock.Pair.way]; simpa using h5)]
  simp only [D3, Sock.Pair.way, Sock.Pair.read, Sock.Pair.put]
  simp only [Int.toNat_natCast, Int.sub_zero, Int.reduceEq, if_false, h4, List.drop_drop]
theorem D_3x : (D3 s k k).readR 0 1 = ([], 5, D3 s k k) := by
  simp [Sock.Pair.readR, D3, Sock.Pair.way]
theorem D_3f : (D3 s k j).flightR 1 = (0 : Int).toNat := by
  simp [Sock.Pair.flightR, D3, Sock.Pair.way]
end

def lenOf : Value → Nat
  | .string t => t.size
  | _ => 0

set_option maxRecDepth 100000 in
set_option maxHeartbeats 1000000 in
theorem lost_ok (E : Nat → Addr) (w0 w : World) (L : List Asn) (hE : SockErrs E w0) (hS : Sat w0 w L) (v : Value) (s : List UInt8) (hr : Reads w0 v s) (x y : Int) :
    Calls Tryd.prog 3 #[v, .int .i64 x, .int .i64 y] w fun r w' => r = .returned (.bool true) ∧ Sat w0 w' L := by
  have hr0 := hr
  obtain ⟨a, c, rfl, hl1, hl2, _⟩ := hr
  by_cases h2 : s.length ≤ 60000
  case neg =>
    have h2 : 60000 < s.length := by omega
    go_enter Tryd.func3, Tryd.ntmps3
    go_wp2_with (first
      | (go_at_call 13; (refine (alive_ok E w0 _ _ hE hS).mono ?_; rintro r w1 ⟨rfl, hS1⟩)))
    go_ret
    exact ⟨rfl, hS1⟩
  obtain ⟨k, hk, hks⟩ := umod x s.length (by omega)
  obtain ⟨q, hq, hq1, hq2⟩ := umod3 y
  have hes := err_same E 5
  go_enter Tryd.func3, Tryd.ntmps3
  go_wp2_with (first
    | (go_at_call 13; (refine (alive_ok E w0 _ _ hE hS).mono ?_; rintro r w1 ⟨rfl, hS1⟩))
    | (go_at_call 14; (refine (new_ok E 65536 w0 _ _ hS1 (by decide) (by decide)).mono ?_; rintro r w2 ⟨b, rfl, hS2⟩; simp only [ev_zero]; have hw := Reads.old hr0 hS2))
    | (go_at_call 15; (refine (write_to E b _ (D1 s) 1 w0 _ _ hE A_ok0 hS2 _ s hw s.length 0 (D_01 s h2) (by omega)).mono ?_; rintro r w3 ⟨rfl, hS3⟩; simp only [ev_zero]))
    | (go_at_call 16; rw [hk, hq]; (refine (carry_to E b (D1 s) (D2 s k) 1 w0 _ _ hE (D_ok1 s h2) hS3 k k 0 (D_12 s k hks) (by omega)).mono ?_; rintro r w4 ⟨rfl, hS4⟩; simp only [ev_zero]))
    | (go_at_call 17; (refine (cut_to b (D2 s k) w0 _ _ (D_ok2 s k h2) hS4 (D3 s k 0) (D_23 s k)).mono ?_; rintro r w5 ⟨rfl, hS5⟩; clear hk hq)))
  go_loopw [13] (fun g wr => ∃ (j : Nat) (t : ByteArray), j ≤ k ∧ g = .string t ∧ t = ⟨((s.take k).take j).toArray⟩ ∧ t.size = j ∧ Sat w0 wr (isPair b (D3 s k j) :: L)) (fun g _ => k - lenOf g)
  case atStart => exact ⟨0, _, by omega, rfl, rfl, rfl, hS5⟩
  case round =>
    obtain ⟨j, t, hjk, rfl, ht, hts, hSj⟩ := hrel
    have ht' := Lib.hid ht
    clear ht
    by_cases hlt : j < k
    case neg =>
      obtain rfl : j = k := by omega
      have htl : t.toList = List.take j s := by rw [ht'.out, List.take_take, Nat.min_self]; simp
      go_wp2_with (first
        | (go_at_call 18; (refine (read_to E b (D3 s j j) (D3 s j j) 0 w0 _ _ hE (D_ok3 s j j h2) hSj 1 [] 0 5 (D_3x s j) rfl).mono ?_; rintro r w6 ⟨a6, c6, rfl, hS6⟩; simp only [ev_succ]; have kx := old_cell hS6 hE.broken; have kc := run_string_of Tryd.underlying22 Tryd.underlying5 Tryd.underlying9 ((Reads.old hr0 hS6).take hks); replace hes := hes w6))
        | (go_at_call 19; (refine (flight_to b (D3 s j j) 1 w0 _ _ (D_ok3 s j j h2) hS6.drop 0 (D_3f s j j) (by decide)).mono ?_; rintro r w7 ⟨rfl, rfl⟩)))
      all_goals go_ret
      · exact ⟨rfl, hS6.drop.drop⟩
    obtain ⟨m, hm, hm1, hm2⟩ : ∃ m, min q (k - j) = m ∧ 1 ≤ m ∧ j + m ≤ k := ⟨_, rfl, by omega, by omega⟩
    have hread := D_33 s k j q hlt hks
    rw [hm] at hread
    have hm0 : ((m : Int) == 0) = false := by rw [beq_eq_false_iff_ne]; omega
    clear hm
    go_wp2_with (first
      | (go_at_call 18; (refine (read_to E b (D3 s k j) (D3 s k (j + m)) 0 w0 _ _ hE (D_ok3 s k j h2) hSj q _ m 0 hread (by simp; omega)).mono ?_; rintro r w6 ⟨a6, c6, rfl, hS6⟩; simp only [ev_zero]; clear hread; have kc := run_string_of Tryd.underlying22 Tryd.underlying5 Tryd.underlying9 hS6.bytes_reads)))
    have hall : t ++ { data := (List.take m (List.drop j (List.take k s))).toArray } = (⟨(List.take (j + m) (List.take k s)).toArray⟩ : ByteArray) := by
      rw [ht'.out, List.take_add]
      apply ByteArray.ext
      simp
    have hsz : (⟨(List.take (j + m) (List.take k s)).toArray⟩ : ByteArray).size = j + m := by
      show (List.take (j + m) (List.take k s)).toArray.size = j + m
      simp; omega
    rw [hall]
    refine ⟨⟨j + m, _, hm2, rfl, rfl, hsz, hS6.drop⟩, ?_⟩
    show k - ByteArray.size _ < k - t.size
    rw [hsz, hts]
    omega
end Go.Proofs.YtndnojbpapjdoaaDoor
