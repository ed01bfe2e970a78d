/- The law SockRoom: jackfieldlaw03.SockRoom answers true, whatever it is handed. -/
import Derived.Test.YtndnojbpapjdoaaDoorSockM
import Derived.Test.YtndnojbpapjdoaaDoorScript
import Derived.Test.YtndnojbpapjdoaaDoorSockK
namespace Go.Proofs.YtndnojbpapjdoaaDoor
open Go.Sp Go.RowKit

theorem pair_new_ok (n : Nat) (h : n ≤ 65536) : (Sock.Pair.new n).ok := ⟨Nat.zero_le _, Nat.zero_le _, h⟩
theorem room500 (x : Int) : ∃ k : Nat, wrap64 (1 + (wrap64 (x.tmod 500 + 500)).tmod 500) = (k : Int) ∧ 1 ≤ k ∧ k ≤ 500 := by
  have h1 : -500 < x.tmod 500 := by
    rcases Int.le_total 0 x with h | h
    · have := Int.tmod_nonneg 500 h; omega
    · have := Int.lt_tmod_of_pos x (show (0 : Int) < 500 by decide); omega
  have h2 := Int.tmod_lt_of_pos x (show (0 : Int) < 500 by decide)
  have h3 : wrap64 (x.tmod 500 + 500) = x.tmod 500 + 500 := by unfold wrap64; omega
  rw [h3]
  have h4 := Int.tmod_nonneg 500 (show 0 ≤ x.tmod 500 + 500 by omega)
  have h5 := Int.tmod_lt_of_pos (x.tmod 500 + 500) (show (0 : Int) < 500 by decide)
  generalize (x.tmod 500 + 500).tmod 500 = z at h4 h5
  exact ⟨(1 + z).toNat, by unfold wrap64; omega, by omega, by omega⟩

set_option maxRecDepth 100000 in
set_option maxHeartbeats 10000000 in
theorem room_ok (E : Nat → Addr) (w0 w : World) (L : List Asn) (hE : SockErrs E w0) (hS : Sat w0 w L) (v : Value) (ops : List SOp) (hr : Script w0 v ops) (x : Int) :
    Calls Tryd.prog 6 #[.int .i64 x, v] w fun r w' => r = .returned (.bool true) ∧ Sat w0 w' L := by
  obtain ⟨a, c, rfl, hl1, hl2, hops⟩ := hr
  obtain ⟨rm, hrm, hr1, hr2⟩ := room500 x
  go_enter Tryd.func6, Tryd.ntmps6
  go_wp2_with (first
    | (go_at_call 13; (refine (alive_ok E w0 _ _ hE hS).mono ?_; rintro r w1 ⟨rfl, hS1⟩))
    | (go_at_call 14; rw [hrm]; (refine (new_ok E rm w0 _ _ hS1 (by omega) (by omega)).mono ?_; rintro r w2 ⟨b, rfl, hS2⟩; simp only [ev_zero, Int.toNat_natCast] at hS2 ⊢; clear hrm))
    | (with_reducible refine Txt.wp_region_text (by kernel_rfl) (by kernel_rfl) ?_; intro Q' hQ') | (with_reducible refine Txt.wpTxt_nil ?_) | ((with_reducible refine Txt.wpTxt_plain ?_ ?_ ?_); (focus with_reducible rfl); (focus rfl); intro _ _) | ((with_reducible refine Txt.wpTxt_skipG ?_ ?_); (focus rfl); simp only [Act.put, List.setIfInBounds_toArray, List.set_cons_succ, List.set_cons_zero]) | ((with_reducible refine Txt.wpTxt_runG ?_ ?_ ?_); (focus rfl); (focus rfl); intro _ _))
  go_loopw [34] (fun i wr => ∃ (k : Nat) (p : Sock.Pair), k ≤ ops.length ∧ i = .int .i64 k ∧ p.ok ∧ p.cut = false ∧ p.room = rm ∧ Sat w0 wr (isPair b p :: Blk w2.heap.size (.cells #[.bool p.x.shut, .bool p.y.shut] 45) :: L)) (fun i _ => ops.length - (intOf i).toNat)
  case atStart =>
    refine ⟨0, Sock.Pair.new rm, by omega, rfl, pair_new_ok rm (by omega), rfl, rfl, ?_⟩
    exact (hS2.alloc _).pick 1
  case round =>
    obtain ⟨k, p, hk, rfl, hp, hcut, hroom, hSk⟩ := hrel
    by_cases hlt : k < ops.length
    case neg =>
      obtain rfl : k = ops.length := by omega
      go_wp2
      go_ret
      exact ⟨rfl, hSk.drop.drop⟩
    obtain ⟨⟨kd, fin, num, bs⟩, ho⟩ : ∃ o, ops[k]? = some o := ⟨ops[k], List.getElem?_eq_getElem hlt⟩
    obtain ⟨ad, bv, rfl, hat0⟩ := hops k _ ho
    have hat := hat0.old hSk
    have hrd : Reads w0 bv bs := hat0.reads
    obtain ⟨ba, bc, rfl, _⟩ := id hrd
    have hc0 : wr.cell? (ad.add (k * 4)) = some (.int .i64 kd) := hat.kind
    have hc1 : wr.cell? ⟨(ad.add (k * 4)).block, (ad.add (k * 4)).off + 1, none⟩ = some (.int .i64 fin) := hat.fin
    have hc2 : wr.cell? ⟨(ad.add (k * 4)).block, (ad.add (k * 4)).off + 2, none⟩ = some (.int .i64 num) := hat.n
    have hc3 : wr.cell? ⟨(ad.add (k * 4)).block, (ad.add (k * 4)).off + 3, none⟩ = some (.slice ba bs.length bc) := hat.bytes
    clear hat hat0
    by_cases h300 : 300 < k
    case pos =>
      go_wp2
      go_ret
      exact ⟨rfl, (hSk.alloc _).drop.drop.drop⟩
    obtain ⟨e, hand, he⟩ := and_one_i64 fin
    have hS3 : Sat w0 _ (isPair b p :: Blk wr.heap.size (.cells #[.int .i64 kd, .int .i64 fin, .int .i64 num, .slice ba bs.length bc] 40) :: Blk w2.heap.size (.cells #[.bool p.x.shut, .bool p.y.shut] 45) :: L) := (hSk.alloc (.cells #[.int .i64 kd, .int .i64 fin, .int .i64 num, .slice ba bs.length bc] 40)).pick 1
    by_cases hk1 : kd = 1
    case pos =>
      subst hk1
      go_wp2_with (first
        | (go_at_call 15; (refine (write_any E b p e w0 _ _ hE hp hS3 _ _ (Reads.old hrd hS3)).mono ?_; rintro r w4 ⟨rfl, hS4⟩)))
      have hkp := Sock.write_keeps hp e bs
      obtain ⟨p', hp'⟩ : ∃ p', p' = (p.writeR e bs).2.2 := ⟨_, rfl⟩
      rw [← hp'] at hkp hS4
      rw [← hkp.x, ← hkp.y] at hS4
      replace hS4 := (hS4.pick 1).drop
      have hok := hkp.ok
      have hcut' := hkp.cut.trans hcut
      have hroom' := hkp.room.trans hroom
      clear hkp
      go_loopw [75] (fun i wr' => ∃ j : Nat, j ≤ 2 ∧ i = .int .i64 j ∧ Sat w0 wr' (isPair b p' :: Blk w2.heap.size (.cells #[.bool p'.x.shut, .bool p'.y.shut] 45) :: L)) (fun i _ => 2 - (intOf i).toNat)
      case atStart => exact ⟨0, by omega, rfl, hS4⟩
      clear hp' hcut hroom hS3 hS4 hSk hc0 hc1 hc2 hc3 hrd hp
      obtain ⟨j, hj, rfl, hSj⟩ := hrel
      obtain rfl | rfl | rfl : j = 0 ∨ j = 1 ∨ j = 2 := by omega
      case inr.inr =>
        go_wp2
        go_roundw
        case rel => exact ⟨k + 1, p', by omega, by go_num, hok, hcut', hroom', hSj⟩
        case measure => simp [intOf]; omega
      case inl =>
        have hlaw : p'.flightR 0 + p'.inboxR 1 ≤ p'.room ∧ p'.roomR 0 = if p'.x.shut then 0 else p'.room - (p'.flightR 0 + p'.inboxR 1) := Sock.room_law hok hcut' 0 (.inl rfl)
        obtain ⟨f, hf⟩ : ∃ f, p'.flightR 0 = f := ⟨_, rfl⟩
        obtain ⟨n, hn⟩ : ∃ n, p'.inboxR 1 = n := ⟨_, rfl⟩
        rw [hf, hn, hroom'] at hlaw
        obtain ⟨hle, hq⟩ := hlaw
        have Hz := Lib.hid (show ((rm - (f + n) : Nat) : Int) = (rm : Int) - ((f : Int) + (n : Int)) by omega)
        have Hz0 := Lib.hid (show ((0 : Nat) : Int) = 0 from rfl)
        cases hsh : p'.x.shut
        case' false =>
          have Hr := Lib.hid (show p'.roomR 0 = rm - (f + n) by rw [hq, hsh]; rfl)
        case' true =>
          have Hr := Lib.hid (show p'.roomR 0 = 0 by rw [hq, hsh]; rfl)
        all_goals
          have hcs := cell_blk (hSj.nth 1 rfl) 0
          simp only [hsh] at hcs
          have Hf := Lib.hid hf
          have Hn := Lib.hid hn
          have Hs := Lib.hid hsh
          clear hq hf hn hsh
          go_wp2_with (first
            | (go_at_call 19; (refine (flight_any b p' 0 w0 _ _ hSj hok).mono ?_; rintro r w5 ⟨rfl, rfl⟩; rw [Hf.out]))
            | (go_at_call 22; (refine (inbox_any b p' 1 w0 _ _ hSj hok).mono ?_; rintro r w5 ⟨rfl, rfl⟩; rw [Hn.out]))
            | (go_at_call 23; (refine (room_any b p' 0 w0 _ _ hSj hok).mono ?_; rintro r w6 ⟨rfl, hS6⟩; rw [Hr.out]; (first | rw [Hz.out] | rw [Hz0.out]); have hcs6 := cell_blk (hS6.nth 1 rfl) 0; simp only [Hs.out] at hcs6)))
          go_roundw
          case rel => exact ⟨0 + 1, by omega, by go_num, by simp only [Hs.out] at hS6; exact hS6⟩
          case measure => simp [intOf]
      case inr.inl =>
        have hlaw : p'.flightR 1 + p'.inboxR 0 ≤ p'.room ∧ p'.roomR 1 = if p'.y.shut then 0 else p'.room - (p'.flightR 1 + p'.inboxR 0) := Sock.room_law hok hcut' 1 (.inr rfl)
        obtain ⟨f, hf⟩ : ∃ f, p'.flightR 1 = f := ⟨_, rfl⟩
        obtain ⟨n, hn⟩ : ∃ n, p'.inboxR 0 = n := ⟨_, rfl⟩
        rw [hf, hn, hroom'] at hlaw
        obtain ⟨hle, hq⟩ := hlaw
        have Hz := Lib.hid (show ((rm - (f + n) : Nat) : Int) = (rm : Int) - ((f : Int) + (n : Int)) by omega)
        have Hz0 := Lib.hid (show ((0 : Nat) : Int) = 0 from rfl)
        cases hsh : p'.y.shut
        case' false =>
          have Hr := Lib.hid (show p'.roomR 1 = rm - (f + n) by rw [hq, hsh]; rfl)
        case' true =>
          have Hr := Lib.hid (show p'.roomR 1 = 0 by rw [hq, hsh]; rfl)
        all_goals
          have hcs := cell_blk (hSj.nth 1 rfl) 1
          simp only [hsh] at hcs
          have Hf := Lib.hid hf
          have Hn := Lib.hid hn
          have Hs := Lib.hid hsh
          clear hq hf hn hsh
          go_wp2_with (first
            | (go_at_call 19; (refine (flight_any b p' 1 w0 _ _ hSj hok).mono ?_; rintro r w5 ⟨rfl, rfl⟩; rw [Hf.out]))
            | (go_at_call 22; (refine (inbox_any b p' 0 w0 _ _ hSj hok).mono ?_; rintro r w5 ⟨rfl, rfl⟩; rw [Hn.out]))
            | (go_at_call 23; (refine (room_any b p' 1 w0 _ _ hSj hok).mono ?_; rintro r w6 ⟨rfl, hS6⟩; rw [Hr.out]; (first | rw [Hz.out] | rw [Hz0.out]); have hcs6 := cell_blk (hS6.nth 1 rfl) 1; simp only [Hs.out] at hcs6)))
          go_roundw
          case rel => exact ⟨1 + 1, by omega, by go_num, by simp only [Hs.out] at hS6; exact hS6⟩
          case measure => simp [intOf]
    by_cases hk2 : kd = 2
    case pos =>
      subst hk2
      have heq := Sock.shut_eq e he hcut
      obtain ⟨p', hp'⟩ : ∃ p', p' = p.shut e := ⟨_, rfl⟩
      rw [← hp'] at heq
      have hok : p'.ok := hp' ▸ Sock.shut_ok hp e
      have hcut' : p'.cut = false := hp' ▸ (Sock.shut_cut p e).trans hcut
      have hroom' : p'.room = rm := hp' ▸ (Sock.shut_room p e).trans hroom
      rcases he with rfl | rfl
      · go_wp2_with (first
          | (go_at_call 20; (refine (shut_to E b p p' 0 w0 _ _ hE hp hS3 0 heq).mono ?_; rintro r w4 ⟨rfl, hS4⟩; simp only [ev_zero]; have hfr := free_blk (hS4.nth 2 rfl); have hcs4 : w4.cell? ⟨w2.heap.size, 0, none⟩ = some (.bool p.x.shut) := cell_blk (hS4.nth 2 rfl) 0)))
        replace hS4 : Sat w0 (w4.setCell ⟨w2.heap.size, 0, none⟩ (.bool true)) (isPair b p' :: Blk w2.heap.size (.cells #[.bool p'.x.shut, .bool p'.y.shut] 45) :: L) := by
          subst hp'
          exact (((hS4.pick 1).drop.pick 1).store 0 (.bool true)).pick 1
        go_loopw [75] (fun i wr' => ∃ j : Nat, j ≤ 2 ∧ i = .int .i64 j ∧ Sat w0 wr' (isPair b p' :: Blk w2.heap.size (.cells #[.bool p'.x.shut, .bool p'.y.shut] 45) :: L)) (fun i _ => 2 - (intOf i).toNat)
        case atStart => exact ⟨0, by omega, rfl, hS4⟩
        clear hp' hcut hroom hS3 hS4 hSk hc0 hc1 hc2 hc3 hrd hp
        obtain ⟨j, hj, rfl, hSj⟩ := hrel
        obtain rfl | rfl | rfl : j = 0 ∨ j = 1 ∨ j = 2 := by omega
        case inr.inr =>
          go_wp2
          go_roundw
          case rel => exact ⟨k + 1, p', by omega, by go_num, hok, hcut', hroom', hSj⟩
          case measure => simp [intOf]; omega
        case inl =>
          have hlaw : p'.flightR 0 + p'.inboxR 1 ≤ p'.room ∧ p'.roomR 0 = if p'.x.shut then 0 else p'.room - (p'.flightR 0 + p'.inboxR 1) := Sock.room_law hok hcut' 0 (.inl rfl)
          obtain ⟨f, hf⟩ : ∃ f, p'.flightR 0 = f := ⟨_, rfl⟩
          obtain ⟨n, hn⟩ : ∃ n, p'.inboxR 1 = n := ⟨_, rfl⟩
          rw [hf, hn, hroom'] at hlaw
          obtain ⟨hle, hq⟩ := hlaw
          have Hz := Lib.hid (show ((rm - (f + n) : Nat) : Int) = (rm : Int) - ((f : Int) + (n : Int)) by omega)
          have Hz0 := Lib.hid (show ((0 : Nat) : Int) = 0 from rfl)
          cases hsh : p'.x.shut
          case' false =>
            have Hr := Lib.hid (show p'.roomR 0 = rm - (f + n) by rw [hq, hsh]; rfl)
          case' true =>
            have Hr := Lib.hid (show p'.roomR 0 = 0 by rw [hq, hsh]; rfl)
          all_goals
            have hcs := cell_blk (hSj.nth 1 rfl) 0
            simp only [hsh] at hcs
            have Hf := Lib.hid hf
            have Hn := Lib.hid hn
            have Hs := Lib.hid hsh
            clear hq hf hn hsh
            go_wp2_with (first
              | (go_at_call 19; (refine (flight_any b p' 0 w0 _ _ hSj hok).mono ?_; rintro r w5 ⟨rfl, rfl⟩; rw [Hf.out]))
              | (go_at_call 22; (refine (inbox_any b p' 1 w0 _ _ hSj hok).mono ?_; rintro r w5 ⟨rfl, rfl⟩; rw [Hn.out]))
              | (go_at_call 23; (refine (room_any b p' 0 w0 _ _ hSj hok).mono ?_; rintro r w6 ⟨rfl, hS6⟩; rw [Hr.out]; (first | rw [Hz.out] | rw [Hz0.out]); have hcs6 := cell_blk (hS6.nth 1 rfl) 0; simp only [Hs.out] at hcs6)))
            go_roundw
            case rel => exact ⟨0 + 1, by omega, by go_num, by simp only [Hs.out] at hS6; exact hS6⟩
            case measure => simp [intOf]
        case inr.inl =>
          have hlaw : p'.flightR 1 + p'.inboxR 0 ≤ p'.room ∧ p'.roomR 1 = if p'.y.shut then 0 else p'.room - (p'.flightR 1 + p'.inboxR 0) := Sock.room_law hok hcut' 1 (.inr rfl)
          obtain ⟨f, hf⟩ : ∃ f, p'.flightR 1 = f := ⟨_, rfl⟩
          obtain ⟨n, hn⟩ : ∃ n, p'.inboxR 0 = n := ⟨_, rfl⟩
          rw [hf, hn, hroom'] at hlaw
          obtain ⟨hle, hq⟩ := hlaw
          have Hz := Lib.hid (show ((rm - (f + n) : Nat) : Int) = (rm : Int) - ((f : Int) + (n : Int)) by omega)
          have Hz0 := Lib.hid (show ((0 : Nat) : Int) = 0 from rfl)
          cases hsh : p'.y.shut
          case' false =>
            have Hr := Lib.hid (show p'.roomR 1 = rm - (f + n) by rw [hq, hsh]; rfl)
          case' true =>
            have Hr := Lib.hid (show p'.roomR 1 = 0 by rw [hq, hsh]; rfl)
          all_goals
            have hcs := cell_blk (hSj.nth 1 rfl) 1
            simp only [hsh] at hcs
            have Hf := Lib.hid hf
            have Hn := Lib.hid hn
            have Hs := Lib.hid hsh
            clear hq hf hn hsh
            go_wp2_with (first
              | (go_at_call 19; (refine (flight_any b p' 1 w0 _ _ hSj hok).mono ?_; rintro r w5 ⟨rfl, rfl⟩; rw [Hf.out]))
              | (go_at_call 22; (refine (inbox_any b p' 0 w0 _ _ hSj hok).mono ?_; rintro r w5 ⟨rfl, rfl⟩; rw [Hn.out]))
              | (go_at_call 23; (refine (room_any b p' 1 w0 _ _ hSj hok).mono ?_; rintro r w6 ⟨rfl, hS6⟩; rw [Hr.out]; (first | rw [Hz.out] | rw [Hz0.out]); have hcs6 := cell_blk (hS6.nth 1 rfl) 1; simp only [Hs.out] at hcs6)))
            go_roundw
            case rel => exact ⟨1 + 1, by omega, by go_num, by simp only [Hs.out] at hS6; exact hS6⟩
            case measure => simp [intOf]
      · go_wp2_with (first
          | (go_at_call 20; (refine (shut_to E b p p' 1 w0 _ _ hE hp hS3 0 heq).mono ?_; rintro r w4 ⟨rfl, hS4⟩; simp only [ev_zero]; have hfr := free_blk (hS4.nth 2 rfl); have hcs4 : w4.cell? ⟨w2.heap.size, 1, none⟩ = some (.bool p.y.shut) := cell_blk (hS4.nth 2 rfl) 1)))
        replace hS4 : Sat w0 (w4.setCell ⟨w2.heap.size, 1, none⟩ (.bool true)) (isPair b p' :: Blk w2.heap.size (.cells #[.bool p'.x.shut, .bool p'.y.shut] 45) :: L) := by
          subst hp'
          exact (((hS4.pick 1).drop.pick 1).store 1 (.bool true)).pick 1
        go_loopw [75] (fun i wr' => ∃ j : Nat, j ≤ 2 ∧ i = .int .i64 j ∧ Sat w0 wr' (isPair b p' :: Blk w2.heap.size (.cells #[.bool p'.x.shut, .bool p'.y.shut] 45) :: L)) (fun i _ => 2 - (intOf i).toNat)
        case atStart => exact ⟨0, by omega, rfl, hS4⟩
        clear hp' hcut hroom hS3 hS4 hSk hc0 hc1 hc2 hc3 hrd hp
        obtain ⟨j, hj, rfl, hSj⟩ := hrel
        obtain rfl | rfl | rfl : j = 0 ∨ j = 1 ∨ j = 2 := by omega
        case inr.inr =>
          go_wp2
          go_roundw
          case rel => exact ⟨k + 1, p', by omega, by go_num, hok, hcut', hroom', hSj⟩
          case measure => simp [intOf]; omega
        case inl =>
          have hlaw : p'.flightR 0 + p'.inboxR 1 ≤ p'.room ∧ p'.roomR 0 = if p'.x.shut then 0 else p'.room - (p'.flightR 0 + p'.inboxR 1) := Sock.room_law hok hcut' 0 (.inl rfl)
          obtain ⟨f, hf⟩ : ∃ f, p'.flightR 0 = f := ⟨_, rfl⟩
          obtain ⟨n, hn⟩ : ∃ n, p'.inboxR 1 = n := ⟨_, rfl⟩
          rw [hf, hn, hroom'] at hlaw
          obtain ⟨hle, hq⟩ := hlaw
          have Hz := Lib.hid (show ((rm - (f + n) : Nat) : Int) = (rm : Int) - ((f : Int) + (n : Int)) by omega)
          have Hz0 := Lib.hid (show ((0 : Nat) : Int) = 0 from rfl)
          cases hsh : p'.x.shut
          case' false =>
            have Hr := Lib.hid (show p'.roomR 0 = rm - (f + n) by rw [hq, hsh]; rfl)
          case' true =>
            have Hr := Lib.hid (show p'.roomR 0 = 0 by rw [hq, hsh]; rfl)
          all_goals
            have hcs := cell_blk (hSj.nth 1 rfl) 0
            simp only [hsh] at hcs
            have Hf := Lib.hid hf
            have Hn := Lib.hid hn
            have Hs := Lib.hid hsh
            clear hq hf hn hsh
            go_wp2_with (first
              | (go_at_call 19; (refine (flight_any b p' 0 w0 _ _ hSj hok).mono ?_; rintro r w5 ⟨rfl, rfl⟩; rw [Hf.out]))
              | (go_at_call 22; (refine (inbox_any b p' 1 w0 _ _ hSj hok).mono ?_; rintro r w5 ⟨rfl, rfl⟩; rw [Hn.out]))
              | (go_at_call 23; (refine (room_any b p' 0 w0 _ _ hSj hok).mono ?_; rintro r w6 ⟨rfl, hS6⟩; rw [Hr.out]; (first | rw [Hz.out] | rw [Hz0.out]); have hcs6 := cell_blk (hS6.nth 1 rfl) 0; simp only [Hs.out] at hcs6)))
            go_roundw
            case rel => exact ⟨0 + 1, by omega, by go_num, by simp only [Hs.out] at hS6; exact hS6⟩
            case measure => simp [intOf]
        case inr.inl =>
          have hlaw : p'.flightR 1 + p'.inboxR 0 ≤ p'.room ∧ p'.roomR 1 = if p'.y.shut then 0 else p'.room - (p'.flightR 1 + p'.inboxR 0) := Sock.room_law hok hcut' 1 (.inr rfl)
          obtain ⟨f, hf⟩ : ∃ f, p'.flightR 1 = f := ⟨_, rfl⟩
          obtain ⟨n, hn⟩ : ∃ n, p'.inboxR 0 = n := ⟨_, rfl⟩
          rw [hf, hn, hroom'] at hlaw
          obtain ⟨hle, hq⟩ := hlaw
          have Hz := Lib.hid (show ((rm - (f + n) : Nat) : Int) = (rm : Int) - ((f : Int) + (n : Int)) by omega)
          have Hz0 := Lib.hid (show ((0 : Nat) : Int) = 0 from rfl)
          cases hsh : p'.y.shut
          case' false =>
            have Hr := Lib.hid (show p'.roomR 1 = rm - (f + n) by rw [hq, hsh]; rfl)
          case' true =>
            have Hr := Lib.hid (show p'.roomR 1 = 0 by rw [hq, hsh]; rfl)
          all_goals
            have hcs := cell_blk (hSj.nth 1 rfl) 1
            simp only [hsh] at hcs
            have Hf := Lib.hid hf
            have Hn := Lib.hid hn
            have Hs := Lib.hid hsh
            clear hq hf hn hsh
            go_wp2_with (first
              | (go_at_call 19; (refine (flight_any b p' 1 w0 _ _ hSj hok).mono ?_; rintro r w5 ⟨rfl, rfl⟩; rw [Hf.out]))
              | (go_at_call 22; (refine (inbox_any b p' 0 w0 _ _ hSj hok).mono ?_; rintro r w5 ⟨rfl, rfl⟩; rw [Hn.out]))
              | (go_at_call 23; (refine (room_any b p' 1 w0 _ _ hSj hok).mono ?_; rintro r w6 ⟨rfl, hS6⟩; rw [Hr.out]; (first | rw [Hz.out] | rw [Hz0.out]); have hcs6 := cell_blk (hS6.nth 1 rfl) 1; simp only [Hs.out] at hcs6)))
            go_roundw
            case rel => exact ⟨1 + 1, by omega, by go_num, by simp only [Hs.out] at hS6; exact hS6⟩
            case measure => simp [intOf]
    by_cases hk3 : kd = 3
    case pos =>
      subst hk3
      go_wp2_with (first
        | (go_at_call 16; (refine (carry_any E b p e w0 _ _ hE hp hS3 num).mono ?_; rintro r w4 ⟨rfl, hS4⟩)))
      have hkp := Sock.carry_keeps hp e num
      obtain ⟨p', hp'⟩ : ∃ p', p' = (p.carryR e num).2.2 := ⟨_, rfl⟩
      rw [← hp'] at hkp hS4
      rw [← hkp.x, ← hkp.y] at hS4
      replace hS4 := (hS4.pick 1).drop
      have hok := hkp.ok
      have hcut' := hkp.cut.trans hcut
      have hroom' := hkp.room.trans hroom
      clear hkp
      go_loopw [75] (fun i wr' => ∃ j : Nat, j ≤ 2 ∧ i = .int .i64 j ∧ Sat w0 wr' (isPair b p' :: Blk w2.heap.size (.cells #[.bool p'.x.shut, .bool p'.y.shut] 45) :: L)) (fun i _ => 2 - (intOf i).toNat)
      case atStart => exact ⟨0, by omega, rfl, hS4⟩
      clear hp' hcut hroom hS3 hS4 hSk hc0 hc1 hc2 hc3 hrd hp
      obtain ⟨j, hj, rfl, hSj⟩ := hrel
      obtain rfl | rfl | rfl : j = 0 ∨ j = 1 ∨ j = 2 := by omega
      case inr.inr =>
        go_wp2
        go_roundw
        case rel => exact ⟨k + 1, p', by omega, by go_num, hok, hcut', hroom', hSj⟩
        case measure => simp [intOf]; omega
      case inl =>
        have hlaw : p'.flightR 0 + p'.inboxR 1 ≤ p'.room ∧ p'.roomR 0 = if p'.x.shut then 0 else p'.room - (p'.flightR 0 + p'.inboxR 1) := Sock.room_law hok hcut' 0 (.inl rfl)
        obtain ⟨f, hf⟩ : ∃ f, p'.flightR 0 = f := ⟨_, rfl⟩
        obtain ⟨n, hn⟩ : ∃ n, p'.inboxR 1 = n := ⟨_, rfl⟩
        rw [hf, hn, hroom'] at hlaw
        obtain ⟨hle, hq⟩ := hlaw
        have Hz := Lib.hid (show ((rm - (f + n) : Nat) : Int) = (rm : Int) - ((f : Int) + (n : Int)) by omega)
        have Hz0 := Lib.hid (show ((0 : Nat) : Int) = 0 from rfl)
        cases hsh : p'.x.shut
        case' false =>
          have Hr := Lib.hid (show p'.roomR 0 = rm - (f + n) by rw [hq, hsh]; rfl)
        case' true =>
          have Hr := Lib.hid (show p'.roomR 0 = 0 by rw [hq, hsh]; rfl)
        all_goals
          have hcs := cell_blk (hSj.nth 1 rfl) 0
          simp only [hsh] at hcs
          have Hf := Lib.hid hf
          have Hn := Lib.hid hn
          have Hs := Lib.hid hsh
          clear hq hf hn hsh
          go_wp2_with (first
            | (go_at_call 19; (refine (flight_any b p' 0 w0 _ _ hSj hok).mono ?_; rintro r w5 ⟨rfl, rfl⟩; rw [Hf.out]))
            | (go_at_call 22; (refine (inbox_any b p' 1 w0 _ _ hSj hok).mono ?_; rintro r w5 ⟨rfl, rfl⟩; rw [Hn.out]))
            | (go_at_call 23; (refine (room_any b p' 0 w0 _ _ hSj hok).mono ?_; rintro r w6 ⟨rfl, hS6⟩; rw [Hr.out]; (first | rw [Hz.out] | rw [Hz0.out]); have hcs6 := cell_blk (hS6.nth 1 rfl) 0; simp only [Hs.out] at hcs6)))
          go_roundw
          case rel => exact ⟨0 + 1, by omega, by go_num, by simp only [Hs.out] at hS6; exact hS6⟩
          case measure => simp [intOf]
      case inr.inl =>
        have hlaw : p'.flightR 1 + p'.inboxR 0 ≤ p'.room ∧ p'.roomR 1 = if p'.y.shut then 0 else p'.room - (p'.flightR 1 + p'.inboxR 0) := Sock.room_law hok hcut' 1 (.inr rfl)
        obtain ⟨f, hf⟩ : ∃ f, p'.flightR 1 = f := ⟨_, rfl⟩
        obtain ⟨n, hn⟩ : ∃ n, p'.inboxR 0 = n := ⟨_, rfl⟩
        rw [hf, hn, hroom'] at hlaw
        obtain ⟨hle, hq⟩ := hlaw
        have Hz := Lib.hid (show ((rm - (f + n) : Nat) : Int) = (rm : Int) - ((f : Int) + (n : Int)) by omega)
        have Hz0 := Lib.hid (show ((0 : Nat) : Int) = 0 from rfl)
        cases hsh : p'.y.shut
        case' false =>
          have Hr := Lib.hid (show p'.roomR 1 = rm - (f + n) by rw [hq, hsh]; rfl)
        case' true =>
          have Hr := Lib.hid (show p'.roomR 1 = 0 by rw [hq, hsh]; rfl)
        all_goals
          have hcs := cell_blk (hSj.nth 1 rfl) 1
          simp only [hsh] at hcs
          have Hf := Lib.hid hf
          have Hn := Lib.hid hn
          have Hs := Lib.hid hsh
          clear hq hf hn hsh
          go_wp2_with (first
            | (go_at_call 19; (refine (flight_any b p' 1 w0 _ _ hSj hok).mono ?_; rintro r w5 ⟨rfl, rfl⟩; rw [Hf.out]))
            | (go_at_call 22; (refine (inbox_any b p' 0 w0 _ _ hSj hok).mono ?_; rintro r w5 ⟨rfl, rfl⟩; rw [Hn.out]))
            | (go_at_call 23; (refine (room_any b p' 1 w0 _ _ hSj hok).mono ?_; rintro r w6 ⟨rfl, hS6⟩; rw [Hr.out]; (first | rw [Hz.out] | rw [Hz0.out]); have hcs6 := cell_blk (hS6.nth 1 rfl) 1; simp only [Hs.out] at hcs6)))
          go_roundw
          case rel => exact ⟨1 + 1, by omega, by go_num, by simp only [Hs.out] at hS6; exact hS6⟩
          case measure => simp [intOf]
    by_cases hk4 : kd = 4
    case pos =>
      subst hk4
      go_wp2_with (first
        | (go_at_call 18; (refine (read_any E b p e w0 _ _ hE hp hS3 num).mono ?_; rintro r w4 ⟨v4, rfl, hS4⟩; replace hS4 := hS4.drop)))
      have hkp := Sock.read_keeps hp e num
      obtain ⟨p', hp'⟩ : ∃ p', p' = (p.readR e num).2.2 := ⟨_, rfl⟩
      rw [← hp'] at hkp hS4
      rw [← hkp.x, ← hkp.y] at hS4
      replace hS4 := (hS4.pick 1).drop
      have hok := hkp.ok
      have hcut' := hkp.cut.trans hcut
      have hroom' := hkp.room.trans hroom
      clear hkp
      go_loopw [75] (fun i wr' => ∃ j : Nat, j ≤ 2 ∧ i = .int .i64 j ∧ Sat w0 wr' (isPair b p' :: Blk w2.heap.size (.cells #[.bool p'.x.shut, .bool p'.y.shut] 45) :: L)) (fun i _ => 2 - (intOf i).toNat)
      case atStart => exact ⟨0, by omega, rfl, hS4⟩
      clear hp' hcut hroom hS3 hS4 hSk hc0 hc1 hc2 hc3 hrd hp
      obtain ⟨j, hj, rfl, hSj⟩ := hrel
      obtain rfl | rfl | rfl : j = 0 ∨ j = 1 ∨ j = 2 := by omega
      case inr.inr =>
        go_wp2
        go_roundw
        case rel => exact ⟨k + 1, p', by omega, by go_num, hok, hcut', hroom', hSj⟩
        case measure => simp [intOf]; omega
      case inl =>
        have hlaw : p'.flightR 0 + p'.inboxR 1 ≤ p'.room ∧ p'.roomR 0 = if p'.x.shut then 0 else p'.room - (p'.flightR 0 + p'.inboxR 1) := Sock.room_law hok hcut' 0 (.inl rfl)
        obtain ⟨f, hf⟩ : ∃ f, p'.flightR 0 = f := ⟨_, rfl⟩
        obtain ⟨n, hn⟩ : ∃ n, p'.inboxR 1 = n := ⟨_, rfl⟩
        rw [hf, hn, hroom'] at hlaw
        obtain ⟨hle, hq⟩ := hlaw
        have Hz := Lib.hid (show ((rm - (f + n) : Nat) : Int) = (rm : Int) - ((f : Int) + (n : Int)) by omega)
        have Hz0 := Lib.hid (show ((0 : Nat) : Int) = 0 from rfl)
        cases hsh : p'.x.shut
        case' false =>
          have Hr := Lib.hid (show p'.roomR 0 = rm - (f + n) by rw [hq, hsh]; rfl)
        case' true =>
          have Hr := Lib.hid (show p'.roomR 0 = 0 by rw [hq, hsh]; rfl)
        all_goals
          have hcs := cell_blk (hSj.nth 1 rfl) 0
          simp only [hsh] at hcs
          have Hf := Lib.hid hf
          have Hn := Lib.hid hn
          have Hs := Lib.hid hsh
          clear hq hf hn hsh
          go_wp2_with (first
            | (go_at_call 19; (refine (flight_any b p' 0 w0 _ _ hSj hok).mono ?_; rintro r w5 ⟨rfl, rfl⟩; rw [Hf.out]))
            | (go_at_call 22; (refine (inbox_any b p' 1 w0 _ _ hSj hok).mono ?_; rintro r w5 ⟨rfl, rfl⟩; rw [Hn.out]))
            | (go_at_call 23; (refine (room_any b p' 0 w0 _ _ hSj hok).mono ?_; rintro r w6 ⟨rfl, hS6⟩; rw [Hr.out]; (first | rw [Hz.out] | rw [Hz0.out]); have hcs6 := cell_blk (hS6.nth 1 rfl) 0; simp only [Hs.out] at hcs6)))
          go_roundw
          case rel => exact ⟨0 + 1, by omega, by go_num, by simp only [Hs.out] at hS6; exact hS6⟩
          case measure => simp [intOf]
      case inr.inl =>
        have hlaw : p'.flightR 1 + p'.inboxR 0 ≤ p'.room ∧ p'.roomR 1 = if p'.y.shut then 0 else p'.room - (p'.flightR 1 + p'.inboxR 0) := Sock.room_law hok hcut' 1 (.inr rfl)
        obtain ⟨f, hf⟩ : ∃ f, p'.flightR 1 = f := ⟨_, rfl⟩
        obtain ⟨n, hn⟩ : ∃ n, p'.inboxR 0 = n := ⟨_, rfl⟩
        rw [hf, hn, hroom'] at hlaw
        obtain ⟨hle, hq⟩ := hlaw
        have Hz := Lib.hid (show ((rm - (f + n) : Nat) : Int) = (rm : Int) - ((f : Int) + (n : Int)) by omega)
        have Hz0 := Lib.hid (show ((0 : Nat) : Int) = 0 from rfl)
        cases hsh : p'.y.shut
        case' false =>
          have Hr := Lib.hid (show p'.roomR 1 = rm - (f + n) by rw [hq, hsh]; rfl)
        case' true =>
          have Hr := Lib.hid (show p'.roomR 1 = 0 by rw [hq, hsh]; rfl)
        all_goals
          have hcs := cell_blk (hSj.nth 1 rfl) 1
          simp only [hsh] at hcs
          have Hf := Lib.hid hf
          have Hn := Lib.hid hn
          have Hs := Lib.hid hsh
          clear hq hf hn hsh
          go_wp2_with (first
            | (go_at_call 19; (refine (flight_any b p' 1 w0 _ _ hSj hok).mono ?_; rintro r w5 ⟨rfl, rfl⟩; rw [Hf.out]))
            | (go_at_call 22; (refine (inbox_any b p' 0 w0 _ _ hSj hok).mono ?_; rintro r w5 ⟨rfl, rfl⟩; rw [Hn.out]))
            | (go_at_call 23; (refine (room_any b p' 1 w0 _ _ hSj hok).mono ?_; rintro r w6 ⟨rfl, hS6⟩; rw [Hr.out]; (first | rw [Hz.out] | rw [Hz0.out]); have hcs6 := cell_blk (hS6.nth 1 rfl) 1; simp only [Hs.out] at hcs6)))
          go_roundw
          case rel => exact ⟨1 + 1, by omega, by go_num, by simp only [Hs.out] at hS6; exact hS6⟩
          case measure => simp [intOf]
    have t1 : (kd == 1) = false := by simpa using hk1
    have t2 : (kd == 2) = false := by simpa using hk2
    have t3 : (kd == 3) = false := by simpa using hk3
    have t4 : (kd == 4) = false := by simpa using hk4
    clear hk1 hk2 hk3 hk4
    go_wp2
    obtain ⟨p', hp', hok, hcut', hroom', hS4⟩ : ∃ p', p' = p ∧ p'.ok ∧ p'.cut = false ∧ p'.room = rm ∧ Sat w0 _ (isPair b p' :: Blk w2.heap.size (.cells #[.bool p'.x.shut, .bool p'.y.shut] 45) :: L) := ⟨p, rfl, hp, hcut, hroom, (hS3.pick 1).drop⟩
    go_loopw [75] (fun i wr' => ∃ j : Nat, j ≤ 2 ∧ i = .int .i64 j ∧ Sat w0 wr' (isPair b p' :: Blk w2.heap.size (.cells #[.bool p'.x.shut, .bool p'.y.shut] 45) :: L)) (fun i _ => 2 - (intOf i).toNat)
    case atStart => exact ⟨0, by omega, rfl, hS4⟩
    clear hp' hcut hroom hS3 hS4 hSk hc0 hc1 hc2 hc3 hrd hp
    obtain ⟨j, hj, rfl, hSj⟩ := hrel
    obtain rfl | rfl | rfl : j = 0 ∨ j = 1 ∨ j = 2 := by omega
    case inr.inr =>
      go_wp2
      go_roundw
      case rel => exact ⟨k + 1, p', by omega, by go_num, hok, hcut', hroom', hSj⟩
      case measure => simp [intOf]; omega
    case inl =>
      have hlaw : p'.flightR 0 + p'.inboxR 1 ≤ p'.room ∧ p'.roomR 0 = if p'.x.shut then 0 else p'.room - (p'.flightR 0 + p'.inboxR 1) := Sock.room_law hok hcut' 0 (.inl rfl)
      obtain ⟨f, hf⟩ : ∃ f, p'.flightR 0 = f := ⟨_, rfl⟩
      obtain ⟨n, hn⟩ : ∃ n, p'.inboxR 1 = n := ⟨_, rfl⟩
      rw [hf, hn, hroom'] at hlaw
      obtain ⟨hle, hq⟩ := hlaw
      have Hz := Lib.hid (show ((rm - (f + n) : Nat) : Int) = (rm : Int) - ((f : Int) + (n : Int)) by omega)
      have Hz0 := Lib.hid (show ((0 : Nat) : Int) = 0 from rfl)
      cases hsh : p'.x.shut
      case' false =>
        have Hr := Lib.hid (show p'.roomR 0 = rm - (f + n) by rw [hq, hsh]; rfl)
      case' true =>
        have Hr := Lib.hid (show p'.roomR 0 = 0 by rw [hq, hsh]; rfl)
      all_goals
        have hcs := cell_blk (hSj.nth 1 rfl) 0
        simp only [hsh] at hcs
        have Hf := Lib.hid hf
        have Hn := Lib.hid hn
        have Hs := Lib.hid hsh
        clear hq hf hn hsh
        go_wp2_with (first
          | (go_at_call 19; (refine (flight_any b p' 0 w0 _ _ hSj hok).mono ?_; rintro r w5 ⟨rfl, rfl⟩; rw [Hf.out]))
          | (go_at_call 22; (refine (inbox_any b p' 1 w0 _ _ hSj hok).mono ?_; rintro r w5 ⟨rfl, rfl⟩; rw [Hn.out]))
          | (go_at_call 23; (refine (room_any b p' 0 w0 _ _ hSj hok).mono ?_; rintro r w6 ⟨rfl, hS6⟩; rw [Hr.out]; (first | rw [Hz.out] | rw [Hz0.out]); have hcs6 := cell_blk (hS6.nth 1 rfl) 0; simp only [Hs.out] at hcs6)))
        go_roundw
        case rel => exact ⟨0 + 1, by omega, by go_num, by simp only [Hs.out] at hS6; exact hS6⟩
        case measure => simp [intOf]
    case inr.inl =>
      have hlaw : p'.flightR 1 + p'.inboxR 0 ≤ p'.room ∧ p'.roomR 1 = if p'.y.shut then 0 else p'.room - (p'.flightR 1 + p'.inboxR 0) := Sock.room_law hok hcut' 1 (.inr rfl)
      obtain ⟨f, hf⟩ : ∃ f, p'.flightR 1 = f := ⟨_, rfl⟩
      obtain ⟨n, hn⟩ : ∃ n, p'.inboxR 0 = n := ⟨_, rfl⟩
      rw [hf, hn, hroom'] at hlaw
      obtain ⟨hle, hq⟩ := hlaw
      have Hz := Lib.hid (show ((rm - (f + n) : Nat) : Int) = (rm : Int) - ((f : Int) + (n : Int)) by omega)
      have Hz0 := Lib.hid (show ((0 : Nat) : Int) = 0 from rfl)
      cases hsh : p'.y.shut
      case' false =>
        have Hr := Lib.hid (show p'.roomR 1 = rm - (f + n) by rw [hq, hsh]; rfl)
      case' true =>
        have Hr := Lib.hid (show p'.roomR 1 = 0 by rw [hq, hsh]; rfl)
      all_goals
        have hcs := cell_blk (hSj.nth 1 rfl) 1
        simp only [hsh] at hcs
        have Hf := Lib.hid hf
        have Hn := Lib.hid hn
        have Hs := Lib.hid hsh
        clear hq hf hn hsh
        go_wp2_with (first
          | (go_at_call 19; (refine (flight_any b p' 1 w0 _ _ hSj hok).mono ?_; rintro r w5 ⟨rfl, rfl⟩; rw [Hf.out]))
          | (go_at_call 22; (refine (inbox_any b p' 0 w0 _ _ hSj hok).mono ?_; rintro r w5 ⟨rfl, rfl⟩; rw [Hn.out]))
          | (go_at_call 23; (refine (room_any b p' 1 w0 _ _ hSj hok).mono ?_; rintro r w6 ⟨rfl, hS6⟩; rw [Hr.out]; (first | rw [Hz.out] | rw [Hz0.out]); have hcs6 := cell_blk (hS6.nth 1 rfl) 1; simp only [Hs.out] at hcs6)))
        go_roundw
        case rel => exact ⟨1 + 1, by omega, by go_num, by simp only [Hs.out] at hS6; exact hS6⟩
        case measure => simp [intOf]
end Go.Proofs.YtndnojbpapjdoaaDoor
