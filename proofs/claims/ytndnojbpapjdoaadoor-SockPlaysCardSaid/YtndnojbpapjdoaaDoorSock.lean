/- What the calls of package sock make of a pair in memory. -/
import Derived.Test.YtndnojbpapjdoaaDoorOps
import Derived.Test.YtndnojbpapjdoaaDoorSockS
import Derived.Test.YtndnojbpapjdoaaDoorProg
import Derived.Says
import Derived.OwnWalk
import Derived.Outline
import Derived.Lib.Hide
namespace Go.Proofs.YtndnojbpapjdoaaDoor
open Go.Sp Go.RowKit

def Ways (b : Nat) (p : Sock.Pair) (f0 i0 f1 i1 : Value) : List Asn :=
  [Blk b (.cells #[.int .i64 p.room, f0, i0, .bool p.x.shut, .bool p.x.ended, f1, i1, .bool p.y.shut, .bool p.y.ended, .bool p.cut] 88),
   Bytes 5 f0 p.x.fl, Bytes 5 i0 p.x.inb, Bytes 5 f1 p.y.fl, Bytes 5 i1 p.y.inb]
def isPair (b : Nat) (p : Sock.Pair) : Asn := fun h => ∃ f0 i0 f1 i1, star (Ways b p f0 i0 f1 i1) h

theorem info5 : (Tryd.prog.info? 5).map (fun i => (i.zero, i.size, i.bytes)) = some (some (.int .u8 0), 1, 1) := by kernel_rfl


theorem sl22 : SliceT Tryd.prog 22 5 1 1 := .mk Tryd.underlying22 info5 rfl

theorem isPair_open {w0 w : World} {L : List Asn} {b : Nat} {p : Sock.Pair} (h : Sat w0 w (isPair b p :: L)) : ∃ f0 i0 f1 i1, Sat w0 w (Ways b p f0 i0 f1 i1 ++ L) := by
  have h1 : Sat w0 w (Ex (fun f0 => Ex fun i0 => Ex fun f1 => Ex fun i1 => fun h => star (Ways b p f0 i0 f1 i1) h) :: L) := h
  obtain ⟨f0, h1⟩ := Sat.ex.1 h1
  obtain ⟨i0, h1⟩ := Sat.ex.1 h1
  obtain ⟨f1, h1⟩ := Sat.ex.1 h1
  obtain ⟨i1, h1⟩ := Sat.ex.1 h1
  exact ⟨f0, i0, f1, i1, Sat.stars.1 h1⟩
theorem isPair_shut {L : List Asn} {b : Nat} {p : Sock.Pair} {f0 i0 f1 i1 : Value} : Ent (Ways b p f0 i0 f1 i1 ++ L) (isPair b p :: L) :=
  fun _ h => star_head (star_stars.2 h) fun _ h => ⟨f0, i0, f1, i1, h⟩


theorem known_no (e : Int) (h : ¬ (e = 0 ∨ e = 1)) (w : World) : Calls Tryd.prog 49 #[.int .i64 e] w fun r w' => r = .returned (.bool false) ∧ w = w' := by
  have h0 : (e == 0) = false := by simpa using fun h1 => h (.inl h1)
  have h1 : (e == 1) = false := by simpa using fun h1 => h (.inr h1)
  go_enter Tryd.func49, Tryd.ntmps49
  go_wp2
  go_ret
  exact ⟨rfl, rfl⟩
theorem known_yes (e : Int) (h : e = 0 ∨ e = 1) (w : World) : Calls Tryd.prog 49 #[.int .i64 e] w fun r w' => r = .returned (.bool true) ∧ w = w' := by
  rcases h with rfl | rfl <;>
  · go_enter Tryd.func49, Tryd.ntmps49
    go_wp2
    go_ret
    exact ⟨rfl, rfl⟩
/-- Where the way from an end begins. -/
def off (e : Int) : Nat := if e = 0 then 1 else 5
@[simp] theorem off_zero : off 0 = 1 := rfl
@[simp] theorem off_one : off 1 = 5 := rfl
theorem from_any (b : Nat) (e : Int) (h : e = 0 ∨ e = 1) (w : World) : Calls Tryd.prog 50 #[.pointer (some ⟨b, 0, none⟩), .int .i64 e] w fun r w' => r = .returned (.pointer (some ⟨b, off e, none⟩)) ∧ w = w' := by
  rcases h with rfl | rfl <;>
  · go_enter Tryd.func50, Tryd.ntmps50
    go_wp2
    go_ret
    exact ⟨rfl, rfl⟩
theorem to_any (b : Nat) (e : Int) (h : e = 0 ∨ e = 1) (w : World) : Calls Tryd.prog 53 #[.pointer (some ⟨b, 0, none⟩), .int .i64 e] w fun r w' => r = .returned (.pointer (some ⟨b, off (1 - e), none⟩)) ∧ w = w' := by
  rcases h with rfl | rfl <;>
  · go_enter Tryd.func53, Tryd.ntmps53
    go_wp2
    go_ret
    exact ⟨rfl, rfl⟩
set_option maxRecDepth 100000 in
theorem left_any (b o : Nat) (room nf ni : Nat) (af ai : Option Addr) (cf ci : Nat) (w : World) (h0 : w.cell? ⟨b, 0, none⟩ = some (.int .i64 room)) (h1 : w.cell? ⟨b, o, none⟩ = some (.slice af nf cf)) (h2 : w.cell? ⟨b, o + 1, none⟩ = some (.slice ai ni ci))
    (hr : nf + ni ≤ room) (hroom : room ≤ 65536) :
    Calls Tryd.prog 51 #[.pointer (some ⟨b, 0, none⟩), .pointer (some ⟨b, o, none⟩)] w fun r w' => r = .returned (.int .i64 ((room - (nf + ni) : Nat) : Int)) ∧ w.drew = w' := by
  go_enter Tryd.func51, Tryd.ntmps51
  go_wp2_with (first | (with_reducible refine Txt.wp_region_text (by kernel_rfl) (by kernel_rfl) ?_; intro Q' hQ') | (with_reducible refine Txt.wpTxt_nil ?_) | ((with_reducible apply Txt.wpTxt_plain); (focus rfl); (focus rfl); intro _ _))
  go_ret
  refine ⟨?_, rfl⟩
  have e : ((room : Int) - nf - ni) = ((room - (nf + ni) : Nat) : Int) := by omega
  rw [← e]; rfl

/-- The cells of a pair, one way of them given. -/
structure At (b : Nat) (p : Sock.Pair) (e : Int) (cs : Array Value) (f i : Value) : Prop where
  size : cs.size = 10
  room : cs[0]? = some (.int .i64 p.room)
  cut : cs[9]? = some (.bool p.cut)
  fl : cs[off e]? = some f
  inb : cs[off e + 1]? = some i
  shut : cs[off e + 2]? = some (.bool (p.way e).shut)
  ended : cs[off e + 3]? = some (.bool (p.way e).ended)

theorem set_same {cs : Array Value} {i : Nat} {v : Value} (h : cs[i]? = some v) : cs.setIfInBounds i v = cs := by
  apply Array.ext_getElem?
  intro j
  rw [Array.getElem?_setIfInBounds]
  split
  · subst_vars
    rw [h, if_pos (Array.getElem?_eq_some_iff.1 h).1]
  · rfl

/-- A pair is opened at one of its ways, and shut again with another content of that way. -/
theorem isPair_at {w0 w : World} {L : List Asn} {b : Nat} {p : Sock.Pair} (h : Sat w0 w (isPair b p :: L)) (e : Int) (he : e = 0 ∨ e = 1) :
    ∃ cs f i M, At b p e cs f i ∧ Sat w0 w (Bytes 5 f (p.way e).fl :: Bytes 5 i (p.way e).inb :: Blk b (.cells cs 88) :: M) ∧
      ∀ (f' i' : Value) (y : Sock.Way), Ent (Bytes 5 f' y.fl :: Bytes 5 i' y.inb :: Blk b (.cells ((((cs.setIfInBounds (off e) f').setIfInBounds (off e + 1) i').setIfInBounds (off e + 2) (.bool y.shut)).setIfInBounds (off e + 3) (.bool y.ended)) 88) :: M) (isPair b (p.put e y) :: L) := by
  obtain ⟨f0, i0, f1, i1, hS⟩ := isPair_open h
  rcases he with rfl | rfl
  · refine ⟨#[.int .i64 p.room, f0, i0, .bool p.x.shut, .bool p.x.ended, f1, i1, .bool p.y.shut, .bool p.y.ended, .bool p.cut], f0, i0, Bytes 5 f1 p.y.fl :: Bytes 5 i1 p.y.inb :: L, ⟨rfl, rfl, rfl, rfl, rfl, rfl, rfl⟩, ((hS.pick 2).pick 2), ?_⟩
    intro f' i' y
    exact (Ent.pick 2 _).trans (isPair_shut (f0 := f') (i0 := i') (f1 := f1) (i1 := i1) (p := p.put 0 y))
  · refine ⟨#[.int .i64 p.room, f0, i0, .bool p.x.shut, .bool p.x.ended, f1, i1, .bool p.y.shut, .bool p.y.ended, .bool p.cut], f1, i1, Bytes 5 f0 p.x.fl :: Bytes 5 i0 p.x.inb :: L, ⟨rfl, rfl, rfl, rfl, rfl, rfl, rfl⟩, ((hS.pick 4).pick 4), ?_⟩
    intro f' i' y
    exact (((Ent.pick 4 _).trans (Ent.pick 4 _)).trans (Ent.pick 4 _)).trans (isPair_shut (f0 := f0) (i0 := i0) (f1 := f') (i1 := i') (p := p.put 1 y))

set_option maxRecDepth 100000 in
set_option maxHeartbeats 400000 in
theorem write_ok (b : Nat) (p : Sock.Pair) (e : Int) (he : e = 0 ∨ e = 1) (hp : p.ok) (hcut : p.cut = false) (hsh : (p.way e).shut = false) (w0 w : World) (L : List Asn) (hS : Sat w0 w (isPair b p :: L)) (v : Value) (bs : List UInt8) (hb : Reads w v bs) :
    Calls Tryd.prog 15 #[.pointer (some ⟨b, 0, none⟩), .int .i64 e, v] w fun r w' =>
      r = .returned (.tuple #[.int .i64 (p.takes e bs.length : Nat), .nilIface]) ∧ Sat w0 w' (isPair b (p.write e bs) :: L) := by
  obtain ⟨cs, f, i, M, hat, hS, back⟩ := isPair_at hS e he
  have hway := Sock.Pair.way_le hp e
  have hroom := hp.2.2
  obtain ⟨a0, c0, rfl, _, hk1, hk2⟩ := hS.row_len
  obtain ⟨a1, c1, rfl, _, hk3, hk4⟩ := (hS.pick 1).row_len
  have hb0 := cell_blk (hS.nth 2 rfl)
  have hc0 := (hb0 0).trans hat.room
  have hc1 := (hb0 9).trans hat.cut
  have hc2 := (hb0 _).trans hat.fl
  have hc3 := (hb0 _).trans hat.inb
  have hc4 := (hb0 _).trans hat.shut
  rw [hcut] at hc1
  rw [hsh] at hc4
  obtain ⟨a4, c4, rfl, hbl, hbm, _, _⟩ := id hb
  unfold maxLen at *
  have hat' := Lib.hid hat
  have hcut' := Lib.hid hcut
  have hsh' := Lib.hid hsh
  clear hat hb0 hcut hsh hp
  rename_i hx1 hx2 hx3 hx4
  clear hx1 hx2 hx3 hx4
  have fin : ∀ (w' : World) (v' : Value) (n : Nat), n = p.takes e bs.length → n ≤ bs.length →
      Sat w0 w' (Row 5 1 v' ((p.way e).fl.length + n) ((p.way e).fl.map B ++ (bs.take n).map B) :: Bytes 5 (.slice a1 (p.way e).inb.length c1) (p.way e).inb :: Blk b (.cells (cs.setIfInBounds (off e) v') 88) :: M) → Sat w0 w' (isPair b (p.write e bs) :: L) := by
    intro w' v' n hn hle hs
    subst hn
    refine Sat.ent ?_ (back v' (.slice a1 (p.way e).inb.length c1) { p.way e with fl := (p.way e).fl ++ bs.take (p.takes e bs.length) })
    have hcs : ∀ j, j ≠ off e → (cs.setIfInBounds (off e) v')[j]? = cs[j]? := fun j hj => by rw [Array.getElem?_setIfInBounds_ne (Ne.symm hj)]
    rw [set_same (i := off e + 1) ((hcs _ (by omega)).trans hat'.out.inb), set_same (i := off e + 2) ((hcs _ (by omega)).trans hat'.out.shut), set_same (i := off e + 3) ((hcs _ (by omega)).trans hat'.out.ended)]
    unfold Bytes
    simp only [List.length_append, List.length_take, List.map_append, Nat.min_eq_left hle]
    exact hs
  by_cases hle : bs.length < p.room - ((p.way e).fl.length + (p.way e).inb.length)
  all_goals
    go_enter Tryd.func15, Tryd.ntmps15
    go_wp2_with (first | (go_at_call 49; refine (known_yes _ he _).mono ?_; rintro r w' ⟨rfl, rfl⟩) | (go_at_call 50; refine (from_any _ _ he _).mono ?_; rintro r w' ⟨rfl, rfl⟩) | (go_at_call 51; refine (left_any _ _ p.room _ _ _ _ _ _ _ hc0 hc2 hc3 hway hroom).mono ?_; rintro r w' ⟨rfl, rfl⟩) | (with_reducible refine Txt.wp_region_text (by kernel_rfl) (by kernel_rfl) ?_; intro Q' hQ') | (with_reducible refine Txt.wpTxt_nil ?_) | ((with_reducible apply txt_append sl22); (focus exact hS.drew.drew); (focus rfl); (focus rfl); (focus refine Src.reads Tryd.underlying22 hb ?_ _ _ ?_; (focus rfl); omega); (focus (unfold maxLen; omega)); (focus omega); intro v' w' hS2; obtain ⟨a5, c5, rfl, _⟩ := hS2.row_len; have hc5 := (cell_blk (hS2.nth 2 rfl) _).trans hat'.out.fl; have hf2 := free_blk (hS2.nth 2 rfl)) | ((with_reducible apply Txt.wpTxt_plain); (focus rfl); (focus rfl); intro _ _))
    go_ret2
    refine ⟨?_, fin _ _ _ ?_ ?_ ((((hS2.pick 2).store (off e) _).pick 2).pick 2)⟩
  · unfold Sock.Pair.takes Sock.Way.held
    rw [Nat.min_eq_right (by omega)]; rfl
  · unfold Sock.Pair.takes Sock.Way.held
    rw [Nat.min_eq_right (by omega)]
  · omega
  · unfold Sock.Pair.takes Sock.Way.held
    rw [Nat.min_eq_left (by omega)]; rfl
  · unfold Sock.Pair.takes Sock.Way.held
    rw [Nat.min_eq_left (by omega)]
  · omega
end Go.Proofs.YtndnojbpapjdoaaDoor
