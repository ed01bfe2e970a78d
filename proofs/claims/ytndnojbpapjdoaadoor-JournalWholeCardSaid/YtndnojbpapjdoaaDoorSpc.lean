/- The plain words of hash, fields, drum and journal, and what is true of them. No program is named here. -/
set_option linter.unusedSimpArgs false
set_option linter.unusedVariables false
set_option linter.unusedSectionVars false
namespace Go.Sha

def rotr (x : UInt32) (n : Nat) : UInt32 := (x <<< UInt32.ofNat (32 - n)) ||| (x >>> UInt32.ofNat n)
structure St where
  a : UInt32
  b : UInt32
  c : UInt32
  d : UInt32
  e : UInt32
  f : UInt32
  g : UInt32
  h : UInt32
def first : St := ⟨1779033703, 3144134277, 1013904242, 2773480762, 1359893119, 2600822924, 528734635, 1541459225⟩
def K : List UInt32 := [
  0x428a2f98, 0x71374491, 0xb5c0fbcf, 0xe9b5dba5, 0x3956c25b, 0x59f111f1, 0x923f82a4, 0xab1c5ed5,
  0xd807aa98, 0x12835b01, 0x243185be, 0x550c7dc3, 0x72be5d74, 0x80deb1fe, 0x9bdc06a7, 0xc19bf174,
  0xe49b69c1, 0xefbe4786, 0x0fc19dc6, 0x240ca1cc, 0x2de92c6f, 0x4a7484aa, 0x5cb0a9dc, 0x76f988da,
  0x983e5152, 0xa831c66d, 0xb00327c8, 0xbf597fc7, 0xc6e00bf3, 0xd5a79147, 0x06ca6351, 0x14292967,
  0x27b70a85, 0x2e1b2138, 0x4d2c6dfc, 0x53380d13, 0x650a7354, 0x766a0abb, 0x81c2c92e, 0x92722c85,
  0xa2bfe8a1, 0xa81a664b, 0xc24b8b70, 0xc76c51a3, 0xd192e819, 0xd6990624, 0xf40e3585, 0x106aa070,
  0x19a4c116, 0x1e376c08, 0x2748774c, 0x34b0bcb5, 0x391c0cb3, 0x4ed8aa4a, 0x5b9cca4f, 0x682e6ff3,
  0x748f82ee, 0x78a5636f, 0x84c87814, 0x8cc70208, 0x90befffa, 0xa4506ceb, 0xbef9a3f7, 0xc67178f2]
theorem K_length : K.length = 64 := rfl
/-- The t-th word of a piece. -/
def word (p : List UInt8) (t : Nat) : UInt32 :=
  ((((p.getD (4 * t) 0).toUInt32 <<< UInt32.ofNat 24) ||| ((p.getD (4 * t + 1) 0).toUInt32 <<< UInt32.ofNat 16)) ||| ((p.getD (4 * t + 2) 0).toUInt32 <<< UInt32.ofNat 8)) ||| (p.getD (4 * t + 3) 0).toUInt32
def ext (w : List UInt32) (t : Nat) : UInt32 :=
  let x := w.getD (t - 15) 0
  let y := w.getD (t - 2) 0
  ((w.getD (t - 16) 0 + w.getD (t - 7) 0) + ((rotr x 7 ^^^ rotr x 18) ^^^ (x >>> UInt32.ofNat 3))) + ((rotr y 17 ^^^ rotr y 19) ^^^ (y >>> UInt32.ofNat 10))
def sched (p : List UInt8) : Nat → List UInt32
  | 0 => []
  | n + 1 => sched p n ++ [if n < 16 then word p n else ext (sched p n) n]
theorem sched_length (p : List UInt8) (n : Nat) : (sched p n).length = n := by
  induction n with
  | zero => rfl
  | succ n ih => simp [sched, ih]
def St.one (s : St) (k w : UInt32) : UInt32 :=
  (((s.h + ((rotr s.e 6 ^^^ rotr s.e 11) ^^^ rotr s.e 25)) + ((s.e &&& s.f) ^^^ (~~~s.e &&& s.g))) + k) + w
def St.two (s : St) : UInt32 := ((rotr s.a 2 ^^^ rotr s.a 13) ^^^ rotr s.a 22) + (((s.a &&& s.b) ^^^ (s.a &&& s.c)) ^^^ (s.b &&& s.c))
def St.round (s : St) (k w : UInt32) : St := ⟨s.one k w + s.two, s.a, s.b, s.c, s.d + s.one k w, s.e, s.f, s.g⟩
def rounds (s : St) (w : List UInt32) : Nat → St
  | 0 => s
  | n + 1 => (rounds s w n).round (K.getD n 0) (w.getD n 0)
def St.plus (s r : St) : St := ⟨s.a + r.a, s.b + r.b, s.c + r.c, s.d + r.d, s.e + r.e, s.f + r.f, s.g + r.g, s.h + r.h⟩
def St.list (s : St) : List UInt32 := [s.a, s.b, s.c, s.d, s.e, s.f, s.g, s.h]
def St.piece (s : St) (p : List UInt8) : St := s.plus (rounds s (sched p 64) 64)
/-- All whole pieces are taken. -/
def absorb (s : St) (l : List UInt8) : St × List UInt8 :=
  if h : 64 ≤ l.length then absorb (s.piece (l.take 64)) (l.drop 64) else (s, l)
termination_by l.length
decreasing_by simp; omega
structure Sh where
  st : St
  rest : List UInt8
  n : UInt64
def Sh.take (s : Sh) (b : List UInt8) : Sh := ⟨(absorb s.st (s.rest ++ b)).1, (absorb s.st (s.rest ++ b)).2, s.n + UInt64.ofNat b.length⟩
def Sh.takes (s : Sh) : Nat → Sh
  | 0 => s
  | n + 1 => (s.takes n).take [0]
theorem absorb_lt (s : St) (l : List UInt8) : (absorb s l).2.length < 64 := by
  unfold absorb
  split
  · exact absorb_lt _ _
  · simp only; omega
termination_by l.length
decreasing_by simp; omega
theorem absorb_le (s : St) (l : List UInt8) : (absorb s l).2.length ≤ l.length := by
  unfold absorb
  split
  · exact Nat.le_trans (absorb_le _ _) (by simp)
  · exact Nat.le_refl _
termination_by l.length
decreasing_by simp; omega
theorem absorb_step (s : St) (l : List UInt8) (h : 64 ≤ l.length) : absorb s l = absorb (s.piece (l.take 64)) (l.drop 64) := by
  rw [absorb, dif_pos h]
theorem absorb_stop (s : St) (l : List UInt8) (h : l.length < 64) : absorb s l = (s, l) := by
  rw [absorb, dif_neg (by omega)]
theorem Sh.take_lt (s : Sh) (b : List UInt8) : (s.take b).rest.length < 64 := absorb_lt _ _
theorem Sh.take_zero_len (s : Sh) (h : s.rest.length < 64) : (s.take [0]).rest.length = if s.rest.length = 63 then 0 else s.rest.length + 1 := by
  unfold Sh.take
  simp only
  by_cases h6 : s.rest.length = 63
  · rw [absorb_step _ _ (by simp; omega), absorb_stop _ _ (by simp; omega)]
    simp [h6]
  · rw [absorb_stop _ _ (by simp; omega)]
    simp [h6]
/-- How many bytes of nought stand ahead of the length. -/
def padN (r : Nat) : Nat := (120 - r) % 64
def be8 (x : UInt64) : List UInt8 := (List.range 8).map fun i => (x >>> UInt64.ofNat (56 - 8 * i)).toUInt8
def St.bytes (s : St) : List UInt8 := s.list.flatMap fun w => (List.range 4).map fun k => (w >>> UInt32.ofNat (24 - 8 * k)).toUInt8
def Sh.fin (s : Sh) : List UInt8 :=
  let s1 := s.take [0x80]
  let s2 := s1.takes (padN s1.rest.length)
  (s2.take (be8 (s.n * 8))).st.bytes
def start : Sh := ⟨first, [], 0⟩
def digest (l : List UInt8) : List UInt8 := (start.take l).fin
def check (l : List UInt8) : List UInt8 := (digest l).take 4
theorem length_bytes (s : St) : s.bytes.length = 32 := rfl
theorem length_check (l : List UInt8) : (check l).length = 4 := by
  unfold check digest Sh.fin
  rw [List.length_take, length_bytes]
  rfl
end Go.Sha
namespace Go.Fld

def isLetter (c : UInt8) : Bool := c == 98 || c == 104 || c == 119 || c == 113 || c == 102 || c == 116 || c == 114
def width (c : UInt8) : Nat := if c = 98 ∨ c = 116 then 1 else if c = 104 ∨ c = 114 then 2 else if c = 119 then 4 else 8
def isText (c : UInt8) : Bool := c == 116 || c == 114
theorem width_pos (c : UInt8) : 1 ≤ width c ∧ width c ≤ 8 := by
  unfold width; constructor <;> (repeat' split) <;> omega
/-- A number, in so many bytes, the greatest first. -/
def be (x : UInt64) : Nat → List UInt8
  | 0 => []
  | n + 1 => (x >>> UInt64.ofNat (8 * n)).toUInt8 :: be x n
theorem length_be (x : UInt64) (n : Nat) : (be x n).length = n := by
  induction n with
  | zero => rfl
  | succ n ih => simp [be, ih]
/-- The greatest number of so many bytes. -/
def most (n : Nat) : Nat := 256 ^ n - 1
structure Cell where
  n : Int
  s : List UInt8
/-- Does a field take what it is given? (Letters but 'f'.) -/
def fits (c : UInt8) (x : Cell) : Prop := if isText c then x.s.length ≤ most (width c) else 0 ≤ x.n ∧ x.n ≤ most (width c)
def cellB (c : UInt8) (x : Cell) : List UInt8 := if isText c then be (UInt64.ofNat x.s.length) (width c) ++ x.s else be (UInt64.ofNat x.n.toNat) (width c)
/-- Fields, one behind the other. -/
def enc : List UInt8 → List Cell → List UInt8
  | c :: l, x :: r => cellB c x ++ enc l r
  | _, _ => []
/-- A number out of bytes. -/
def num (l : List UInt8) : Nat := l.foldl (fun u b => u * 256 + b.toNat) 0
/-- The field with which bytes begin, and how many bytes it has; none: the error's number. -/
def get (b : List UInt8) (c : UInt8) : Except Nat (Cell × Nat) :=
  if b.length < width c then .error 2
  else if isText c then (if b.length - width c < num (b.take (width c)) then .error 2 else .ok (⟨0, (b.drop (width c)).take (num (b.take (width c)))⟩, width c + num (b.take (width c))))
  else if 9223372036854775807 < num (b.take (width c)) then .error 1
  else .ok (⟨num (b.take (width c)), []⟩, width c)
def dec : List UInt8 → List UInt8 → Except Nat (List Cell)
  | [], b => if b = [] then .ok [] else .error 4
  | c :: l, b => match get b c with
    | .error e => .error e
    | .ok (x, n) => match dec l (b.drop n) with
      | .error e => .error e
      | .ok r => .ok (x :: r)
end Go.Fld
namespace Go.Dr

structure Drum where
  off : Bool
  armed : Bool
  left : Nat
  n : Nat
  all : List UInt8
  writes : Int
def Drum.ok (d : Drum) : Prop := d.all.length = d.n * 64 ∧ d.n ≤ 4096
def wrap (x : Int) : Int := (x + 9223372036854775808) % 18446744073709551616 - 9223372036854775808
def Drum.new (n : Nat) : Drum := ⟨false, false, 0, n, List.replicate (n * 64) 0, 0⟩
/-- What is asked ahead of all: the error's number. -/
def Drum.ask (d : Drum) (i : Int) : Nat := if d.off then 6 else if i < 0 ∨ (d.n : Int) ≤ i then 1 else 0
def Drum.blk (d : Drum) (i : Nat) : List UInt8 := (d.all.drop (i * 64)).take 64
def Drum.put (d : Drum) (i : Nat) (x : List UInt8) : Drum := { d with all := d.all.take (i * 64) ++ x ++ d.all.drop (i * 64 + 64), writes := wrap (d.writes + 1) }
/-- Does the power go at a write? -/
def Drum.goes (d : Drum) : Bool × Drum := if !d.armed then (false, d) else if d.left = 0 then (true, { d with off := true }) else (false, { d with left := d.left - 1 })
def Drum.write (d : Drum) (i : Int) (x : List UInt8) : Nat × Drum :=
  if d.ask i ≠ 0 then (d.ask i, d) else if d.goes.1 then (6, d.goes.2) else (0, d.goes.2.put i.toNat x)
def Drum.arm (d : Drum) (n : Int) : Drum := { d with armed := decide (0 ≤ n), left := (if n < 0 then 0 else n).toNat }
def Drum.on (d : Drum) : Drum := { d with off := false, armed := false, left := 0 }

theorem blk_length {d : Drum} (h : d.ok) {i : Nat} (hi : i < d.n) : (d.blk i).length = 64 := by
  obtain ⟨h1, _⟩ := h
  unfold Drum.blk
  rw [List.length_take, List.length_drop, h1]
  omega
theorem put_ok {d : Drum} (h : d.ok) {i : Nat} (hi : i < d.n) {x : List UInt8} (hx : x.length = 64) : (d.put i x).ok := by
  obtain ⟨h1, h2⟩ := h
  refine ⟨?_, h2⟩
  simp only [Drum.put, List.length_append, List.length_take, List.length_drop, h1, hx]
  omega
theorem goes_ok {d : Drum} (h : d.ok) : d.goes.2.ok := by
  unfold Drum.goes; split
  · exact h
  · split <;> exact h
end Go.Dr
namespace Go.Jr
open Go.Dr Go.Fld Go.Sha

abbrev layout : List UInt8 := [98, 119, 119, 119, 116]
/-- What a block says. -/
structure Block where
  kind : Nat
  a : Nat
  b : Nat
  c : Nat
  bytes : List UInt8
def Block.cells (x : Block) : List Cell := [⟨x.kind, []⟩, ⟨x.a, []⟩, ⟨x.b, []⟩, ⟨x.c, []⟩, ⟨0, x.bytes⟩]
structure Block.ok (x : Block) : Prop where
  kind : x.kind ≤ 255
  a : x.a ≤ 4294967295
  b : x.b ≤ 4294967295
  c : x.c ≤ 4294967295
  bytes : x.bytes.length ≤ 46
def Block.enc (x : Block) : List UInt8 := Fld.enc layout x.cells
def Block.front (x : Block) : List UInt8 := x.enc ++ List.replicate (60 - x.enc.length) 0
/-- A block's bytes. -/
def Block.put (x : Block) : List UInt8 := x.front ++ check x.front
theorem length_enc (x : Block) : x.enc.length = 14 + x.bytes.length := by
  have h : x.enc = be (UInt64.ofNat x.kind) 1 ++ (be (UInt64.ofNat x.a) 4 ++ (be (UInt64.ofNat x.b) 4 ++ (be (UInt64.ofNat x.c) 4 ++ (be (UInt64.ofNat x.bytes.length) 1 ++ x.bytes ++ [])))) := rfl
  rw [h]
  simp only [List.length_append, length_be, List.length_nil]
  omega
theorem length_front {x : Block} (h : x.ok) : x.front.length = 60 := by
  have := length_enc x
  have := h.bytes
  unfold Block.front
  rw [List.length_append, List.length_replicate]
  omega
theorem length_put {x : Block} (h : x.ok) : x.put.length = 64 := by
  unfold Block.put
  rw [List.length_append, length_front h, length_check]
theorem cells_fits {x : Block} (h : x.ok) : ∀ (k : Nat) (c : UInt8) (y : Cell), layout[k]? = some c → x.cells[k]? = some y → fits c y := by
  intro k c y hc hy
  have hb := h.bytes
  rcases k with _ | _ | _ | _ | _ | k
  · cases hc; cases hy; exact ⟨Int.natCast_nonneg _, by have := h.kind; simp [most, width]; omega⟩
  · cases hc; cases hy; exact ⟨Int.natCast_nonneg _, by have := h.a; simp [most, width]; omega⟩
  · cases hc; cases hy; exact ⟨Int.natCast_nonneg _, by have := h.b; simp [most, width]; omega⟩
  · cases hc; cases hy; exact ⟨Int.natCast_nonneg _, by have := h.c; simp [most, width]; omega⟩
  · cases hc; cases hy; show x.bytes.length ≤ 256 ^ 1 - 1; omega
  · cases hc
theorem layout_letters : ∀ c ∈ layout, isLetter c = true ∧ c ≠ 102 := by decide

theorem num_snoc (l : List UInt8) (b : UInt8) : num (l ++ [b]) = num l * 256 + b.toNat := by simp [num]
theorem num_lt (l : List UInt8) : num l < 256 ^ l.length := by
  generalize hk : l.length = k
  induction k generalizing l with
  | zero => rw [List.eq_nil_of_length_eq_zero hk]; decide
  | succ k ih =>
    have hne : l ≠ [] := by intro h; rw [h] at hk; cases hk
    have h1 := List.dropLast_concat_getLast hne
    rw [← h1, num_snoc]
    have h2 := ih l.dropLast (by simp [hk])
    have h3 := (l.getLast hne).toNat_lt
    rw [Nat.pow_succ]
    omega
theorem get_num (b : List UInt8) (c : UInt8) (w : Nat) (hw : width c = w) (h4 : w ≤ 4) (ht : isText c = false) : Fld.get b c = if b.length < w then .error 2 else .ok (⟨num (b.take w), []⟩, w) := by
  have h1 := num_lt (b.take w)
  have h2 : (b.take w).length ≤ 4 := by rw [List.length_take]; omega
  have h3 : 256 ^ (b.take w).length ≤ 256 ^ 4 := Nat.pow_le_pow_right (by omega) h2
  unfold Fld.get
  rw [hw, ht]
  have h5 : ¬ (9223372036854775807 < num (b.take w)) := by omega
  simp only [Bool.false_eq_true, if_false, h5]
/-- The fields of a block out of its bytes. -/
def cellsOf (l : List UInt8) : List Cell := [⟨num (l.take 1), []⟩, ⟨num ((l.drop 1).take 4), []⟩, ⟨num ((l.drop 5).take 4), []⟩, ⟨num ((l.drop 9).take 4), []⟩, ⟨0, l.drop 14⟩]
theorem dec_layout (l : List UInt8) : (14 ≤ l.length ∧ num ((l.drop 13).take 1) = l.length - 14 ∧ dec layout l = .ok (cellsOf l)) ∨ (¬ (14 ≤ l.length ∧ num ((l.drop 13).take 1) = l.length - 14) ∧ ∃ e, dec layout l = .error e) := by
  have e1 : Fld.get l 98 = _ := get_num l 98 1 rfl (by omega) rfl
  have e2 : ∀ m, Fld.get m 119 = _ := fun m => get_num m 119 4 rfl (by omega) rfl
  simp only [layout, dec, e1, e2]
  by_cases h1 : l.length < 1
  · right; rw [if_pos h1]; exact ⟨by omega, _, rfl⟩
  rw [if_neg h1]
  simp only [List.length_drop, List.drop_drop]
  by_cases h2 : l.length - 1 < 4
  · right; rw [if_pos h2]; exact ⟨by omega, _, rfl⟩
  rw [if_neg h2]
  simp only [Nat.reduceAdd]
  by_cases h3 : l.length - 5 < 4
  · right; rw [if_pos h3]; exact ⟨by omega, _, rfl⟩
  rw [if_neg h3]
  simp only [Nat.reduceAdd]
  by_cases h4 : l.length - 9 < 4
  · right; rw [if_pos h4]; exact ⟨by omega, _, rfl⟩
  rw [if_neg h4]
  simp only [Nat.reduceAdd]
  have e3 : Fld.get (l.drop 13) 116 = if l.length - 13 < 1 then .error 2 else if l.length - 13 - 1 < num ((l.drop 13).take 1) then .error 2 else .ok (⟨0, ((l.drop 13).drop 1).take (num ((l.drop 13).take 1))⟩, 1 + num ((l.drop 13).take 1)) := by
    unfold Fld.get
    have hw : width 116 = 1 := rfl
    have ht : isText 116 = true := rfl
    rw [hw, ht, List.length_drop]
    simp only [if_true]
  rw [e3]
  by_cases h5 : l.length - 13 < 1
  · right; rw [if_pos h5]; exact ⟨by omega, _, rfl⟩
  rw [if_neg h5]
  by_cases h6 : l.length - 13 - 1 < num ((l.drop 13).take 1)
  · right; rw [if_pos h6]; exact ⟨by omega, _, rfl⟩
  rw [if_neg h6]
  simp only [List.drop_drop]
  by_cases h7 : l.drop (13 + (1 + num ((l.drop 13).take 1))) = []
  · left
    have h8 := List.drop_eq_nil_iff.1 h7
    refine ⟨by omega, by omega, ?_⟩
    rw [if_pos h7]
    simp only [cellsOf, Nat.reduceAdd]
    congr
    rw [List.take_of_length_le (by rw [List.length_drop]; omega)]
  · right
    rw [if_neg h7]
    have h8 : ¬ (l.length ≤ 13 + (1 + num ((l.drop 13).take 1))) := fun h => h7 (List.drop_eq_nil_iff.2 h)
    exact ⟨by omega, _, rfl⟩
/-- How many bytes a block's fields have. -/
def size (b : List UInt8) : Nat := min (14 + (b.getD 13 0).toNat) 60
def blockOf (l : List UInt8) : Block := ⟨num (l.take 1), num ((l.drop 1).take 4), num ((l.drop 5).take 4), num ((l.drop 9).take 4), l.drop 14⟩
/-- What a block of 64 bytes says; none: it is not right. -/
def get (b : List UInt8) : Option Block :=
  if check (b.take 60) = b.drop 60 ∧ (b.getD 13 0).toNat ≤ 46 ∧ ((b.take 60).drop (size b)).any (· != 0) = false then some (blockOf (b.take (size b))) else none
theorem cellsOf_blockOf (l : List UInt8) : (blockOf l).cells = cellsOf l := rfl
theorem num_one (x : UInt8) : num [x] = x.toNat := by simp [num]
theorem dec_size {b : List UInt8} (hb : b.length = 64) : if (b.getD 13 0).toNat ≤ 46 then dec layout (b.take (size b)) = .ok (blockOf (b.take (size b))).cells else ∃ e, dec layout (b.take (size b)) = .error e := by
  have hl : (b.take (size b)).length = size b := by rw [List.length_take, hb]; unfold size; omega
  have h13 : ((b.take (size b)).drop 13).take 1 = [b.getD 13 0] := by
    have hs : 14 ≤ size b := by unfold size; omega
    rw [List.drop_take, List.take_take, Nat.min_eq_left (by omega)]
    rw [List.getD_eq_getElem?_getD, List.getElem?_eq_getElem (by omega), Option.getD_some]
    rw [List.drop_eq_getElem_cons (by omega)]
    rfl
  have hn : num (((b.take (size b)).drop 13).take 1) = (b.getD 13 0).toNat := by rw [h13, num_one]
  rw [cellsOf_blockOf]
  have hs : size b = min (14 + (b.getD 13 0).toNat) 60 := rfl
  rcases dec_layout (b.take (size b)) with ⟨h1, h2, h3⟩ | ⟨h1, h2⟩
  · rw [hl, hn] at h2
    rw [hl] at h1
    rw [if_pos (by omega)]
    exact h3
  · rw [hl, hn] at h1
    rw [if_neg (by intro h; apply h1; omega)]
    exact h2
end Go.Jr
namespace Go.Jr
open Go.Dr Go.Fld Go.Sha

structure Head where
  serial : Nat
  gen : Nat
  epoch : Nat
  area : Nat
/-- A journal, but its drum. -/
structure J where
  head : Head
  place : Nat
  records : List (List UInt8)
  used : Nat
  dead : Bool
def J.zero : J := ⟨⟨0, 0, 0, 0⟩, 0, [], 0, false⟩
def half (n : Nat) : Nat := (n - 2) / 2
def first (n area : Nat) : Nat := 2 + area * half n
def rd (d : Drum) (i : Nat) : Option Block := get (d.blk i)
def headOf : Option Block → Option Head
  | none => none
  | some x => if x.kind = 3 ∧ x.bytes.length = 1 ∧ x.bytes.getD 0 0 ≤ 1 then some ⟨x.a, x.b, x.c, (x.bytes.getD 0 0).toNat⟩ else none
/-- The better of two heads, the second standing at place i. -/
def better (o : Option (Head × Nat)) (i : Nat) : Option Head → Option (Head × Nat)
  | none => o
  | some h => match o with
    | none => some (h, i)
    | some (g, k) => if g.serial < h.serial then some (h, i) else some (g, k)
def find (d : Drum) : Option (Head × Nat) := better (better none 0 (headOf (rd d 0))) 1 (headOf (rd d 1))
def piece (d : Drum) (h : Head) (kind at_ : Nat) : Option Block :=
  if half d.n ≤ at_ then none
  else match rd d (first d.n h.area + at_) with
    | none => none
    | some x => if x.kind = kind ∧ x.a = h.gen ∧ x.c = at_ then some x else none
def need (k : Nat) : Nat := (k + 47) / 46
def more (d : Drum) (h : Head) (e at_ : Nat) : Nat → Nat → List UInt8 → Option (List UInt8)
  | 0, _, all => some all
  | r + 1, i, all => if all.length = i * 46 then (match piece d h 2 (at_ + i) with
      | none => none
      | some y => if y.b = e then more d h e at_ r (i + 1) (all ++ y.bytes) else none) else none
def len2 (l : List UInt8) : Nat := 256 * (l.getD 0 0).toNat + (l.getD 1 0).toNat
def record (d : Drum) (h : Head) (at_ : Nat) : Option (List UInt8 × Nat) := match piece d h 1 at_ with
  | none => none
  | some x => if h.epoch < x.b ∨ x.bytes.length < 2 ∨ 2000 < len2 x.bytes then none
    else match more d h x.b at_ (need (len2 x.bytes) - 1) 1 x.bytes with
      | none => none
      | some all => if all.length = len2 x.bytes + 2 then some (all.drop 2, x.b) else none
def load (d : Drum) (h : Head) : Nat → List (List UInt8) → Nat → Nat → List (List UInt8) × Nat
  | 0, rs, used, _ => (rs, used)
  | f + 1, rs, used, last => match record d h used with
    | none => (rs, used)
    | some (b, e) => if e < last then (rs, used) else load d h f (rs ++ [b]) (used + need b.length) e
def chunks (l : List UInt8) : List (List UInt8) := if h : l = [] then [] else l.take 46 :: chunks (l.drop 46)
termination_by l.length
decreasing_by
  have : 0 < l.length := List.length_pos_iff.2 h
  rw [List.length_drop]; omega
def hdr (n : Nat) : List UInt8 := [UInt8.ofNat (n / 256), UInt8.ofNat n]
def lay (d : Drum) (h : Head) : Nat → Nat → List (List UInt8) → Nat × Drum
  | _, _, [] => (0, d)
  | at_, kind, p :: ps =>
    if (d.write (first d.n h.area + at_ : Nat) (Block.put ⟨kind, h.gen, h.epoch, at_, p⟩)).1 = 0
    then lay (d.write (first d.n h.area + at_ : Nat) (Block.put ⟨kind, h.gen, h.epoch, at_, p⟩)).2 h (at_ + 1) 2 ps
    else d.write (first d.n h.area + at_ : Nat) (Block.put ⟨kind, h.gen, h.epoch, at_, p⟩)
def crown (d : Drum) (h : Head) (place : Nat) : Nat × Drum := d.write (place : Nat) (Block.put ⟨3, h.serial, h.gen, h.epoch, [UInt8.ofNat h.area]⟩)
def above (h : Head) : Bool := decide (4294967295 < max h.serial (max h.gen h.epoch))
/-- The error's number, the journal, the drum. -/
def anew (j : J) (d : Drum) (h : Head) (place : Nat) (b : List UInt8) : Nat × J × Drum :=
  if (lay d h 0 1 (chunks (hdr b.length ++ b))).1 = 0 then
    if (crown (lay d h 0 1 (chunks (hdr b.length ++ b))).2 h place).1 = 0 then (0, ⟨h, place, [b], need b.length, j.dead⟩, (crown (lay d h 0 1 (chunks (hdr b.length ++ b))).2 h place).2)
    else (6, { j with dead := true }, (crown (lay d h 0 1 (chunks (hdr b.length ++ b))).2 h place).2)
  else (6, { j with dead := true }, (lay d h 0 1 (chunks (hdr b.length ++ b))).2)
def ask (d : Drum) : Nat := if d.off then 6 else if d.n < 10 then 1 else 0
def fresh (d : Drum) : Head × Nat := match find d with
  | some (h, p) => (⟨h.serial + 1, h.gen + 1, h.epoch + 1, 1 - h.area⟩, 1 - p)
  | none => (⟨1, 1, 1, 0⟩, 0)
/-- The journal where none was found, or that which was found, unread. -/
def found (d : Drum) : J := match find d with
  | some (h, p) => ⟨h, p, [], 0, false⟩
  | none => J.zero
def format (d : Drum) (b : List UInt8) : Nat × J × Drum :=
  if ask d ≠ 0 then (ask d, J.zero, d)
  else if 2000 < b.length then (3, J.zero, d)
  else if half d.n < need b.length ∨ above (fresh d).1 then (8, J.zero, d)
  else anew (found d) d (fresh d).1 (fresh d).2 b
def next (h : Head) : Head := { h with serial := h.serial + 1, epoch := h.epoch + 1 }
def open_ (d : Drum) : Nat × J × Drum :=
  if ask d ≠ 0 then (ask d, J.zero, d)
  else match find d with
    | none => (12, J.zero, d)
    | some (h, p) =>
      if (load d h (half d.n + 1) [] 0 0).1 = [] then (12, J.zero, d)
      else if above (next h) then (8, J.zero, d)
      else if (crown d (next h) (1 - p)).1 = 0 then (0, ⟨next h, 1 - p, (load d h (half d.n + 1) [] 0 0).1, (load d h (half d.n + 1) [] 0 0).2, false⟩, (crown d (next h) (1 - p)).2)
      else (6, J.zero, (crown d (next h) (1 - p)).2)
/-- The error's number ahead of a write. -/
def J.can (j : J) (d : Drum) (b : List UInt8) : Nat := if j.dead then 17 else if d.off then 6 else if 2000 < b.length then 3 else 0
def J.append (j : J) (d : Drum) (b : List UInt8) : Nat × J × Drum :=
  if j.can d b ≠ 0 then (j.can d b, { j with dead := j.dead || d.off }, d)
  else if half d.n < j.used + need b.length then (8, j, d)
  else if (lay d j.head j.used 1 (chunks (hdr b.length ++ b))).1 = 0 then (0, { j with records := j.records ++ [b], used := j.used + need b.length }, (lay d j.head j.used 1 (chunks (hdr b.length ++ b))).2)
  else (6, { j with dead := true }, (lay d j.head j.used 1 (chunks (hdr b.length ++ b))).2)
def J.compact (j : J) (d : Drum) (b : List UInt8) : Nat × J × Drum :=
  if j.can d b ≠ 0 then (j.can d b, { j with dead := j.dead || d.off }, d)
  else if half d.n < need b.length ∨ above ⟨j.head.serial + 1, j.head.gen + 1, j.head.epoch, 1 - j.head.area⟩ then (8, j, d)
  else anew j d ⟨j.head.serial + 1, j.head.gen + 1, j.head.epoch, 1 - j.head.area⟩ (1 - j.place) b
def J.free (j : J) (n : Nat) : Int := if half n ≤ j.used then -1 else min (((half n - j.used) * 46 - 2 : Nat) : Int) 2000
theorem get_bytes {b : List UInt8} {x : Block} (h : get b = some x) : x.bytes.length ≤ 46 := by
  unfold get at h
  split at h
  · cases h
    show ((b.take (size b)).drop 14).length ≤ 46
    rw [List.length_drop, List.length_take]
    unfold size
    omega
  · cases h
theorem rd_bytes {d : Drum} {i : Nat} {x : Block} (h : rd d i = some x) : x.bytes.length ≤ 46 := get_bytes h
theorem first_lt {n area at_ : Nat} (hn : 2 ≤ n) (ha : area ≤ 1) (hk : at_ < half n) : first n area + at_ < n := by
  unfold first
  unfold half at hk ⊢
  have : area * ((n - 2) / 2) ≤ 1 * ((n - 2) / 2) := Nat.mul_le_mul_right _ ha
  omega
/-- What is made of a record's pieces. -/
def fin (x : Block) : Option (List UInt8) → Option (List UInt8 × Nat)
  | none => none
  | some all => if all.length = len2 x.bytes + 2 then some (all.drop 2, x.b) else none
theorem record_none {d : Drum} {h : Head} {at_ : Nat} (hp : piece d h 1 at_ = none) : record d h at_ = none := by
  unfold record; rw [hp]
theorem record_bad {d : Drum} {h : Head} {at_ : Nat} {x : Block} (hp : piece d h 1 at_ = some x) (hb : h.epoch < x.b ∨ x.bytes.length < 2 ∨ 2000 < len2 x.bytes) : record d h at_ = none := by
  unfold record; rw [hp]; exact if_pos hb
theorem record_fin {d : Drum} {h : Head} {at_ : Nat} {x : Block} (hp : piece d h 1 at_ = some x) (h1 : ¬ h.epoch < x.b) (h2 : ¬ x.bytes.length < 2) (h3 : ¬ 2000 < len2 x.bytes) :
    record d h at_ = fin x (more d h x.b at_ (need (len2 x.bytes) - 1) 1 x.bytes) := by
  unfold record
  rw [hp]
  simp only [h1, h2, h3, or_self, if_false]
  cases more d h x.b at_ (need (len2 x.bytes) - 1) 1 x.bytes <;> rfl
theorem more_len {d : Drum} {h : Head} {e at_ r i : Nat} {all : List UInt8} (hl : all.length ≠ i * 46) : more d h e at_ (r + 1) i all = none := by
  simp only [more, hl, if_false]
theorem more_none {d : Drum} {h : Head} {e at_ r i : Nat} {all : List UInt8} (hp : piece d h 2 (at_ + i) = none) : more d h e at_ (r + 1) i all = none := by
  simp only [more, hp]
  split <;> rfl
theorem more_epoch {d : Drum} {h : Head} {e at_ r i : Nat} {all : List UInt8} {y : Block} (hp : piece d h 2 (at_ + i) = some y) (he : y.b ≠ e) : more d h e at_ (r + 1) i all = none := by
  simp only [more, hp, he, if_false]
  split <;> rfl
theorem more_step {d : Drum} {h : Head} {e at_ r i : Nat} {all : List UInt8} {y : Block} (hl : all.length = i * 46) (hp : piece d h 2 (at_ + i) = some y) (he : y.b = e) : more d h e at_ (r + 1) i all = more d h e at_ r (i + 1) (all ++ y.bytes) := by
  simp only [more, hp, he, hl, if_true]
theorem piece_bytes {d : Drum} {h : Head} {kind at_ : Nat} {x : Block} (hp : piece d h kind at_ = some x) : x.bytes.length ≤ 46 := by
  unfold piece at hp
  split at hp
  · cases hp
  · split at hp
    · cases hp
    · rename_i y hy
      split at hp
      · cases hp; exact rd_bytes hy
      · cases hp
end Go.Jr
namespace Go.Jr
open Go.Dr Go.Fld Go.Sha
theorem piece_lt {d : Drum} {h : Head} {kind at_ : Nat} {x : Block} (hp : piece d h kind at_ = some x) : at_ < half d.n := by
  unfold piece at hp
  split at hp
  · cases hp
  · omega
theorem more_some {d : Drum} {h : Head} {e at_ r i : Nat} {all all' : List UInt8} (hm : more d h e at_ r i all = some all') : r = 0 ∨ at_ + i + r ≤ half d.n := by
  induction r generalizing i all with
  | zero => exact .inl rfl
  | succ r ih =>
    right
    unfold more at hm
    split at hm
    · cases hp : piece d h 2 (at_ + i) with
      | none => rw [hp] at hm; cases hm
      | some y =>
        rw [hp] at hm
        simp only at hm
        split at hm
        · have := ih hm
          have := piece_lt hp
          omega
        · cases hm
    · cases hm
theorem record_fits {d : Drum} {h : Head} {at_ e : Nat} {l : List UInt8} (hr : record d h at_ = some (l, e)) : at_ + need l.length ≤ half d.n ∧ l.length ≤ 2000 := by
  unfold record at hr
  cases hp : piece d h 1 at_ with
  | none => rw [hp] at hr; cases hr
  | some x =>
    rw [hp] at hr
    simp only at hr
    split at hr
    · cases hr
    · rename_i hb
      cases hm : more d h x.b at_ (need (len2 x.bytes) - 1) 1 x.bytes with
      | none => rw [hm] at hr; cases hr
      | some all =>
        rw [hm] at hr
        simp only at hr
        split at hr
        · rename_i hl
          cases hr
          have h1 := piece_lt hp
          have h2 := more_some hm
          rw [List.length_drop, hl]
          have h3 : len2 x.bytes + 2 - 2 = len2 x.bytes := by omega
          rw [h3]
          have h4 : 1 ≤ need (len2 x.bytes) := by unfold need; omega
          omega
        · cases hr
theorem need_pos (n : Nat) : 1 ≤ need n := by unfold need; omega
theorem chunks_nil : chunks [] = [] := by rw [chunks, dif_pos rfl]
theorem chunks_cons {l : List UInt8} (h : l ≠ []) : chunks l = l.take 46 :: chunks (l.drop 46) := by rw [chunks, dif_neg h]
theorem chunks_drop (l : List UInt8) (i : Nat) : (chunks l).drop i = chunks (l.drop (46 * i)) := by
  induction i generalizing l with
  | zero => simp
  | succ i ih =>
    by_cases h : l = []
    · subst h; simp [chunks_nil]
    · rw [chunks_cons h, List.drop_succ_cons, ih, List.drop_drop]
      congr 2
      omega
theorem chunks_at {l : List UInt8} {i : Nat} (h : 46 * i < l.length) : (chunks l).drop i = (l.drop (46 * i)).take 46 :: (chunks l).drop (i + 1) := by
  rw [chunks_drop, chunks_drop, chunks_cons (fun e => by have := congrArg List.length e; rw [List.length_drop, List.length_nil] at this; omega), List.drop_drop]
  congr 2
theorem chunks_end {l : List UInt8} {i : Nat} (h : l.length ≤ 46 * i) : (chunks l).drop i = [] := by
  rw [chunks_drop, List.drop_eq_nil_of_le h, chunks_nil]
theorem length_hdr (n : Nat) : (hdr n).length = 2 := rfl
def kindOf (i : Nat) : Nat := if i = 0 then 1 else 2
/-- The drum behind i blocks of a record: facts that a walk keeps. -/
structure Lays (d : Drum) (h : Head) (at_ : Nat) (all : List UInt8) (i : Nat) (di : Drum) : Prop where
  ok : di.ok
  off : di.off = false
  left : di.left ≤ 4611686018427387904
  n : di.n = d.n
  eq : lay d h at_ 1 (chunks all) = lay di h (at_ + i) (kindOf i) ((chunks all).drop i)
theorem Lays.start {d : Drum} (h : Head) (at_ : Nat) (all : List UInt8) (h1 : d.ok) (h2 : d.off = false) (h3 : d.left ≤ 4611686018427387904) : Lays d h at_ all 0 d := ⟨h1, h2, h3, rfl, rfl⟩
theorem goes_n (d : Drum) : d.goes.2.n = d.n := by unfold Drum.goes; split; rfl; split <;> rfl
theorem goes_left (d : Drum) : d.goes.2.left ≤ d.left := by unfold Drum.goes; split; exact Nat.le_refl _; split; exact Nat.le_refl _; exact Nat.sub_le _ _
theorem goes_off {d : Drum} (h : d.goes.1 = false) : d.goes.2.off = d.off := by
  unfold Drum.goes at h ⊢
  split
  · rfl
  · split
    · rename_i h1 h2; rw [if_neg h1, if_pos h2] at h; cases h
    · rfl
theorem ask_zero {d : Drum} {i : Nat} (h1 : d.off = false) (h2 : i < d.n) : d.ask (i : Int) = 0 := by unfold Drum.ask; rw [h1, if_neg (by simp), if_neg (by omega)]
theorem write_two {d : Drum} {i : Nat} {x : List UInt8} (h1 : d.off = false) (h2 : i < d.n) : (d.write (i : Int) x).1 = 0 ∨ (d.write (i : Int) x).1 = 6 := by
  unfold Drum.write
  rw [ask_zero h1 h2]
  simp only [ne_eq, not_true_eq_false, if_false]
  split <;> simp
theorem write_good {d : Drum} {i : Nat} {x : List UInt8} (h1 : d.off = false) (h2 : i < d.n) (h3 : d.ok) (hx : x.length = 64) (h : (d.write (i : Int) x).1 = 0) :
    (d.write (i : Int) x).2.ok ∧ (d.write (i : Int) x).2.off = false ∧ (d.write (i : Int) x).2.left ≤ d.left ∧ (d.write (i : Int) x).2.n = d.n := by
  have hg := goes_left d
  have hn := goes_n d
  unfold Drum.write at h ⊢
  rw [ask_zero h1 h2] at h ⊢
  simp only [ne_eq, not_true_eq_false, if_false] at h ⊢
  split at h
  · cases h
  · rename_i hgo
    rw [if_neg hgo]
    refine ⟨put_ok (goes_ok h3) (by rw [hn]; exact h2) hx, ?_, hg, hn⟩
    show d.goes.2.off = false
    rw [goes_off (by simpa using hgo)]
    exact h1
theorem lay_cons (d : Drum) (h : Head) (at_ kind : Nat) (p : List UInt8) (ps : List (List UInt8)) : lay d h at_ kind (p :: ps) =
    if (d.write (first d.n h.area + at_ : Nat) (Block.put ⟨kind, h.gen, h.epoch, at_, p⟩)).1 = 0
    then lay (d.write (first d.n h.area + at_ : Nat) (Block.put ⟨kind, h.gen, h.epoch, at_, p⟩)).2 h (at_ + 1) 2 ps
    else d.write (first d.n h.area + at_ : Nat) (Block.put ⟨kind, h.gen, h.epoch, at_, p⟩) := rfl
/-- One block more, or the end. -/
theorem Lays.step {d di : Drum} {h : Head} {at_ i : Nat} {all : List UInt8} (hl : Lays d h at_ all i di) (hi : 46 * i < all.length) (hin : first d.n h.area + (at_ + i) < d.n) (hx : (Block.put ⟨kindOf i, h.gen, h.epoch, at_ + i, (all.drop (46 * i)).take 46⟩).length = 64) :
    ((di.write ((first d.n h.area + (at_ + i) : Nat) : Int) (Block.put ⟨kindOf i, h.gen, h.epoch, at_ + i, (all.drop (46 * i)).take 46⟩)).1 = 0 →
      Lays d h at_ all (i + 1) (di.write ((first d.n h.area + (at_ + i) : Nat) : Int) (Block.put ⟨kindOf i, h.gen, h.epoch, at_ + i, (all.drop (46 * i)).take 46⟩)).2) ∧
    ((di.write ((first d.n h.area + (at_ + i) : Nat) : Int) (Block.put ⟨kindOf i, h.gen, h.epoch, at_ + i, (all.drop (46 * i)).take 46⟩)).1 = 6 →
      lay d h at_ 1 (chunks all) = di.write ((first d.n h.area + (at_ + i) : Nat) : Int) (Block.put ⟨kindOf i, h.gen, h.epoch, at_ + i, (all.drop (46 * i)).take 46⟩)) := by
  have he := hl.eq
  rw [chunks_at hi, lay_cons] at he
  rw [hl.n] at he
  constructor
  · intro h0
    obtain ⟨g1, g2, g3, g4⟩ := write_good hl.off (by rw [hl.n]; exact hin) hl.ok hx h0
    refine ⟨g1, g2, Nat.le_trans g3 hl.left, g4.trans hl.n, ?_⟩
    rw [he, if_pos h0]
    rfl
  · intro h6
    rw [he, if_neg (by rw [h6]; decide)]
theorem Lays.done {d di : Drum} {h : Head} {at_ i : Nat} {all : List UInt8} (hl : Lays d h at_ all i di) (hi : all.length ≤ 46 * i) : lay d h at_ 1 (chunks all) = (0, di) := by
  rw [hl.eq, chunks_end hi]
  rfl
theorem range_at {m i : Nat} {pre post : List Nat} (h : List.range m = pre ++ i :: post) : pre = List.range i ∧ i < m := by
  have hl : pre.length < m := by
    have := congrArg List.length h
    rw [List.length_range, List.length_append, List.length_cons] at this
    omega
  have h1 : (List.range m)[pre.length]? = some i := by rw [h, List.getElem?_append_right (Nat.le_refl _), Nat.sub_self]; rfl
  rw [List.getElem?_range hl] at h1
  have hi : pre.length = i := Option.some.inj h1
  refine ⟨?_, by omega⟩
  have h2 := congrArg (List.take pre.length) h
  rw [List.take_left' rfl, List.take_range, Nat.min_eq_left (by omega), hi] at h2
  exact h2.symm
end Go.Jr
namespace Go.Jr
open Go.Dr Go.Fld Go.Sha
theorem chunks_le (l : List UInt8) : ∀ p ∈ chunks l, p.length ≤ 46 := by
  generalize hn : l.length = n
  induction n using Nat.strongRecOn generalizing l with
  | _ n ih =>
    intro p hp
    by_cases h : l = []
    · rw [h, chunks_nil] at hp; cases hp
    · rw [chunks_cons h] at hp
      rcases List.mem_cons.1 hp with rfl | hp
      · exact List.length_take_le _ _
      · have hl : 0 < l.length := List.length_pos_iff.2 h
        exact ih (l.drop 46).length (by rw [List.length_drop]; omega) (l.drop 46) rfl p hp
theorem chunks_length (l : List UInt8) : (chunks l).length = (l.length + 45) / 46 := by
  generalize hn : l.length = n
  induction n using Nat.strongRecOn generalizing l with
  | _ n ih =>
    by_cases h : l = []
    · subst h; rw [chunks_nil]; simp at hn; subst hn; rfl
    · have hl : 0 < l.length := List.length_pos_iff.2 h
      rw [chunks_cons h, List.length_cons, ih (l.drop 46).length (by rw [List.length_drop]; omega) (l.drop 46) rfl, List.length_drop]
      omega
theorem chunks_need (l : List UInt8) : (chunks (hdr l.length ++ l)).length = need l.length := by
  rw [chunks_length, List.length_append, length_hdr]; unfold need; omega
/-- What stays true of a drum behind a write in its range. -/
structure Kept (d d' : Drum) : Prop where
  ok : d'.ok
  n : d'.n = d.n
  left : d'.left ≤ d.left
theorem Kept.refl {d : Drum} (h : d.ok) : Kept d d := ⟨h, rfl, Nat.le_refl _⟩
theorem Kept.trans {a b c : Drum} (h : Kept a b) (k : Kept b c) : Kept a c := ⟨k.ok, k.n.trans h.n, Nat.le_trans k.left h.left⟩
theorem goes_true {d : Drum} (h : d.goes.1 = true) : d.goes.2.off = true := by
  unfold Drum.goes at h ⊢
  split at h
  · cases h
  · rename_i h1
    rw [if_neg h1]
    split at h
    · rename_i h2; rw [if_pos h2]
    · cases h
theorem write_keeps {d : Drum} {i : Nat} {x : List UInt8} (h1 : d.off = false) (h2 : i < d.n) (h3 : d.ok) (hx : x.length = 64) :
    Kept d (d.write (i : Int) x).2 ∧ (((d.write (i : Int) x).1 = 0 ∧ (d.write (i : Int) x).2.off = false) ∨ ((d.write (i : Int) x).1 = 6 ∧ (d.write (i : Int) x).2.off = true)) := by
  have hg := goes_left d
  have hn := goes_n d
  unfold Drum.write
  rw [ask_zero h1 h2]
  simp only [ne_eq, not_true_eq_false, if_false]
  by_cases hgo : d.goes.1 = true
  · rw [if_pos hgo]
    exact ⟨⟨goes_ok h3, hn, hg⟩, .inr ⟨rfl, goes_true hgo⟩⟩
  · rw [if_neg hgo]
    refine ⟨⟨put_ok (goes_ok h3) (by rw [hn]; exact h2) hx, hn, hg⟩, .inl ⟨rfl, ?_⟩⟩
    show d.goes.2.off = false
    rw [goes_off (by simpa using hgo)]
    exact h1
theorem lay_keeps {h : Head} (hg : h.gen ≤ 4294967295) (he : h.epoch ≤ 4294967295) (ha : h.area ≤ 1) (ps : List (List UInt8)) : ∀ (d : Drum) (at_ kind : Nat), d.off = false → d.ok → 2 ≤ d.n → at_ + ps.length ≤ half d.n → kind ≤ 255 → (∀ p ∈ ps, p.length ≤ 46) →
    Kept d (lay d h at_ kind ps).2 ∧ (((lay d h at_ kind ps).1 = 0 ∧ (lay d h at_ kind ps).2.off = false) ∨ ((lay d h at_ kind ps).1 = 6 ∧ (lay d h at_ kind ps).2.off = true)) := by
  induction ps with
  | nil => intro d at_ kind h1 h2 _ _ _ _; exact ⟨.refl h2, .inl ⟨rfl, h1⟩⟩
  | cons p ps ih =>
    intro d at_ kind h1 h2 h3 h4 h5 h6
    rw [List.length_cons] at h4
    have hn4 := h2.2
    have hok : Block.ok ⟨kind, h.gen, h.epoch, at_, p⟩ := ⟨h5, hg, he, show at_ ≤ 4294967295 by (unfold half at h4; omega), h6 p (List.mem_cons_self ..)⟩
    have hw := write_keeps (x := Block.put ⟨kind, h.gen, h.epoch, at_, p⟩) h1 (first_lt h3 ha (show at_ < half d.n by omega)) h2 (length_put hok)
    rw [lay_cons]
    obtain ⟨hk, hc⟩ := hw
    rcases hc with ⟨h0, hoff⟩ | ⟨h6', hoff⟩
    · rw [if_pos h0]
      have := ih _ (at_ + 1) 2 hoff hk.ok (by rw [hk.n]; exact h3) (by rw [hk.n]; omega) (by omega) (fun p hp => h6 p (List.mem_cons_of_mem _ hp))
      exact ⟨hk.trans this.1, this.2⟩
    · rw [if_neg (by rw [h6']; decide)]
      exact ⟨hk, .inr ⟨h6', hoff⟩⟩
theorem above_le {h : Head} (ha : above h = false) : h.serial ≤ 4294967295 ∧ h.gen ≤ 4294967295 ∧ h.epoch ≤ 4294967295 := by
  unfold above at ha
  have := of_decide_eq_false ha
  omega
theorem crown_keeps {d : Drum} {h : Head} {place : Nat} (hh : above h = false) (h1 : d.off = false) (h2 : place < d.n) (h3 : d.ok) :
    Kept d (crown d h place).2 ∧ (((crown d h place).1 = 0 ∧ (crown d h place).2.off = false) ∨ ((crown d h place).1 = 6 ∧ (crown d h place).2.off = true)) := by
  obtain ⟨a1, a2, a3⟩ := above_le hh
  exact write_keeps h1 h2 h3 (length_put ⟨show 3 ≤ 255 by decide, a1, a2, a3, show 1 ≤ 46 by decide⟩)
theorem num_le4 (l : List UInt8) : num ((l.take 4)) ≤ 4294967295 := by
  have h1 := num_lt (l.take 4)
  have h2 : (l.take 4).length ≤ 4 := List.length_take_le _ _
  have h3 : 256 ^ (l.take 4).length ≤ 256 ^ 4 := Nat.pow_le_pow_right (by omega) h2
  omega
theorem num_le1 (l : List UInt8) : num ((l.take 1)) ≤ 255 := by
  have h1 := num_lt (l.take 1)
  have h2 : (l.take 1).length ≤ 1 := List.length_take_le _ _
  have h3 : 256 ^ (l.take 1).length ≤ 256 ^ 1 := Nat.pow_le_pow_right (by omega) h2
  omega
theorem get_ok_of {b : List UInt8} {x : Block} (h : get b = some x) : x.ok := by
  have hb := get_bytes h
  unfold get at h
  split at h
  · cases h
    exact ⟨num_le1 _, num_le4 _, num_le4 _, num_le4 _, hb⟩
  · cases h
theorem headOf_le {o : Option Block} {h : Head} (ho : headOf o = some h) (hok : ∀ x, o = some x → x.ok) : h.serial ≤ 4294967295 ∧ h.gen ≤ 4294967295 ∧ h.epoch ≤ 4294967295 ∧ h.area ≤ 1 := by
  cases o with
  | none => cases ho
  | some x =>
    have hx := hok x rfl
    unfold headOf at ho
    simp only at ho
    split at ho
    · rename_i hc
      cases ho
      exact ⟨hx.a, hx.b, hx.c, by have := UInt8.le_iff_toNat_le.1 hc.2.2; simpa using this⟩
    · cases ho
theorem find_le {d : Drum} {h : Head} {p : Nat} (hf : find d = some (h, p)) : (h.serial ≤ 4294967295 ∧ h.gen ≤ 4294967295 ∧ h.epoch ≤ 4294967295 ∧ h.area ≤ 1) ∧ p ≤ 1 := by
  have h0 : ∀ g, headOf (rd d 0) = some g → g.serial ≤ 4294967295 ∧ g.gen ≤ 4294967295 ∧ g.epoch ≤ 4294967295 ∧ g.area ≤ 1 := fun g hg => headOf_le hg fun x hx => get_ok_of hx
  have h1 : ∀ g, headOf (rd d 1) = some g → g.serial ≤ 4294967295 ∧ g.gen ≤ 4294967295 ∧ g.epoch ≤ 4294967295 ∧ g.area ≤ 1 := fun g hg => headOf_le hg fun x hx => get_ok_of hx
  unfold find at hf
  cases e0 : headOf (rd d 0) with
  | none =>
    rw [e0] at hf
    cases e1 : headOf (rd d 1) with
    | none => rw [e1] at hf; cases hf
    | some g => rw [e1] at hf; cases hf; exact ⟨h1 _ e1, by omega⟩
  | some g0 =>
    rw [e0] at hf
    cases e1 : headOf (rd d 1) with
    | none => rw [e1] at hf; cases hf; exact ⟨h0 _ e0, by omega⟩
    | some g =>
      rw [e1] at hf
      simp only [better] at hf
      split at hf
      · cases hf; exact ⟨h1 _ e1, by omega⟩
      · cases hf; exact ⟨h0 _ e0, by omega⟩
end Go.Jr
namespace Go.Jr
open Go.Dr Go.Fld Go.Sha

theorem num_cons_gen (l : List UInt8) (u : Nat) : l.foldl (fun u b => u * 256 + b.toNat) u = u * 256 ^ l.length + num l := by
  induction l generalizing u with
  | nil => simp [num]
  | cons b l ih =>
    simp only [num, List.foldl_cons, List.length_cons]
    rw [ih, ih (0 * 256 + b.toNat), Nat.pow_succ]
    have h : u * (256 ^ l.length * 256) = u * 256 * 256 ^ l.length := by rw [Nat.mul_assoc, Nat.mul_comm 256 (256 ^ l.length)]
    rw [h, Nat.zero_mul, Nat.zero_add, Nat.add_mul]
    omega
theorem num_cons (b : UInt8) (l : List UInt8) : num (b :: l) = b.toNat * 256 ^ l.length + num l := by
  have h := num_cons_gen l (0 * 256 + b.toNat)
  rw [Nat.zero_mul, Nat.zero_add] at h
  rw [← h]
  simp [num]
theorem num_be (x : UInt64) (w : Nat) (hw : w ≤ 8) : num (be x w) = x.toNat % 256 ^ w := by
  induction w with
  | zero => simp [be, num, Nat.mod_one]
  | succ w ih =>
    have h1 : (x >>> UInt64.ofNat (8 * w)).toUInt8.toNat = x.toNat / 256 ^ w % 256 := by
      rw [UInt64.toNat_toUInt8, UInt64.toNat_shiftRight, UInt64.toNat_ofNat']
      rw [Nat.mod_eq_of_lt (show 8 * w < 2 ^ 64 by omega), Nat.mod_eq_of_lt (show 8 * w < 64 by omega), Nat.shiftRight_eq_div_pow]
      rw [show (2 : Nat) ^ (8 * w) = 256 ^ w by rw [Nat.pow_mul]]
    show num ((x >>> UInt64.ofNat (8 * w)).toUInt8 :: be x w) = _
    rw [num_cons, length_be, h1, ih (by omega), Nat.pow_succ, Nat.mod_mul, Nat.mul_comm, Nat.add_comm]
theorem num_be_of {n w : Nat} (hw : w ≤ 4) (hn : n < 256 ^ w) : num (be (UInt64.ofNat n) w) = n := by
  have h4 : 256 ^ w ≤ 256 ^ 4 := Nat.pow_le_pow_right (by omega) hw
  rw [num_be _ _ (by omega), UInt64.toNat_ofNat', Nat.mod_eq_of_lt (show n < 2 ^ 64 by omega), Nat.mod_eq_of_lt hn]
theorem enc_eq (x : Block) : x.enc = be (UInt64.ofNat x.kind) 1 ++ (be (UInt64.ofNat x.a) 4 ++ (be (UInt64.ofNat x.b) 4 ++ (be (UInt64.ofNat x.c) 4 ++ (be (UInt64.ofNat x.bytes.length) 1 ++ x.bytes)))) := by
  have h : x.enc = be (UInt64.ofNat x.kind) 1 ++ (be (UInt64.ofNat x.a) 4 ++ (be (UInt64.ofNat x.b) 4 ++ (be (UInt64.ofNat x.c) 4 ++ (be (UInt64.ofNat x.bytes.length) 1 ++ x.bytes ++ [])))) := rfl
  rw [h, List.append_nil]
theorem blockOf_enc {x : Block} (h : x.ok) : blockOf x.enc = x := by
  have l1 := length_be (UInt64.ofNat x.kind) 1
  have l2 := length_be (UInt64.ofNat x.a) 4
  have l3 := length_be (UInt64.ofNat x.b) 4
  have l4 := length_be (UInt64.ofNat x.c) 4
  have l5 := length_be (UInt64.ofNat x.bytes.length) 1
  have hk := num_be_of (w := 1) (by omega) (show x.kind < 256 ^ 1 by have := h.kind; omega)
  have ha := num_be_of (w := 4) (by omega) (show x.a < 256 ^ 4 by have := h.a; omega)
  have hb := num_be_of (w := 4) (by omega) (show x.b < 256 ^ 4 by have := h.b; omega)
  have hc := num_be_of (w := 4) (by omega) (show x.c < 256 ^ 4 by have := h.c; omega)
  rw [enc_eq]
  generalize be (UInt64.ofNat x.kind) 1 = A at *
  generalize be (UInt64.ofNat x.a) 4 = B at *
  generalize be (UInt64.ofNat x.b) 4 = C at *
  generalize be (UInt64.ofNat x.c) 4 = D at *
  generalize be (UInt64.ofNat x.bytes.length) 1 = E at *
  have d1 : ∀ X : List UInt8, (A ++ X).drop 1 = X := fun X => List.drop_left' l1
  have d5 : ∀ X : List UInt8, (A ++ (B ++ X)).drop 5 = X := fun X => by
    rw [← List.append_assoc]; exact List.drop_left' (by simp [l1, l2])
  have d9 : ∀ X : List UInt8, (A ++ (B ++ (C ++ X))).drop 9 = X := fun X => by
    rw [← List.append_assoc, ← List.append_assoc]; exact List.drop_left' (by simp [l1, l2, l3])
  have d14 : ∀ X : List UInt8, (A ++ (B ++ (C ++ (D ++ (E ++ X))))).drop 14 = X := fun X => by
    rw [← List.append_assoc, ← List.append_assoc, ← List.append_assoc, ← List.append_assoc]; exact List.drop_left' (by simp [l1, l2, l3, l4, l5])
  unfold blockOf
  rw [d1, d5, d9, d14, List.take_left' l1, List.take_left' l2, List.take_left' l3, List.take_left' l4, hk, ha, hb, hc]
theorem get_put {x : Block} (h : x.ok) : get x.put = some x := by
  have lf := length_front h
  have le := length_enc x
  have hb := h.bytes
  have t60 : x.put.take 60 = x.front := List.take_left' lf
  have d60 : x.put.drop 60 = check x.front := List.drop_left' lf
  have t13 : (x.put.getD 13 0).toNat = x.bytes.length := by
    have e1 : x.put = (be (UInt64.ofNat x.kind) 1 ++ be (UInt64.ofNat x.a) 4 ++ be (UInt64.ofNat x.b) 4 ++ be (UInt64.ofNat x.c) 4) ++ (be (UInt64.ofNat x.bytes.length) 1 ++ (x.bytes ++ List.replicate (60 - x.enc.length) 0 ++ check x.front)) := by
      unfold Block.put Block.front
      rw [enc_eq]
      simp only [List.append_assoc]
    rw [e1, List.getD_eq_getElem?_getD, List.getElem?_append_right (by simp [length_be])]
    have l13 : (be (UInt64.ofNat x.kind) 1 ++ be (UInt64.ofNat x.a) 4 ++ be (UInt64.ofNat x.b) 4 ++ be (UInt64.ofNat x.c) 4).length = 13 := by simp [length_be]
    rw [l13]
    have hn := num_be_of (n := x.bytes.length) (w := 1) (by omega) (by omega)
    have hl := length_be (UInt64.ofNat x.bytes.length) 1
    obtain ⟨u, hu⟩ := List.length_eq_one_iff.1 hl
    rw [hu] at hn ⊢
    rw [num_one] at hn
    simpa using hn
  have hs : size x.put = x.enc.length := by unfold size; rw [t13, le]; omega
  unfold get
  rw [t60, d60, t13, hs]
  have ht : x.put.take x.enc.length = x.enc := by unfold Block.put Block.front; rw [List.append_assoc]; exact List.take_left' rfl
  have hd : x.front.drop x.enc.length = List.replicate (60 - x.enc.length) 0 := List.drop_left' rfl
  rw [ht, hd, blockOf_enc h]
  refine if_pos ⟨rfl, hb, ?_⟩
  rw [List.any_eq_false]
  intro u hu
  rw [List.mem_replicate] at hu
  simp [hu.2]
end Go.Jr
namespace Go.Sha
def absorb1 (s : St) (l : List UInt8) : St × List UInt8 := if 64 ≤ l.length then (s.piece (l.take 64), l.drop 64) else (s, l)
theorem absorb1_eq (s : St) (l : List UInt8) (h : l.length < 128) : absorb s l = absorb1 s l := by
  unfold absorb1
  split
  · rename_i h1
    rw [absorb_step _ _ h1, absorb_stop _ _ (by rw [List.length_drop]; omega)]
  · rename_i h1
    rw [absorb_stop _ _ (by omega)]
def Sh.take1 (s : Sh) (b : List UInt8) : Sh := ⟨(absorb1 s.st (s.rest ++ b)).1, (absorb1 s.st (s.rest ++ b)).2, s.n + UInt64.ofNat b.length⟩
theorem Sh.take1_eq (s : Sh) (b : List UInt8) (h : s.rest.length < 64) (hb : b.length ≤ 64) : s.take b = s.take1 b := by
  unfold Sh.take Sh.take1
  rw [absorb1_eq _ _ (by rw [List.length_append]; omega)]
def Sh.takes1 (s : Sh) : Nat → Sh
  | 0 => s
  | n + 1 => (s.takes1 n).take1 [0]
theorem Sh.takes_lt (s : Sh) (h : s.rest.length < 64) (n : Nat) : (s.takes n).rest.length < 64 := by
  cases n with
  | zero => exact h
  | succ n => exact Sh.take_lt _ _
theorem Sh.takes1_eq (s : Sh) (h : s.rest.length < 64) (n : Nat) : s.takes n = s.takes1 n := by
  induction n with
  | zero => rfl
  | succ n ih =>
    show (s.takes n).take [0] = (s.takes1 n).take1 [0]
    rw [Sh.take1_eq _ _ (s.takes_lt h n) (by decide), ih]
def Sh.fin1 (s : Sh) : List UInt8 :=
  let s1 := s.take1 [0x80]
  let s2 := s1.takes1 (padN s1.rest.length)
  (s2.take1 (be8 (s.n * 8))).st.bytes
theorem Sh.fin1_eq (s : Sh) (h : s.rest.length < 64) : s.fin = s.fin1 := by
  unfold Sh.fin Sh.fin1
  have h1 := Sh.take_lt s [0x80]
  have h2 := Sh.takes_lt _ h1 (padN (s.take [0x80]).rest.length)
  simp only
  rw [Sh.take1_eq _ (be8 (s.n * 8)) h2 (by simp [be8]), Sh.takes1_eq _ h1, Sh.take1_eq s [0x80] h (by decide)]
def check1 (l : List UInt8) : List UInt8 := ((start.take1 l).fin1).take 4
theorem check1_eq (l : List UInt8) (h : l.length ≤ 64) : check l = check1 l := by
  unfold check digest check1
  rw [Sh.fin1_eq _ (Sh.take_lt _ _), Sh.take1_eq _ _ (by decide) h]
end Go.Sha
namespace Go.Jr
open Go.Dr Go.Fld Go.Sha
set_option maxRecDepth 100000 in
theorem get_zero : get (List.replicate 64 0) = none := by
  have h : ¬ (check ((List.replicate 64 (0 : UInt8)).take 60) = (List.replicate 64 (0 : UInt8)).drop 60) := by
    rw [check1_eq _ (by simp)]
    decide +kernel
  unfold get
  exact if_neg fun hc => h hc.1
end Go.Jr
namespace Go.Jr
open Go.Dr Go.Fld Go.Sha

theorem blk_new {n i : Nat} (hi : i < n) : (Drum.new n).blk i = List.replicate 64 0 := by
  unfold Drum.blk Drum.new
  simp only [List.drop_replicate, List.take_replicate]
  congr 1
  omega
theorem rd_new {n : Nat} (i : Nat) (hi : i < n) : rd (Drum.new n) i = none := by
  unfold rd; rw [blk_new hi, get_zero]
theorem blk_put {d : Drum} {i : Nat} {x : List UInt8} (hd : d.ok) (hi : i < d.n) (hx : x.length = 64) (k : Nat) : (d.put i x).blk k = if k = i then x else d.blk k := by
  obtain ⟨hl, _⟩ := hd
  have ht : (d.all.take (i * 64)).length = i * 64 := by rw [List.length_take]; omega
  unfold Drum.blk Drum.put
  simp only
  by_cases h : k = i
  · subst h
    rw [if_pos rfl, List.append_assoc, List.drop_left' ht, ← hx, List.take_left]
  · rw [if_neg h]
    apply List.ext_getElem?
    intro j
    rw [List.getElem?_take, List.getElem?_take]
    split
    · rename_i hj
      rw [List.getElem?_drop, List.getElem?_drop]
      by_cases hlt : k < i
      · rw [List.append_assoc, List.getElem?_append_left (by omega), List.getElem?_take, if_pos (by omega)]
      · rw [List.getElem?_append_right (by rw [List.length_append]; omega), List.length_append, List.getElem?_drop, ht, hx]
        congr 1
        omega
    · rfl
theorem rd_put {d : Drum} {i : Nat} {x : Block} (hd : d.ok) (hi : i < d.n) (hx : x.ok) (k : Nat) : rd (d.put i x.put) k = if k = i then some x else rd d k := by
  unfold rd
  rw [blk_put hd hi (length_put hx)]
  split
  · exact get_put hx
  · rfl
theorem rd_same {d d' : Drum} (h : d'.all = d.all) (k : Nat) : rd d' k = rd d k := by unfold rd Drum.blk; rw [h]
theorem goes_all (d : Drum) : d.goes.2.all = d.all := by unfold Drum.goes; split; rfl; split <;> rfl
/-- A write, seen by its reader. -/
theorem write_rd {d : Drum} {i : Nat} {x : Block} (h1 : d.off = false) (h2 : i < d.n) (h3 : d.ok) (hx : x.ok) :
    Kept d (d.write (i : Int) x.put).2 ∧ (((d.write (i : Int) x.put).1 = 0 ∧ (d.write (i : Int) x.put).2.off = false ∧ ∀ k, rd (d.write (i : Int) x.put).2 k = if k = i then some x else rd d k) ∨
      ((d.write (i : Int) x.put).1 = 6 ∧ (d.write (i : Int) x.put).2.off = true ∧ ∀ k, rd (d.write (i : Int) x.put).2 k = rd d k)) := by
  obtain ⟨hk, hc⟩ := write_keeps h1 h2 h3 (length_put hx)
  refine ⟨hk, ?_⟩
  rcases hc with ⟨h0, ho⟩ | ⟨h6, ho⟩
  · refine .inl ⟨h0, ho, fun k => ?_⟩
    unfold Drum.write at h0 ⊢
    rw [ask_zero h1 h2] at h0 ⊢
    simp only [ne_eq, not_true_eq_false, if_false] at h0 ⊢
    split at h0
    · cases h0
    · rename_i hgo
      rw [if_neg hgo]
      simp only [Int.toNat_natCast]
      rw [rd_put (goes_ok h3) (by rw [goes_n]; exact h2) hx, rd_same (goes_all d)]
  · refine .inr ⟨h6, ho, fun k => ?_⟩
    unfold Drum.write at h6 ⊢
    rw [ask_zero h1 h2] at h6 ⊢
    simp only [ne_eq, not_true_eq_false, if_false] at h6 ⊢
    split at h6
    · rename_i hgo
      rw [if_pos hgo]
      exact rd_same (goes_all d) k
    · cases h6
/-- A write where no number of writes is told. -/
theorem write_calm {d : Drum} {i : Nat} {x : List UInt8} (h1 : d.off = false) (h2 : i < d.n) (ha : d.armed = false) : (d.write (i : Int) x).1 = 0 ∧ (d.write (i : Int) x).2.armed = false := by
  unfold Drum.write
  rw [ask_zero h1 h2]
  have : d.goes = (false, d) := by unfold Drum.goes; rw [ha]; rfl
  rw [this]
  exact ⟨rfl, ha⟩
/-- A laying, seen by its reader: m pieces stand there. -/
structure Laid (d d' : Drum) (h : Head) (at_ kind : Nat) (ps : List (List UInt8)) (m : Nat) : Prop where
  kept : Kept d d'
  new : ∀ i, i < m → rd d' (first d.n h.area + at_ + i) = some ⟨if i = 0 then kind else 2, h.gen, h.epoch, at_ + i, ps.getD i []⟩
  old : ∀ k, k < first d.n h.area + at_ ∨ first d.n h.area + at_ + m ≤ k → rd d' k = rd d k
theorem lay_laid {h : Head} (hg : h.gen ≤ 4294967295) (he : h.epoch ≤ 4294967295) (ha : h.area ≤ 1) (ps : List (List UInt8)) : ∀ (d : Drum) (at_ kind : Nat), d.off = false → d.ok → 2 ≤ d.n → at_ + ps.length ≤ half d.n → kind ≤ 255 → (∀ p ∈ ps, p.length ≤ 46) →
    ((lay d h at_ kind ps).1 = 0 ∧ (lay d h at_ kind ps).2.off = false ∧ Laid d (lay d h at_ kind ps).2 h at_ kind ps ps.length) ∨
    ((lay d h at_ kind ps).1 = 6 ∧ (lay d h at_ kind ps).2.off = true ∧ ∃ m, m < ps.length ∧ Laid d (lay d h at_ kind ps).2 h at_ kind ps m) := by
  induction ps with
  | nil => intro d at_ kind h1 h2 _ _ _ _; exact .inl ⟨rfl, h1, .refl h2, (fun i hi => by cases hi), fun _ _ => rfl⟩
  | cons p ps ih =>
    intro d at_ kind h1 h2 h3 h4 h5 h6
    rw [List.length_cons] at h4
    have hn4 := h2.2
    have hok : Block.ok ⟨kind, h.gen, h.epoch, at_, p⟩ := ⟨h5, hg, he, show at_ ≤ 4294967295 by (unfold half at h4; omega), h6 p (List.mem_cons_self ..)⟩
    have hw := write_rd (x := ⟨kind, h.gen, h.epoch, at_, p⟩) h1 (first_lt h3 ha (show at_ < half d.n by omega)) h2 hok
    rw [lay_cons]
    obtain ⟨hk, ⟨h0, hoff, hr⟩ | ⟨h6', hoff, hr⟩⟩ := hw
    · rw [if_pos h0]
      generalize (d.write (first d.n h.area + at_ : Nat) (Block.put ⟨kind, h.gen, h.epoch, at_, p⟩)).2 = d1 at hk hoff hr ⊢
      have hj : ∀ {m d'}, Laid d1 d' h (at_ + 1) 2 ps m → Laid d d' h at_ kind (p :: ps) (m + 1) := by
        intro m d' hl
        have hnn : first d1.n h.area = first d.n h.area := by rw [hk.n]
        refine ⟨hk.trans hl.kept, fun i hi => ?_, fun k hk2 => ?_⟩
        · rcases i with _ | i
          · rw [hl.old _ (.inl (by rw [hnn]; omega)), hr, if_pos (by omega)]
            rfl
          · have := hl.new i (by omega)
            rw [hnn] at this
            rw [show first d.n h.area + at_ + (i + 1) = first d.n h.area + (at_ + 1) + i by omega, this]
            rw [if_neg (show ¬ (i + 1 = 0) by omega), List.getD_cons_succ]
            have e1 : at_ + 1 + i = at_ + (i + 1) := by omega
            rw [e1]
            split <;> rfl
        · rw [hl.old _ (by rw [hnn]; omega), hr, if_neg (by omega)]
      rcases ih d1 (at_ + 1) 2 hoff hk.ok (by rw [hk.n]; exact h3) (by rw [hk.n]; omega) (by omega) (fun p hp => h6 p (List.mem_cons_of_mem _ hp)) with ⟨a, b, c⟩ | ⟨a, b, m, c, e⟩
      · exact .inl ⟨a, b, hj c⟩
      · exact .inr ⟨a, b, m + 1, by rw [List.length_cons]; omega, hj e⟩
    · rw [if_neg (by rw [h6']; decide)]
      exact .inr ⟨h6', hoff, 0, by rw [List.length_cons]; omega, hk, (fun i hi => by cases hi), fun k _ => hr k⟩
theorem lay_calm {h : Head} (ha : h.area ≤ 1) (ps : List (List UInt8)) : ∀ (d : Drum) (at_ kind : Nat), d.off = false → d.armed = false → 2 ≤ d.n → at_ + ps.length ≤ half d.n → (lay d h at_ kind ps).1 = 0 ∧ (lay d h at_ kind ps).2.armed = false := by
  induction ps with
  | nil => intro d at_ kind h1 h2 _ _; exact ⟨rfl, h2⟩
  | cons p ps ih =>
    intro d at_ kind h1 h2 h3 h4
    rw [List.length_cons] at h4
    have hin := first_lt h3 ha (show at_ < half d.n by omega)
    obtain ⟨h0, hA⟩ := write_calm (x := Block.put ⟨kind, h.gen, h.epoch, at_, p⟩) h1 hin h2
    rw [lay_cons, if_pos h0]
    have hw : (d.write (first d.n h.area + at_ : Nat) (Block.put ⟨kind, h.gen, h.epoch, at_, p⟩)).2.n = d.n ∧ (d.write (first d.n h.area + at_ : Nat) (Block.put ⟨kind, h.gen, h.epoch, at_, p⟩)).2.off = false := by
      unfold Drum.write
      rw [ask_zero h1 hin]
      have : d.goes = (false, d) := by unfold Drum.goes; rw [h2]; rfl
      rw [this]
      exact ⟨rfl, h1⟩
    exact ih _ (at_ + 1) 2 hw.2 hA (by rw [hw.1]; exact h3) (by rw [hw.1]; omega)
end Go.Jr
namespace Go.Jr
open Go.Dr Go.Fld Go.Sha

theorem piece_at {d : Drum} {h : Head} {kind at_ : Nat} {x : Block} (hp : piece d h kind at_ = some x) : rd d (first d.n h.area + at_) = some x ∧ x.kind = kind ∧ x.a = h.gen ∧ x.c = at_ := by
  unfold piece at hp
  split at hp
  · cases hp
  · split at hp
    · cases hp
    · rename_i y hy
      split at hp
      · rename_i hc; cases hp; exact ⟨hy, hc⟩
      · cases hp
theorem piece_of {d : Drum} {h : Head} {kind at_ : Nat} {x : Block} (h1 : at_ < half d.n) (h2 : rd d (first d.n h.area + at_) = some x) (h3 : x.kind = kind) (h4 : x.a = h.gen) (h5 : x.c = at_) : piece d h kind at_ = some x := by
  unfold piece
  rw [if_neg (by omega), h2]
  exact if_pos ⟨h3, h4, h5⟩
theorem piece_no {d : Drum} {h : Head} {kind at_ : Nat} (hn : ∀ x, at_ < half d.n → rd d (first d.n h.area + at_) = some x → x.c = at_ → x.kind = kind → x.a ≠ h.gen) : piece d h kind at_ = none := by
  cases hp : piece d h kind at_ with
  | none => rfl
  | some x =>
    obtain ⟨a1, a2, a3, a4⟩ := piece_at hp
    exact absurd a3 (hn x (piece_lt hp) a1 a4 a2)
theorem piece_congr {d d' : Drum} {h h' : Head} {kind at_ : Nat} (hn : d'.n = d.n) (hg : h'.gen = h.gen) (ha : h'.area = h.area) (hr : at_ < half d.n → rd d' (first d.n h.area + at_) = rd d (first d.n h.area + at_)) : piece d' h' kind at_ = piece d h kind at_ := by
  unfold piece
  rw [hn, hg, ha]
  split
  · rfl
  · rw [hr (by omega)]
theorem more_congr {d d' : Drum} {h h' : Head} {e at_ : Nat} (hn : d'.n = d.n) (hg : h'.gen = h.gen) (ha : h'.area = h.area) (r : Nat) : ∀ (i : Nat) (all : List UInt8), (∀ j, i ≤ j → j < i + r → at_ + j < half d.n → rd d' (first d.n h.area + (at_ + j)) = rd d (first d.n h.area + (at_ + j))) → more d' h' e at_ r i all = more d h e at_ r i all := by
  induction r with
  | zero => intro i all _; rfl
  | succ r ih =>
    intro i all hr
    have hp : piece d' h' 2 (at_ + i) = piece d h 2 (at_ + i) := piece_congr hn hg ha (hr i (Nat.le_refl _) (by omega))
    unfold more
    rw [hp]
    split
    · cases piece d h 2 (at_ + i) with
      | none => rfl
      | some y =>
        dsimp only
        split
        · exact ih (i + 1) _ fun j h1 h2 => hr j (by omega) (by omega)
        · rfl
    · rfl
/-- All that is read of a record, as long as the blocks are as they were, and no epoch comes between. -/
theorem record_congr {d d' : Drum} {h h' : Head} {at_ : Nat} (hn : d'.n = d.n) (hg : h'.gen = h.gen) (ha : h'.area = h.area) (hr : ∀ k, at_ ≤ k → k < half d.n → rd d' (first d.n h.area + k) = rd d (first d.n h.area + k))
    (he : ∀ x, piece d h 1 at_ = some x → (h'.epoch < x.b ↔ h.epoch < x.b)) : record d' h' at_ = record d h at_ := by
  have hp : piece d' h' 1 at_ = piece d h 1 at_ := piece_congr hn hg ha (hr at_ (Nat.le_refl _))
  unfold record
  rw [hp]
  cases hx : piece d h 1 at_ with
  | none => rfl
  | some x =>
    dsimp only
    rw [more_congr hn hg ha _ _ _ fun j h1 h2 h3 => hr (at_ + j) (by omega) h3]
    simp only [he x hx]
theorem record_keeps {d d' : Drum} {h h' : Head} {at_ e : Nat} {l : List UInt8} (hn : d'.n = d.n) (hg : h'.gen = h.gen) (ha : h'.area = h.area) (he : h.epoch ≤ h'.epoch) (hrec : record d h at_ = some (l, e))
    (hr : ∀ k, at_ ≤ k → k < at_ + need l.length → k < half d.n → rd d' (first d.n h.area + k) = rd d (first d.n h.area + k)) : record d' h' at_ = some (l, e) := by
  have hfit := record_fits hrec
  have hp : piece d' h' 1 at_ = piece d h 1 at_ := piece_congr hn hg ha (hr at_ (Nat.le_refl _) (by have := need_pos l.length; omega))
  unfold record at hrec ⊢
  rw [hp]
  cases hx : piece d h 1 at_ with
  | none => rw [hx] at hrec; cases hrec
  | some x =>
    rw [hx] at hrec
    dsimp only at hrec ⊢
    split at hrec
    · cases hrec
    · rename_i hb
      rw [if_neg (by omega)]
      have hlen : l.length = len2 x.bytes := by
        cases hm : more d h x.b at_ (need (len2 x.bytes) - 1) 1 x.bytes with
        | none => rw [hm] at hrec; cases hrec
        | some all =>
          rw [hm] at hrec
          dsimp only at hrec
          split at hrec
          · rename_i hl; cases hrec; rw [List.length_drop, hl]; omega
          · cases hrec
      rw [more_congr hn hg ha _ _ _ fun j h1 h2 h3 => hr (at_ + j) (by omega) (by rw [hlen]; have := need_pos (len2 x.bytes); omega) h3]
      exact hrec
theorem more_all {d : Drum} {h : Head} {e at_ r i : Nat} {all all' : List UInt8} (hm : more d h e at_ r i all = some all') : ∀ j, i ≤ j → j < i + r → ∃ y, piece d h 2 (at_ + j) = some y ∧ y.b = e := by
  induction r generalizing i all with
  | zero => intro j h1 h2; omega
  | succ r ih =>
    intro j h1 h2
    unfold more at hm
    split at hm
    · cases hp : piece d h 2 (at_ + i) with
      | none => rw [hp] at hm; cases hm
      | some y =>
        rw [hp] at hm
        dsimp only at hm
        split at hm
        · rename_i hy
          by_cases hj : j = i
          · subst hj; exact ⟨y, hp, hy⟩
          · exact ih hm j (by omega) (by omega)
        · cases hm
    · cases hm
theorem record_epoch {d : Drum} {h : Head} {at_ e : Nat} {l : List UInt8} (hrec : record d h at_ = some (l, e)) : e ≤ h.epoch := by
  unfold record at hrec
  cases hp : piece d h 1 at_ with
  | none => rw [hp] at hrec; cases hrec
  | some x =>
    rw [hp] at hrec
    dsimp only at hrec
    split at hrec
    · cases hrec
    · rename_i hb
      cases hm : more d h x.b at_ (need (len2 x.bytes) - 1) 1 x.bytes with
      | none => rw [hm] at hrec; cases hrec
      | some all =>
        rw [hm] at hrec
        dsimp only at hrec
        split at hrec
        · cases hrec; omega
        · cases hrec
theorem len2_hdr {n : Nat} (hn : n ≤ 2000) (l : List UInt8) : len2 (hdr n ++ l) = n := by
  have h1 : (UInt8.ofNat (n / 256)).toNat = n / 256 := by rw [UInt8.toNat_ofNat']; omega
  have h2 : (UInt8.ofNat n).toNat = n % 256 := by rw [UInt8.toNat_ofNat']
  unfold len2 hdr
  simp only [List.cons_append, List.nil_append, List.getD_cons_zero, List.getD_cons_succ]
  rw [h1, h2]
  omega
theorem chunk_at {l : List UInt8} {i : Nat} (h : 46 * i < l.length) : (chunks l).getD i [] = (l.drop (46 * i)).take 46 := by
  have h1 := chunks_at h
  have h2 : ((chunks l).drop i)[0]? = (chunks l)[i]? := by rw [List.getElem?_drop]; rfl
  rw [List.getD_eq_getElem?_getD, ← h2, h1]
  rfl
theorem take_more (l : List UInt8) (i : Nat) : l.take (46 * i) ++ (l.drop (46 * i)).take 46 = l.take (46 * (i + 1)) := by
  rw [Nat.mul_succ, List.take_add]
/-- A record whose blocks all stand there. -/
theorem record_of {d : Drum} {h : Head} {at_ e : Nat} {l : List UInt8} (hl : l.length ≤ 2000) (he : e ≤ h.epoch) (hf : at_ + need l.length ≤ half d.n)
    (hb : ∀ i, i < need l.length → rd d (first d.n h.area + at_ + i) = some ⟨kindOf i, h.gen, e, at_ + i, (chunks (hdr l.length ++ l)).getD i []⟩) : record d h at_ = some (l, e) := by
  obtain ⟨all, hall⟩ : ∃ all, all = hdr l.length ++ l := ⟨_, rfl⟩
  rw [← hall] at hb
  have hlen : all.length = l.length + 2 := by rw [hall, List.length_append, length_hdr]; omega
  have hpos := need_pos l.length
  have hneed : need l.length = (l.length + 47) / 46 := rfl
  have hp : ∀ i, i < need l.length → piece d h (kindOf i) (at_ + i) = some ⟨kindOf i, h.gen, e, at_ + i, (all.drop (46 * i)).take 46⟩ := fun i hi => by
    have h1 := hb i hi
    rw [chunk_at (by omega)] at h1
    exact piece_of (by omega) (by rw [← h1]; congr 1; omega) rfl rfl rfl
  have hp0 := hp 0 (by omega)
  have hlx : len2 (all.take 46) = l.length := by
    rw [hall]
    have : (hdr l.length ++ l).take 46 = hdr l.length ++ l.take 44 := rfl
    rw [this, len2_hdr hl]
  have hm : ∀ r i, i + r = need l.length → 1 ≤ i → more d h e at_ r i (all.take (46 * i)) = some all := by
    intro r
    induction r with
    | zero =>
      intro i h1 h2
      show some _ = _
      rw [List.take_of_length_le (by omega)]
    | succ r ih =>
      intro i h1 h2
      have h3 := hp i (by omega)
      have hk : kindOf i = 2 := by unfold kindOf; rw [if_neg (by omega)]
      rw [hk] at h3
      rw [more_step (by rw [List.length_take]; omega) h3 rfl, take_more]
      exact ih (i + 1) (by omega) (by omega)
  have hp1 : piece d h 1 at_ = some ⟨1, h.gen, e, at_, all.take 46⟩ := hp0
  rw [record_fin hp1 (show ¬ h.epoch < e by omega) (show ¬ (all.take 46).length < 2 by rw [List.length_take]; omega) (show ¬ 2000 < len2 (all.take 46) by rw [hlx]; omega)]
  show fin _ (more d h e at_ (need (len2 (all.take 46)) - 1) 1 (all.take 46)) = _
  rw [hlx]
  have h4 := hm (need l.length - 1) 1 (by omega) (by omega)
  rw [Nat.mul_one] at h4
  rw [h4]
  show (if all.length = len2 (all.take 46) + 2 then some (all.drop 2, e) else none) = _
  rw [hlx, if_pos hlen, hall]
  rfl
/-- A record of which a piece is lacking. -/
theorem record_torn {d : Drum} {h : Head} {at_ e m : Nat} {l : List UInt8} (hl : l.length ≤ 2000) (hf : at_ + need l.length ≤ half d.n) (hm : m < need l.length) (h0 : 0 < m)
    (hb : ∀ i, i < m → rd d (first d.n h.area + at_ + i) = some ⟨kindOf i, h.gen, e, at_ + i, (chunks (hdr l.length ++ l)).getD i []⟩)
    (hno : ∀ x, rd d (first d.n h.area + (at_ + m)) = some x → x.c = at_ + m → x.kind = 2 → x.a = h.gen → x.b ≠ e) : record d h at_ = none := by
  have h1 := hb 0 h0
  have hhl : (hdr l.length ++ l).length = l.length + 2 := by rw [List.length_append, length_hdr]; omega
  rw [chunk_at (by omega)] at h1
  have hp : piece d h 1 at_ = some ⟨1, h.gen, e, at_, (hdr l.length ++ l).take 46⟩ := piece_of (by omega) h1 rfl rfl rfl
  have hlx : len2 ((hdr l.length ++ l).take 46) = l.length := by
    have : (hdr l.length ++ l).take 46 = hdr l.length ++ l.take 44 := rfl
    rw [this, len2_hdr hl]
  by_cases hbad : h.epoch < e
  · exact record_bad hp (.inl hbad)
  rw [record_fin hp hbad (show ¬ ((hdr l.length ++ l).take 46).length < 2 by rw [List.length_take]; omega) (show ¬ 2000 < len2 ((hdr l.length ++ l).take 46) by rw [hlx]; omega)]
  show fin _ (more d h e at_ (need (len2 ((hdr l.length ++ l).take 46)) - 1) 1 ((hdr l.length ++ l).take 46)) = none
  rw [hlx]
  cases hmo : more d h e at_ (need l.length - 1) 1 ((hdr l.length ++ l).take 46) with
  | none => rfl
  | some all =>
    obtain ⟨y, hy, hye⟩ := more_all hmo m (by omega) (by omega)
    obtain ⟨a1, a2, a3, a4⟩ := piece_at hy
    exact absurd hye (hno y a1 a4 a2 a3)

/-- Records, one behind the other. -/
inductive Chain (d : Drum) (h : Head) : Nat → Nat → List (List UInt8) → Nat → Nat → Prop
  | nil (u last) : Chain d h u last [] u last
  | cons {u last b e rs u' last'} : record d h u = some (b, e) → last ≤ e → Chain d h (u + need b.length) e rs u' last' → Chain d h u last (b :: rs) u' last'
theorem Chain.snoc {d : Drum} {h : Head} {u last u' last' e : Nat} {rs : List (List UInt8)} {b : List UInt8} (hc : Chain d h u last rs u' last') (hr : record d h u' = some (b, e)) (he : last' ≤ e) : Chain d h u last (rs ++ [b]) (u' + need b.length) e := by
  induction hc with
  | nil u last => exact .cons hr he (.nil _ _)
  | cons h1 h2 _ ih => exact .cons h1 h2 (ih hr he)
theorem Chain.le {d : Drum} {h : Head} {u last u' last' : Nat} {rs : List (List UInt8)} (hc : Chain d h u last rs u' last') : u + rs.length ≤ u' ∧ (u ≤ half d.n → u' ≤ half d.n) ∧ (last ≤ h.epoch → last' ≤ h.epoch) ∧ (∀ l ∈ rs, l.length ≤ 2000) := by
  induction hc with
  | nil u last => exact ⟨by simp, id, id, fun _ h => by cases h⟩
  | @cons u last b e rs u' last' h1 h2 _ ih =>
    have := record_fits h1
    have := need_pos b.length
    have he := record_epoch h1
    obtain ⟨i1, i2, i3, i4⟩ := ih
    refine ⟨by rw [List.length_cons]; omega, fun _ => i2 (by omega), fun _ => i3 he, fun l hl => ?_⟩
    rcases List.mem_cons.1 hl with rfl | hl
    · omega
    · exact i4 l hl
theorem Chain.keeps {d d' : Drum} {h h' : Head} {u last u' last' : Nat} {rs : List (List UInt8)} (hn : d'.n = d.n) (hg : h'.gen = h.gen) (ha : h'.area = h.area) (he : h.epoch ≤ h'.epoch) (hc : Chain d h u last rs u' last')
    (hr : ∀ k, u ≤ k → k < u' → k < half d.n → rd d' (first d.n h.area + k) = rd d (first d.n h.area + k)) : Chain d' h' u last rs u' last' := by
  induction hc with
  | nil u last => exact .nil _ _
  | @cons u last b e rs u' last' h1 h2 h3 ih =>
    have hle := h3.le.1
    refine .cons (record_keeps hn hg ha he h1 fun k a1 a2 a3 => hr k a1 (by omega) a3) h2 (ih fun k a1 a2 a3 => hr k (by omega) a2 a3)
theorem load_chain {d : Drum} {h : Head} {u last u' last' : Nat} {rs : List (List UInt8)} (hc : Chain d h u last rs u' last') (hs : record d h u' = none) (f : Nat) (acc : List (List UInt8)) (hf : rs.length < f) : load d h f acc u last = (acc ++ rs, u') := by
  induction hc generalizing f acc with
  | nil u last =>
    obtain ⟨f, rfl⟩ : ∃ g, f = g + 1 := ⟨f - 1, by omega⟩
    unfold load
    rw [hs, List.append_nil]
  | @cons u last b e rs u' last' h1 h2 h3 ih =>
    rw [List.length_cons] at hf
    obtain ⟨f, rfl⟩ : ∃ g, f = g + 1 := ⟨f - 1, by omega⟩
    unfold load
    rw [h1]
    dsimp only
    rw [if_neg (by omega), ih hs f _ (by omega), List.append_assoc]
    rfl
end Go.Jr
namespace Go.Jr
open Go.Dr Go.Fld Go.Sha

/-- A block at a place of an area, as one of a record. -/
def At (d : Drum) (area k : Nat) (x : Block) : Prop := k < half d.n ∧ rd d (first d.n area + k) = some x ∧ x.c = k ∧ (x.kind = 1 ∨ x.kind = 2)
/-- The drum bears a journal: its head, the head's place, the records, how many blocks they have; whatever else stands there has an epoch below E. -/
structure Bears (d : Drum) (h : Head) (p : Nat) (rs : List (List UInt8)) (u E : Nat) : Prop where
  ok : d.ok
  n : 10 ≤ d.n
  area : h.area ≤ 1
  place : p ≤ 1
  head : headOf (rd d p) = some h
  other : ∀ g, headOf (rd d (1 - p)) = some g → g.serial < h.serial
  chain : ∃ last, Chain d h 0 0 rs u last
  stop : record d h u = none
  top : h.epoch ≤ E
  low : E ≤ h.epoch + 1
  mine : ∀ k x, At d h.area k x → x.a ≤ h.gen ∧ (x.a = h.gen → u ≤ k → x.b < E ∧ (u < k → x.kind ≠ 1))
  far : ∀ k x, At d (1 - h.area) k x → x.a ≤ h.gen + 1 ∧ (x.a = h.gen + 1 → x.b < E ∧ (0 < k → x.kind ≠ 1))
theorem Bears.used {d : Drum} {h : Head} {p u E : Nat} {rs : List (List UInt8)} (hb : Bears d h p rs u E) : u ≤ half d.n ∧ rs.length ≤ u ∧ ∀ l ∈ rs, l.length ≤ 2000 := by
  obtain ⟨last, hc⟩ := hb.chain
  have := hc.le
  exact ⟨this.2.1 (Nat.zero_le _), by omega, this.2.2.2⟩
theorem Bears.same {d d' : Drum} {h : Head} {p u E E' : Nat} {rs : List (List UInt8)} (hb : Bears d h p rs u E) (hn : d'.n = d.n) (ho : d'.ok) (hr : ∀ k, rd d' k = rd d k) (h1 : E ≤ E') (h2 : E' ≤ h.epoch + 1) : Bears d' h p rs u E' := by
  have hat : ∀ a k x, At d' a k x → At d a k x := fun a k x hx => by unfold At at hx ⊢; rw [hn, hr] at hx; exact hx
  obtain ⟨last, hc⟩ := hb.chain
  have hst := hb.stop
  rw [← record_congr (d := d) (d' := d') (h := h) (h' := h) hn rfl rfl (fun k _ _ => hr _) (fun _ _ => Iff.rfl)] at hst
  refine ⟨ho, by rw [hn]; exact hb.n, hb.area, hb.place, by rw [hr]; exact hb.head, fun g hg => hb.other g (by rw [← hr]; exact hg), ⟨last, hc.keeps hn rfl rfl (Nat.le_refl _) fun k _ _ _ => hr _⟩, hst, Nat.le_trans hb.top h1, h2, fun k x hx => ?_, fun k x hx => ?_⟩
  · obtain ⟨a1, a2⟩ := hb.mine k x (hat _ _ _ hx)
    exact ⟨a1, fun e1 e2 => ⟨Nat.lt_of_lt_of_le (a2 e1 e2).1 h1, (a2 e1 e2).2⟩⟩
  · obtain ⟨a1, a2⟩ := hb.far k x (hat _ _ _ hx)
    exact ⟨a1, fun e1 => ⟨Nat.lt_of_lt_of_le (a2 e1).1 h1, (a2 e1).2⟩⟩
theorem Bears.find {d : Drum} {h : Head} {p u E : Nat} {rs : List (List UInt8)} (hb : Bears d h p rs u E) : find d = some (h, p) := by
  have h1 := hb.head
  have h2 := hb.other
  have hp : p = 0 ∨ p = 1 := by have := hb.place; omega
  unfold Jr.find
  rcases hp with rfl | rfl
  · rw [h1]
    cases e : headOf (rd d 1) with
    | none => rfl
    | some g =>
      have := h2 g e
      show (if h.serial < g.serial then some (g, 1) else some (h, 0)) = _
      rw [if_neg (by omega)]
  · rw [h1]
    cases e : headOf (rd d 0) with
    | none => rfl
    | some g =>
      have := h2 g e
      show (if g.serial < h.serial then some (h, 1) else some (g, 0)) = _
      rw [if_pos this]
theorem Bears.load {d : Drum} {h : Head} {p u E : Nat} {rs : List (List UInt8)} (hb : Bears d h p rs u E) : load d h (half d.n + 1) [] 0 0 = (rs, u) := by
  obtain ⟨last, hc⟩ := hb.chain
  have := hb.used
  rw [load_chain hc hb.stop _ _ (by omega), List.nil_append]
theorem first_two {n a k : Nat} : 2 ≤ first n a + k := by unfold first; omega
theorem first_apart {n a k m : Nat} (ha : a ≤ 1) (hk : k < half n) (hm : m < half n) : first n (1 - a) + k ≠ first n a + m := by
  have : a = 0 ∨ a = 1 := by omega
  rcases this with rfl | rfl <;> simp [first] <;> omega

section
variable {d : Drum} {h : Head} {p u E : Nat} {rs : List (List UInt8)} {l : List UInt8}
/-- An append: whole, or not at all. -/
theorem Bears.append (hb : Bears d h p rs u h.epoch) (hoff : d.off = false) (hg : h.gen ≤ 4294967295) (he : h.epoch ≤ 4294967295) (hl : l.length ≤ 2000) (hf : u + need l.length ≤ half d.n) :
    Kept d (lay d h u 1 (chunks (hdr l.length ++ l))).2 ∧
    (((lay d h u 1 (chunks (hdr l.length ++ l))).1 = 0 ∧ (lay d h u 1 (chunks (hdr l.length ++ l))).2.off = false ∧ Bears (lay d h u 1 (chunks (hdr l.length ++ l))).2 h p (rs ++ [l]) (u + need l.length) h.epoch) ∨
     ((lay d h u 1 (chunks (hdr l.length ++ l))).1 = 6 ∧ (lay d h u 1 (chunks (hdr l.length ++ l))).2.off = true ∧ Bears (lay d h u 1 (chunks (hdr l.length ++ l))).2 h p rs u (h.epoch + 1))) := by
  have hcn := chunks_need l
  have hlaid := lay_laid hg he hb.area (chunks (hdr l.length ++ l)) d u 1 hoff hb.ok (by have := hb.n; omega) (by omega) (by omega) (chunks_le _)
  generalize Jr.lay d h u 1 (chunks (hdr l.length ++ l)) = q at hlaid ⊢
  obtain ⟨e, d'⟩ := q
  dsimp only at hlaid ⊢
  obtain ⟨last, hc⟩ := hb.chain
  have hlast := hc.le.2.2.1 (Nat.zero_le _)
  have hu := hb.used
  have hpos := need_pos l.length
  -- what is common to both
  have common : ∀ {m}, m ≤ need l.length → Laid d d' h u 1 (chunks (hdr l.length ++ l)) m → headOf (rd d' p) = some h ∧ (∀ g, headOf (rd d' (1 - p)) = some g → g.serial < h.serial) ∧ Chain d' h 0 0 rs u last ∧
      (∀ k x, At d' h.area k x → x.a ≤ h.gen ∧ (x.a = h.gen → u ≤ k → (u + m ≤ k → x.b < h.epoch) ∧ x.b < h.epoch + 1 ∧ (u < k → x.kind ≠ 1))) ∧
      (∀ k x, At d' (1 - h.area) k x → x.a ≤ h.gen + 1 ∧ (x.a = h.gen + 1 → x.b < h.epoch ∧ (0 < k → x.kind ≠ 1))) := by
    intro m hm hL
    have hn := hL.kept.n
    have hp1 := hb.place
    have h2 : ∀ k, 2 ≤ first d.n h.area + k := fun k => first_two
    refine ⟨by rw [hL.old p (.inl (by have := h2 u; omega))]; exact hb.head, fun g hg => hb.other g (by rw [← hL.old (1 - p) (.inl (by have := h2 u; omega))]; exact hg), hc.keeps hn rfl rfl (Nat.le_refl _) fun k _ a2 _ => hL.old _ (.inl (by omega)), fun k x hx => ?_, fun k x hx => ?_⟩
    · obtain ⟨x1, x2, x3, x4⟩ := hx
      rw [hn] at x1 x2
      by_cases hin : u ≤ k ∧ k < u + m
      · have h3 := hL.new (k - u) (by omega)
        rw [show first d.n h.area + u + (k - u) = first d.n h.area + k by omega, x2] at h3
        cases h3
        refine ⟨Nat.le_refl _, fun _ _ => ⟨fun h5 => by omega, Nat.lt_succ_self _, fun h5 => ?_⟩⟩
        show (if k - u = 0 then 1 else 2) ≠ 1
        rw [if_neg (by omega)]; decide
      · rw [hL.old _ (by omega)] at x2
        obtain ⟨a1, a2⟩ := hb.mine k x ⟨x1, x2, x3, x4⟩
        exact ⟨a1, fun e1 e2 => ⟨fun _ => (a2 e1 e2).1, Nat.lt_succ_of_lt (a2 e1 e2).1, (a2 e1 e2).2⟩⟩
    · obtain ⟨x1, x2, x3, x4⟩ := hx
      rw [hn] at x1 x2
      rw [hL.old] at x2
      · exact hb.far k x ⟨x1, x2, x3, x4⟩
      · have := fun i (hi : i < half d.n) => first_apart (n := d.n) hb.area x1 hi
        by_cases h5 : first d.n (1 - h.area) + k < first d.n h.area + u
        · exact .inl h5
        · refine .inr (Nat.le_of_not_lt fun h6 => ?_)
          have := this (u + (first d.n (1 - h.area) + k - (first d.n h.area + u))) (by omega)
          omega
  rcases hlaid with ⟨rfl, ho, hL⟩ | ⟨rfl, ho, m, hm, hL⟩
  · refine ⟨hL.kept, .inl ⟨rfl, ho, ?_⟩⟩
    rw [hcn] at hL
    obtain ⟨c1, c2, c3, c4, c5⟩ := common (Nat.le_refl _) hL
    have hn := hL.kept.n
    have hrec : record d' h u = some (l, h.epoch) := record_of hl (Nat.le_refl _) (by rw [hn]; exact hf) fun i hi => by
      have := hL.new i hi
      rw [hn, this]
      rfl
    refine ⟨hL.kept.ok, by rw [hn]; exact hb.n, hb.area, hb.place, c1, c2, ⟨_, c3.snoc hrec hlast⟩, ?_, Nat.le_refl _, Nat.le_succ _, fun k x hx => ?_, c5⟩
    · refine record_none (piece_no fun x x1 x2 x3 x4 x5 => ?_)
      have := (c4 _ x ⟨x1, x2, x3, .inl x4⟩).2 x5 (by omega)
      exact this.2.2 (by omega) x4
    · obtain ⟨a1, a2⟩ := c4 k x hx
      exact ⟨a1, fun e1 e2 => ⟨(a2 e1 (by omega)).1 e2, fun h5 => (a2 e1 (by omega)).2.2 (by omega)⟩⟩
  · refine ⟨hL.kept, .inr ⟨rfl, ho, ?_⟩⟩
    rw [hcn] at hm
    obtain ⟨c1, c2, c3, c4, c5⟩ := common (Nat.le_of_lt hm) hL
    have hn := hL.kept.n
    refine ⟨hL.kept.ok, by rw [hn]; exact hb.n, hb.area, hb.place, c1, c2, ⟨_, c3⟩, ?_, Nat.le_succ _, Nat.le_refl _, fun k x hx => ?_, fun k x hx => ?_⟩
    · by_cases h0 : m = 0
      · subst h0
        rw [record_congr (d := d) (h := h) hn rfl rfl (fun k a1 a2 => hL.old _ (by omega)) (fun _ _ => Iff.rfl)]
        exact hb.stop
      · refine record_torn (e := h.epoch) (m := m) hl (by rw [hn]; exact hf) hm (by omega) (fun i hi => by
          have := hL.new i hi
          rw [hn, this]
          rfl) fun x x1 x2 x3 x4 => ?_
        have := (c4 (u + m) x ⟨by rw [hn]; omega, x1, x2, .inr x3⟩).2 x4 (by omega)
        exact Nat.ne_of_lt (this.1 (Nat.le_refl _))
    · obtain ⟨a1, a2⟩ := c4 k x hx
      exact ⟨a1, fun e1 e2 => (a2 e1 e2).2⟩
    · obtain ⟨a1, a2⟩ := c5 k x hx
      exact ⟨a1, fun e1 => ⟨Nat.lt_succ_of_lt (a2 e1).1, (a2 e1).2⟩⟩
end
end Go.Jr
namespace Go.Jr
open Go.Dr Go.Fld Go.Sha

def Head.block (h : Head) : Block := ⟨3, h.serial, h.gen, h.epoch, [UInt8.ofNat h.area]⟩
theorem head_block_ok {h : Head} (hh : above h = false) : h.block.ok := by
  obtain ⟨a1, a2, a3⟩ := above_le hh
  exact ⟨show 3 ≤ 255 by decide, a1, a2, a3, show 1 ≤ 46 by decide⟩
theorem headOf_block {h : Head} (ha : h.area ≤ 1) : headOf (some h.block) = some h := by
  have : h.area = 0 ∨ h.area = 1 := by omega
  obtain ⟨s, g, e, a⟩ := h
  rcases this with h1 | h1 <;> (simp only at h1; subst h1; rfl)
theorem crown_eq (d : Drum) (h : Head) (place : Nat) : crown d h place = d.write (place : Nat) h.block.put := rfl

section
variable {d d' : Drum} {h h' : Head} {p p' u E E' m : Nat} {rs ps : List (List UInt8)} {l : List UInt8}
/-- What is laid in the other area leaves the journal as it was. -/
theorem Bears.beside (hb : Bears d h p rs u E) (hL : Laid d d' h' 0 1 ps m) (ha : h'.area = 1 - h.area) (hg : h'.gen = h.gen + 1) (hm : m ≤ half d.n) (he : h'.epoch < E') (h1 : E ≤ E') (h2 : E' ≤ h.epoch + 1) : Bears d' h p rs u E' := by
  have hn := hL.kept.n
  have harea := hb.area
  have hplace := hb.place
  have hap := fun k (hk : k < half d.n) i (hi : i < half d.n) => first_apart (n := d.n) (k := i) (m := k) hb.area hi hk
  have old1 : ∀ k, k < half d.n → rd d' (first d.n h.area + k) = rd d (first d.n h.area + k) := fun k hk => hL.old _ (by
    rw [ha]
    by_cases h5 : first d.n h.area + k < first d.n (1 - h.area) + 0
    · exact .inl h5
    · refine .inr (Nat.le_of_not_lt fun h6 => ?_)
      have := hap k hk (first d.n h.area + k - first d.n (1 - h.area)) (by omega)
      omega)
  have old0 : ∀ k, k ≤ 1 → rd d' k = rd d k := fun k hk => hL.old _ (.inl (by have := first_two (n := d.n) (a := h'.area) (k := 0); omega))
  obtain ⟨last, hc⟩ := hb.chain
  have hst := hb.stop
  have hst' : record d' h u = none := by
    by_cases hu : u < half d.n
    · rw [record_congr (d := d) (h := h) hn rfl rfl (fun k _ a2 => old1 k a2) (fun _ _ => Iff.rfl)]
      exact hst
    · exact record_none (piece_no fun x x1 _ _ _ => by rw [hn] at x1; omega)
  refine ⟨hL.kept.ok, by rw [hn]; exact hb.n, hb.area, hb.place, by rw [old0 p hb.place]; exact hb.head, fun g hg => hb.other g (by rw [← old0 (1 - p) (by omega)]; exact hg), ⟨last, hc.keeps hn rfl rfl (Nat.le_refl _) fun k _ _ a3 => old1 k a3⟩, hst', Nat.le_trans hb.top h1, h2, fun k x hx => ?_, fun k x hx => ?_⟩
  · obtain ⟨x1, x2, x3, x4⟩ := hx
    rw [hn] at x1 x2
    rw [old1 k x1] at x2
    obtain ⟨a1, a2⟩ := hb.mine k x ⟨x1, x2, x3, x4⟩
    exact ⟨a1, fun e1 e2 => ⟨Nat.lt_of_lt_of_le (a2 e1 e2).1 h1, (a2 e1 e2).2⟩⟩
  · obtain ⟨x1, x2, x3, x4⟩ := hx
    rw [hn] at x1 x2
    by_cases hin : k < m
    · have h3 := hL.new k hin
      rw [ha, Nat.add_zero, x2] at h3
      cases h3
      refine ⟨by rw [hg]; exact Nat.le_refl _, fun _ => ⟨he, fun h5 => ?_⟩⟩
      show (if k = 0 then 1 else 2) ≠ 1
      rw [if_neg (by omega)]; decide
    · rw [hL.old _ (.inr (by rw [ha]; omega))] at x2
      obtain ⟨a1, a2⟩ := hb.far k x ⟨x1, x2, x3, x4⟩
      exact ⟨a1, fun e1 => ⟨Nat.lt_of_lt_of_le (a2 e1).1 h1, (a2 e1).2⟩⟩
/-- A snapshot is laid, and its head behind it. -/
theorem Bears.made {d2 : Drum} (hok : d2.ok) (hn2 : d2.n = d.n) (hn : 10 ≤ d.n) (ha : h.area ≤ 1) (hp : p ≤ 1) (hl : l.length ≤ 2000) (hf : need l.length ≤ half d.n)
    (hL : Laid d d' h 0 1 (chunks (hdr l.length ++ l)) (need l.length)) (hr : ∀ k, rd d2 k = if k = p then some h.block else rd d' k)
    (hfar : ∀ k x, At d h.area k x → x.a ≤ h.gen ∧ (x.a = h.gen → x.b < h.epoch ∧ (0 < k → x.kind ≠ 1)))
    (hmine : ∀ k x, At d (1 - h.area) k x → x.a ≤ h.gen + 1 ∧ (x.a = h.gen + 1 → x.b < h.epoch ∧ (0 < k → x.kind ≠ 1)))
    (hother : ∀ g, headOf (rd d (1 - p)) = some g → g.serial < h.serial) : Bears d2 h p [l] (need l.length) h.epoch := by
  have hpos := need_pos l.length
  have r2 : ∀ a k, rd d2 (first d.n a + k) = rd d' (first d.n a + k) := fun a k => by
    rw [hr, if_neg (by have := first_two (n := d.n) (a := a) (k := k); omega)]
  have hap := fun k (hk : k < half d.n) i (hi : i < half d.n) => first_apart (n := d.n) (k := k) (m := i) ha hk hi
  have old1 : ∀ k, k < half d.n → rd d' (first d.n (1 - h.area) + k) = rd d (first d.n (1 - h.area) + k) := fun k hk => hL.old _ (by
    by_cases h5 : first d.n (1 - h.area) + k < first d.n h.area + 0
    · exact .inl h5
    · refine .inr (Nat.le_of_not_lt fun h6 => ?_)
      have := hap k hk (first d.n (1 - h.area) + k - first d.n h.area) (by omega)
      omega)
  have hrec : record d2 h 0 = some (l, h.epoch) := record_of hl (Nat.le_refl _) (by rw [hn2]; omega) fun i hi => by
    have := hL.new i hi
    rw [hn2, Nat.add_assoc, r2, ← Nat.add_assoc, this]
    rfl
  have hfar2 : ∀ k x, At d2 h.area k x → x.a ≤ h.gen ∧ (x.a = h.gen → need l.length ≤ k → x.b < h.epoch ∧ x.kind ≠ 1) := fun k x hx => by
    obtain ⟨x1, x2, x3, x4⟩ := hx
    rw [hn2] at x1 x2
    rw [r2] at x2
    by_cases hin : k < need l.length
    · have h3 := hL.new k hin
      rw [Nat.add_zero, x2] at h3
      cases h3
      exact ⟨Nat.le_refl _, fun _ _ => by omega⟩
    · rw [hL.old _ (.inr (by omega))] at x2
      obtain ⟨a1, a2⟩ := hfar k x ⟨x1, x2, x3, x4⟩
      exact ⟨a1, fun e1 _ => ⟨(a2 e1).1, (a2 e1).2 (by omega)⟩⟩
  have hst : record d2 h (need l.length) = none := record_none (piece_no fun x x1 x2 x3 x4 x5 => ((hfar2 _ x ⟨x1, x2, x3, .inl x4⟩).2 x5 (Nat.le_refl _)).2 x4)
  have hc : Chain d2 h 0 0 [l] (need l.length) h.epoch := by
    have := Chain.cons (last := 0) hrec (Nat.zero_le _) (.nil _ _)
    rw [Nat.zero_add] at this
    exact this
  refine ⟨hok, by rw [hn2]; exact hn, ha, hp, by rw [hr, if_pos rfl]; exact headOf_block ha, fun g hg => hother g ?_, ⟨_, hc⟩, hst, Nat.le_refl _, Nat.le_succ _, fun k x hx => ?_, fun k x hx => ?_⟩
  · rw [hr, if_neg (by omega), hL.old _ (.inl (by have := first_two (n := d.n) (a := h.area) (k := 0); omega))] at hg
    exact hg
  · obtain ⟨a1, a2⟩ := hfar2 k x hx
    exact ⟨a1, fun e1 e2 => ⟨(a2 e1 e2).1, fun _ => (a2 e1 e2).2⟩⟩
  · obtain ⟨x1, x2, x3, x4⟩ := hx
    rw [hn2] at x1 x2
    rw [r2, old1 k x1] at x2
    exact hmine k x ⟨x1, x2, x3, x4⟩
/-- A compaction: whole, or not at all. -/
theorem Bears.compact (j : J) (hb : Bears d h p rs u h.epoch) (hoff : d.off = false) (hh : above ⟨h.serial + 1, h.gen + 1, h.epoch, 1 - h.area⟩ = false) (hl : l.length ≤ 2000) (hf : need l.length ≤ half d.n) :
    Kept d (anew j d ⟨h.serial + 1, h.gen + 1, h.epoch, 1 - h.area⟩ (1 - p) l).2.2 ∧
    (((anew j d ⟨h.serial + 1, h.gen + 1, h.epoch, 1 - h.area⟩ (1 - p) l).1 = 0 ∧ (anew j d ⟨h.serial + 1, h.gen + 1, h.epoch, 1 - h.area⟩ (1 - p) l).2.2.off = false ∧ (anew j d ⟨h.serial + 1, h.gen + 1, h.epoch, 1 - h.area⟩ (1 - p) l).2.1 = ⟨⟨h.serial + 1, h.gen + 1, h.epoch, 1 - h.area⟩, 1 - p, [l], need l.length, j.dead⟩ ∧
       Bears (anew j d ⟨h.serial + 1, h.gen + 1, h.epoch, 1 - h.area⟩ (1 - p) l).2.2 ⟨h.serial + 1, h.gen + 1, h.epoch, 1 - h.area⟩ (1 - p) [l] (need l.length) h.epoch) ∨
     ((anew j d ⟨h.serial + 1, h.gen + 1, h.epoch, 1 - h.area⟩ (1 - p) l).1 = 6 ∧ (anew j d ⟨h.serial + 1, h.gen + 1, h.epoch, 1 - h.area⟩ (1 - p) l).2.2.off = true ∧ (anew j d ⟨h.serial + 1, h.gen + 1, h.epoch, 1 - h.area⟩ (1 - p) l).2.1 = { j with dead := true } ∧
       Bears (anew j d ⟨h.serial + 1, h.gen + 1, h.epoch, 1 - h.area⟩ (1 - p) l).2.2 h p rs u (h.epoch + 1))) := by
  obtain ⟨g, hg⟩ : ∃ g, g = Head.mk (h.serial + 1) (h.gen + 1) h.epoch (1 - h.area) := ⟨_, rfl⟩
  have g1 : g.gen = h.gen + 1 := by rw [hg]
  have g2 : g.epoch = h.epoch := by rw [hg]
  have g3 : g.area = 1 - h.area := by rw [hg]
  have g4 : g.serial = h.serial + 1 := by rw [hg]
  rw [← hg] at hh ⊢
  obtain ⟨b1, b2, b3⟩ := above_le hh
  have harea := hb.area
  have hplace := hb.place
  have hcn := chunks_need l
  have hn10 := hb.n
  have hlaid := lay_laid b2 b3 (by omega) (chunks (hdr l.length ++ l)) d 0 1 hoff hb.ok (by omega) (by omega) (by omega) (chunks_le _)
  unfold anew
  generalize Jr.lay d g 0 1 (chunks (hdr l.length ++ l)) = q at hlaid ⊢
  obtain ⟨e, d'⟩ := q
  dsimp only at hlaid ⊢
  rcases hlaid with ⟨rfl, ho, hL⟩ | ⟨rfl, ho, m, hm, hL⟩
  · rw [if_pos rfl]
    have hk := hL.kept
    have hw := write_rd (d := d') (i := 1 - p) (x := g.block) ho (by rw [hk.n]; omega) hk.ok (head_block_ok hh)
    rw [crown_eq]
    obtain ⟨hk2, ⟨h0, ho2, hr⟩ | ⟨h6, ho2, hr⟩⟩ := hw
    · rw [if_pos h0]
      refine ⟨hk.trans hk2, .inl ⟨rfl, ho2, rfl, ?_⟩⟩
      rw [hcn] at hL
      have := Bears.made (d2 := (d'.write ((1 - p : Nat) : Int) g.block.put).2) (h := g) (p := 1 - p) (l := l) hk2.ok (by rw [hk2.n, hk.n]) hn10 (by omega) (by omega) hl hf hL hr
        (fun k x hx => by rw [g3] at hx; rw [g1, g2]; exact hb.far k x hx)
        (fun k x hx => by
          rw [g3, show 1 - (1 - h.area) = h.area by omega] at hx
          have := (hb.mine k x hx).1
          rw [g1]
          exact ⟨by omega, fun h => by omega⟩)
        (fun y hy => by
          rw [show 1 - (1 - p) = p by omega, hb.head] at hy
          cases hy
          omega)
      rw [g2] at this
      exact this
    · rw [if_neg (by rw [h6]; decide)]
      refine ⟨hk.trans hk2, .inr ⟨rfl, ho2, rfl, ?_⟩⟩
      have h5 := hb.beside hL g3 g1 (by omega) (E' := h.epoch + 1) (by omega) (Nat.le_succ _) (Nat.le_refl _)
      exact h5.same hk2.n hk2.ok hr (Nat.le_refl _) (Nat.le_refl _)
  · rw [if_neg (by decide)]
    exact ⟨hL.kept, .inr ⟨rfl, ho, rfl, hb.beside hL g3 g1 (by omega) (E' := h.epoch + 1) (by omega) (Nat.le_succ _) (Nat.le_refl _)⟩⟩
/-- A snapshot is written where no number of writes is told. -/
theorem anew_calm (j : J) (hok : d.ok) (hn : 10 ≤ d.n) (hoff : d.off = false) (harm : d.armed = false) (ha : h.area ≤ 1) (hp : p ≤ 1) (hh : above h = false) (hl : l.length ≤ 2000) (hf : need l.length ≤ half d.n)
    (hfar : ∀ k x, At d h.area k x → x.a ≤ h.gen ∧ (x.a = h.gen → x.b < h.epoch ∧ (0 < k → x.kind ≠ 1)))
    (hmine : ∀ k x, At d (1 - h.area) k x → x.a ≤ h.gen + 1 ∧ (x.a = h.gen + 1 → x.b < h.epoch ∧ (0 < k → x.kind ≠ 1)))
    (hother : ∀ g, headOf (rd d (1 - p)) = some g → g.serial < h.serial) :
    Kept d (anew j d h p l).2.2 ∧ (anew j d h p l).1 = 0 ∧ (anew j d h p l).2.2.off = false ∧ (anew j d h p l).2.2.armed = false ∧ (anew j d h p l).2.1 = ⟨h, p, [l], need l.length, j.dead⟩ ∧ Bears (anew j d h p l).2.2 h p [l] (need l.length) h.epoch := by
  obtain ⟨b1, b2, b3⟩ := above_le hh
  have hcn := chunks_need l
  have hlaid := lay_laid b2 b3 ha (chunks (hdr l.length ++ l)) d 0 1 hoff hok (by omega) (by omega) (by omega) (chunks_le _)
  have hcalm := lay_calm ha (chunks (hdr l.length ++ l)) d 0 1 hoff harm (by omega) (by omega)
  unfold anew
  generalize Jr.lay d h 0 1 (chunks (hdr l.length ++ l)) = q at hlaid hcalm ⊢
  obtain ⟨e, d'⟩ := q
  dsimp only at hlaid hcalm ⊢
  obtain ⟨rfl, hA⟩ := hcalm
  rcases hlaid with ⟨-, ho, hL⟩ | ⟨h6, _⟩
  · rw [if_pos rfl]
    have hk := hL.kept
    have hw := write_rd (d := d') (i := p) (x := h.block) ho (by rw [hk.n]; omega) hk.ok (head_block_ok hh)
    have hc2 := write_calm (d := d') (i := p) (x := h.block.put) ho (by rw [hk.n]; omega) hA
    rw [crown_eq]
    obtain ⟨hk2, ⟨h0, ho2, hr⟩ | ⟨h6, ho2, hr⟩⟩ := hw
    · rw [if_pos h0]
      rw [hcn] at hL
      exact ⟨hk.trans hk2, rfl, ho2, hc2.2, rfl, Bears.made hk2.ok (by rw [hk2.n, hk.n]) hn ha hp hl hf hL hr hfar hmine hother⟩
    · rw [hc2.1] at h6; cases h6
  · cases h6
/-- An opening: the same records under a greater epoch, or nothing is done. -/
theorem Bears.open_ (hb : Bears d h p rs u E) (hoff : d.off = false) (hrs : rs ≠ []) (hh : above (next h) = false) :
    Kept d (open_ d).2.2 ∧
    (((open_ d).1 = 0 ∧ (open_ d).2.2.off = false ∧ (open_ d).2.1 = ⟨next h, 1 - p, rs, u, false⟩ ∧ Bears (open_ d).2.2 (next h) (1 - p) rs u (h.epoch + 1)) ∨
     ((open_ d).1 = 6 ∧ (open_ d).2.2.off = true ∧ Bears (open_ d).2.2 h p rs u E)) := by
  have hn10 := hb.n
  have hplace := hb.place
  have hask : ask d = 0 := by unfold ask; rw [hoff, if_neg (by simp), if_neg (by omega)]
  unfold Jr.open_
  rw [hask, if_neg (by simp), hb.find]
  dsimp only
  rw [hb.load]
  dsimp only
  rw [if_neg hrs, hh, if_neg (by simp), crown_eq]
  have hw := write_rd (d := d) (i := 1 - p) (x := (next h).block) hoff (by omega) hb.ok (head_block_ok hh)
  obtain ⟨hk, ⟨h0, ho2, hr⟩ | ⟨h6, ho2, hr⟩⟩ := hw
  · rw [if_pos h0]
    refine ⟨hk, .inl ⟨rfl, ho2, rfl, ?_⟩⟩
    dsimp only
    generalize (d.write ((1 - p : Nat) : Int) (next h).block.put).2 = d2 at hk hr ⊢
    have hn := hk.n
    have ra : ∀ a k, rd d2 (first d.n a + k) = rd d (first d.n a + k) := fun a k => by
      rw [hr, if_neg (by have := first_two (n := d.n) (a := a) (k := k); omega)]
    have hat : ∀ a k x, At d2 a k x → At d a k x := fun a k x hx => by unfold At at hx ⊢; rw [hn, ra] at hx; exact hx
    obtain ⟨last, hc⟩ := hb.chain
    have hlow := hb.low
    have hst : record d2 (next h) u = none := by
      rw [record_congr (d := d) (d' := d2) (h := h) (h' := next h) hn rfl rfl (fun k _ _ => ra _ _) (fun x hx => ?_)]
      · exact hb.stop
      · obtain ⟨x1, x2, x3, x4⟩ := piece_at hx
        have := ((hb.mine u x ⟨piece_lt hx, x1, x4, .inl x2⟩).2 x3 (Nat.le_refl _)).1
        show h.epoch + 1 < x.b ↔ h.epoch < x.b
        omega
    refine ⟨hk.ok, by rw [hn]; exact hn10, hb.area, by omega, by rw [hr, if_pos rfl]; exact headOf_block hb.area, fun g hg => ?_, ⟨last, Chain.keeps (h := h) (h' := next h) hn rfl rfl (Nat.le_succ _) hc fun k _ _ _ => ra _ _⟩, hst, Nat.le_refl _, Nat.le_succ _, fun k x hx => ?_, fun k x hx => ?_⟩
    · rw [show 1 - (1 - p) = p by omega, hr, if_neg (by omega), hb.head] at hg
      cases hg
      exact Nat.lt_succ_self _
    · obtain ⟨a1, a2⟩ := hb.mine k x (hat _ _ _ hx)
      exact ⟨a1, fun e1 e2 => ⟨Nat.lt_of_lt_of_le (a2 e1 e2).1 hlow, (a2 e1 e2).2⟩⟩
    · obtain ⟨a1, a2⟩ := hb.far k x (hat _ _ _ hx)
      exact ⟨a1, fun e1 => ⟨Nat.lt_of_lt_of_le (a2 e1).1 hlow, (a2 e1).2⟩⟩
  · rw [if_neg (by rw [h6]; decide)]
    exact ⟨hk, .inr ⟨rfl, ho2, hb.same hk.n hk.ok hr (Nat.le_refl _) hb.low⟩⟩
end
end Go.Jr
namespace Go.Jr
open Go.Dr Go.Fld Go.Sha

/-- A journal that lives, on its drum; its numbers are at most K. -/
structure Live (j : J) (d : Drum) (K : Nat) : Prop where
  bears : Bears d j.head j.place j.records j.used j.head.epoch
  off : d.off = false
  dead : j.dead = false
  serial : j.head.serial ≤ K
  gen : j.head.gen ≤ K
  epoch : j.head.epoch ≤ K
  some : j.records ≠ []
/-- A drum with a journal, whether it lives or not. -/
structure Rest (d : Drum) (rs : List (List UInt8)) (e K : Nat) : Prop where
  bears : ∃ h p u E, Bears d h p rs u E ∧ h.epoch = e ∧ h.serial ≤ K ∧ h.gen ≤ K ∧ h.epoch ≤ K
  some : rs ≠ []
section
variable {j : J} {d : Drum} {K : Nat} {l : List UInt8}
theorem Live.rest (h : Live j d K) : Rest d j.records j.head.epoch K := ⟨⟨_, _, _, _, h.bears, rfl, h.serial, h.gen, h.epoch⟩, h.some⟩
theorem Live.mono {K' : Nat} (h : Live j d K) (hk : K ≤ K') : Live j d K' := ⟨h.bears, h.off, h.dead, Nat.le_trans h.serial hk, Nat.le_trans h.gen hk, Nat.le_trans h.epoch hk, h.some⟩
theorem Rest.mono {rs : List (List UInt8)} {e K' : Nat} (h : Rest d rs e K) (hk : K ≤ K') : Rest d rs e K' := by
  obtain ⟨⟨g, p, u, E, h1, h2, h3, h4, h5⟩, h6⟩ := h
  exact ⟨⟨g, p, u, E, h1, h2, by omega, by omega, by omega⟩, h6⟩
theorem Live.len (h : Live j d K) : j.records.length ≤ 4096 ∧ (∀ l ∈ j.records, l.length ≤ 2000) ∧ j.used ≤ half d.n ∧ j.records.length ≤ j.used := by
  have h1 := h.bears.used
  have h2 := h.bears.ok.2
  refine ⟨?_, h1.2.2, h1.1, h1.2.1⟩
  have : half d.n ≤ 4096 := by unfold half; omega
  omega
theorem Bears.on {d' : Drum} {h : Head} {p u E : Nat} {rs : List (List UInt8)} (hb : Bears d h p rs u E) (hn : d'.n = d.n) (ha : d'.all = d.all) : Bears d' h p rs u E :=
  hb.same hn ⟨by rw [ha, hn]; exact hb.ok.1, by rw [hn]; exact hb.ok.2⟩ (rd_same ha) (Nat.le_refl _) hb.low
theorem Live.arm (h : Live j d K) (n : Int) : Live j (d.arm n) K := ⟨h.bears.on rfl rfl, h.off, h.dead, h.serial, h.gen, h.epoch, h.some⟩
theorem Live.on (h : Live j d K) : Live j d.on K := ⟨h.bears.on rfl rfl, rfl, h.dead, h.serial, h.gen, h.epoch, h.some⟩
theorem Rest.arm {rs : List (List UInt8)} {e : Nat} (h : Rest d rs e K) (n : Int) : Rest (d.arm n) rs e K := by
  obtain ⟨⟨g, p, u, E, h1, h2⟩, h6⟩ := h
  exact ⟨⟨g, p, u, E, h1.on rfl rfl, h2⟩, h6⟩
theorem Rest.on {rs : List (List UInt8)} {e : Nat} (h : Rest d rs e K) : Rest d.on rs e K := by
  obtain ⟨⟨g, p, u, E, h1, h2⟩, h6⟩ := h
  exact ⟨⟨g, p, u, E, h1.on rfl rfl, h2⟩, h6⟩
theorem Live.can (h : Live j d K) (hl : l.length ≤ 2000) : j.can d l = 0 := by
  unfold J.can
  rw [h.dead, h.off, if_neg (by simp), if_neg (by simp), if_neg (by omega)]
theorem Live.can_long (h : Live j d K) (hl : 2000 < l.length) : j.can d l = 3 := by
  unfold J.can
  rw [h.dead, h.off, if_neg (by simp), if_neg (by simp), if_pos (by omega)]
/-- An append: refused, done, or lost with the power. -/
theorem Live.append (h : Live j d K) (hK : K ≤ 4294967295) (hl : l.length ≤ 2000) :
    (half d.n < j.used + need l.length ∧ j.append d l = (8, j, d)) ∨
    (j.used + need l.length ≤ half d.n ∧ Kept d (j.append d l).2.2 ∧
      (((j.append d l).1 = 0 ∧ (j.append d l).2.1 = { j with records := j.records ++ [l], used := j.used + need l.length } ∧ Live (j.append d l).2.1 (j.append d l).2.2 K) ∨
       ((j.append d l).1 = 6 ∧ (j.append d l).2.1 = { j with dead := true } ∧ (j.append d l).2.2.off = true ∧ Rest (j.append d l).2.2 j.records j.head.epoch K))) := by
  unfold J.append
  rw [h.can hl, if_neg (by simp)]
  by_cases hf : half d.n < j.used + need l.length
  · rw [if_pos hf]; exact .inl ⟨hf, rfl⟩
  rw [if_neg hf]
  obtain ⟨hk, ⟨h0, ho, hb⟩ | ⟨h6, ho, hb⟩⟩ := h.bears.append h.off (Nat.le_trans h.gen hK) (Nat.le_trans h.epoch hK) hl (Nat.le_of_not_lt hf)
  · rw [if_pos h0]
    exact .inr ⟨Nat.le_of_not_lt hf, hk, .inl ⟨rfl, rfl, hb, ho, h.dead, h.serial, h.gen, h.epoch, by simp⟩⟩
  · rw [if_neg (by rw [h6]; decide)]
    exact .inr ⟨Nat.le_of_not_lt hf, hk, .inr ⟨rfl, rfl, ho, ⟨_, _, _, _, hb, rfl, h.serial, h.gen, h.epoch⟩, h.some⟩⟩
theorem Live.append_long (h : Live j d K) (hl : 2000 < l.length) : j.append d l = (3, j, d) := by
  unfold J.append
  rw [h.can_long hl, if_pos (by simp), h.dead, h.off]
  have := h.dead
  obtain ⟨a, b, c, e, f⟩ := j
  simp only at this
  subst this
  rfl
theorem Live.compact (h : Live j d K) (hK : K + 1 ≤ 4294967295) (hl : l.length ≤ 2000) :
    (half d.n < need l.length ∧ j.compact d l = (8, j, d)) ∨
    (need l.length ≤ half d.n ∧ Kept d (j.compact d l).2.2 ∧
      (((j.compact d l).1 = 0 ∧ (j.compact d l).2.1.records = [l] ∧ (j.compact d l).2.1.head.epoch = j.head.epoch ∧ Live (j.compact d l).2.1 (j.compact d l).2.2 (K + 1)) ∨
       ((j.compact d l).1 = 6 ∧ (j.compact d l).2.1 = { j with dead := true } ∧ (j.compact d l).2.2.off = true ∧ Rest (j.compact d l).2.2 j.records j.head.epoch K))) := by
  have h1 := h.serial
  have h2 := h.gen
  have h3 := h.epoch
  have hab : above ⟨j.head.serial + 1, j.head.gen + 1, j.head.epoch, 1 - j.head.area⟩ = false := by
    unfold above
    apply decide_eq_false
    show ¬ (4294967295 < max (j.head.serial + 1) (max (j.head.gen + 1) j.head.epoch))
    omega
  unfold J.compact
  rw [h.can hl, if_neg (by simp)]
  by_cases hf : half d.n < need l.length
  · rw [if_pos (.inl hf)]; exact .inl ⟨hf, rfl⟩
  rw [if_neg (by rw [hab]; simp; omega)]
  obtain ⟨hk, ⟨h0, ho, hj, hb⟩ | ⟨h6, ho, hj, hb⟩⟩ := h.bears.compact j h.off hab hl (Nat.le_of_not_lt hf)
  · refine .inr ⟨Nat.le_of_not_lt hf, hk, .inl ⟨h0, by rw [hj], by rw [hj], ?_⟩⟩
    rw [hj]
    exact ⟨hb, ho, h.dead, by show j.head.serial + 1 ≤ _; omega, by show j.head.gen + 1 ≤ _; omega, by show j.head.epoch ≤ _; omega, by simp⟩
  · exact .inr ⟨Nat.le_of_not_lt hf, hk, .inr ⟨h6, hj, ho, ⟨_, _, _, _, hb, rfl, h.serial, h.gen, h.epoch⟩, h.some⟩⟩
theorem Rest.open_ {rs : List (List UInt8)} {e : Nat} (h : Rest d rs e K) (hoff : d.off = false) (hK : K + 1 ≤ 4294967295) :
    Kept d (open_ d).2.2 ∧
    (((open_ d).1 = 0 ∧ (open_ d).2.1.records = rs ∧ (open_ d).2.1.head.epoch = e + 1 ∧ (open_ d).2.1.dead = false ∧ Live (open_ d).2.1 (open_ d).2.2 (K + 1)) ∨
     ((open_ d).1 = 6 ∧ (open_ d).2.2.off = true ∧ Rest (open_ d).2.2 rs e K)) := by
  obtain ⟨⟨g, p, u, E, hb, h2, h3, h4, h5⟩, h6⟩ := h
  have hab : above (next g) = false := by
    unfold above
    apply decide_eq_false
    show ¬ (4294967295 < max (g.serial + 1) (max g.gen (g.epoch + 1)))
    omega
  obtain ⟨hk, ⟨h0, ho, hj, hb2⟩ | ⟨h7, ho, hb2⟩⟩ := hb.open_ hoff h6 hab
  · refine ⟨hk, .inl ⟨h0, by rw [hj], by rw [hj, ← h2]; rfl, by rw [hj], ?_⟩⟩
    rw [hj]
    exact ⟨hb2, ho, rfl, by show g.serial + 1 ≤ _; omega, by show g.gen ≤ _; omega, by show g.epoch + 1 ≤ _; omega, h6⟩
  · exact ⟨hk, .inr ⟨h7, ho, ⟨g, p, u, E, hb2, h2, h3, h4, h5⟩, h6⟩⟩

/-- Where no number of writes is told, the power does not go. -/
theorem Live.append_calm (h : Live j d K) (ha : d.armed = false) (hl : l.length ≤ 2000) : (j.append d l).1 ≠ 6 ∧ (j.append d l).2.2.armed = false := by
  unfold J.append
  rw [h.can hl, if_neg (by simp)]
  by_cases hf : half d.n < j.used + need l.length
  · rw [if_pos hf]; exact ⟨by simp, ha⟩
  rw [if_neg hf]
  have hcn := chunks_need l
  obtain ⟨h0, hA⟩ := lay_calm h.bears.area (chunks (hdr l.length ++ l)) d j.used 1 h.off ha (by have := h.bears.n; omega) (by omega)
  rw [if_pos h0]
  exact ⟨by simp, hA⟩
theorem Rest.open_calm {rs : List (List UInt8)} {e : Nat} (h : Rest d rs e K) (hoff : d.off = false) (ha : d.armed = false) (hK : K + 1 ≤ 4294967295) : (Jr.open_ d).1 ≠ 6 ∧ (Jr.open_ d).2.2.armed = false := by
  obtain ⟨⟨g, p, u, E, hb, h2, h3, h4, h5⟩, h6⟩ := h
  have hab : above (next g) = false := by
    unfold above
    apply decide_eq_false
    show ¬ (4294967295 < max (g.serial + 1) (max g.gen (g.epoch + 1)))
    omega
  have hn10 := hb.n
  have hask : ask d = 0 := by unfold ask; rw [hoff, if_neg (by simp), if_neg (by omega)]
  have hplace := hb.place
  obtain ⟨h0, hA⟩ := write_calm (d := d) (i := 1 - p) (x := (next g).block.put) hoff (by omega) ha
  unfold Jr.open_
  rw [hask, if_neg (by simp), hb.find]
  dsimp only
  rw [hb.load]
  dsimp only
  rw [if_neg h6, hab, if_neg (by simp), crown_eq, if_pos h0]
  exact ⟨by simp, hA⟩
/-- An opening that is cut at its one write. -/
theorem Rest.open_cut {rs : List (List UInt8)} {e : Nat} (h : Rest d rs e K) (hoff : d.off = false) (ha : d.armed = true) (hle : d.left = 0) (hK : K + 1 ≤ 4294967295) : (Jr.open_ d).1 = 6 := by
  obtain ⟨⟨g, p, u, E, hb, h2, h3, h4, h5⟩, h6⟩ := h
  have hab : above (next g) = false := by
    unfold above
    apply decide_eq_false
    show ¬ (4294967295 < max (g.serial + 1) (max g.gen (g.epoch + 1)))
    omega
  have hn10 := hb.n
  have hask : ask d = 0 := by unfold ask; rw [hoff, if_neg (by simp), if_neg (by omega)]
  have hplace := hb.place
  have hw : (d.write ((1 - p : Nat) : Int) (next g).block.put).1 = 6 := by
    unfold Drum.write
    rw [ask_zero hoff (by omega)]
    have : d.goes.1 = true := by unfold Drum.goes; rw [ha, hle]; rfl
    rw [this]
    rfl
  unfold Jr.open_
  rw [hask, if_neg (by simp), hb.find]
  dsimp only
  rw [hb.load]
  dsimp only
  rw [if_neg h6, hab, if_neg (by simp), crown_eq, if_neg (by rw [hw]; decide)]

theorem new_fresh {n : Nat} (hn : n ≤ 4096) : (Drum.new n).ok := ⟨by simp [Drum.new], hn⟩
theorem find_new {n : Nat} (hn : 2 ≤ n) : find (Drum.new n) = none := by
  unfold find; rw [rd_new 0 (by omega), rd_new 1 (by omega)]; rfl
/-- A drum that never was is refused. -/
theorem open_new {n : Nat} (hn : 10 ≤ n) : Jr.open_ (Drum.new n) = (12, J.zero, Drum.new n) := by
  have hask : ask (Drum.new n) = 0 := by
    unfold ask
    rw [if_neg (by show ¬ (false = true); decide), if_neg (by show ¬ (n < 10); omega)]
  unfold Jr.open_
  rw [hask, if_neg (by simp), find_new (by omega)]
/-- The first journal of a drum. -/
theorem format_new {n : Nat} (hn : 10 ≤ n) (hn2 : n ≤ 4096) (hl : l.length ≤ 2000) (hf : need l.length ≤ half n) :
    (format (Drum.new n) l).1 = 0 ∧ (format (Drum.new n) l).2.1 = ⟨⟨1, 1, 1, 0⟩, 0, [l], need l.length, false⟩ ∧ Live (format (Drum.new n) l).2.1 (format (Drum.new n) l).2.2 1 ∧ (format (Drum.new n) l).2.2.armed = false ∧ Kept (Drum.new n) (format (Drum.new n) l).2.2 := by
  have hask : ask (Drum.new n) = 0 := by
    unfold ask
    rw [if_neg (by show ¬ (false = true); decide), if_neg (by show ¬ (n < 10); omega)]
  have hfr : fresh (Drum.new n) = (⟨1, 1, 1, 0⟩, 0) := by unfold fresh; rw [find_new (by omega)]
  have hfo : found (Drum.new n) = J.zero := by unfold found; rw [find_new (by omega)]
  have hno : ∀ a k x, a ≤ 1 → ¬ At (Drum.new n) a k x := fun a k x ha hx => by
    obtain ⟨x1, x2, _⟩ := hx
    have h4 : k < half n := x1
    have x3 : rd (Drum.new n) (first n a + k) = some x := x2
    rw [rd_new _ (show first n a + k < n from first_lt (by omega) ha h4)] at x3
    cases x3
  have h := anew_calm (d := Drum.new n) (h := ⟨1, 1, 1, 0⟩) (p := 0) (l := l) J.zero (new_fresh hn2) hn rfl rfl (by simp) (by simp) (by rfl) hl hf
    (fun k x hx => (hno _ _ _ (by simp) hx).elim) (fun k x hx => (hno _ _ _ (by simp) hx).elim) (fun g hg => by
      rw [rd_new _ (by omega)] at hg; cases hg)
  have hdn : (Drum.new n).n = n := rfl
  unfold format
  rw [hask, if_neg (by simp), if_neg (by omega), hfr, hfo, hdn, if_neg (by
    rintro (h | h)
    · omega
    · cases h)]
  obtain ⟨h1, h2, h3, h4, h5, h6⟩ := h
  refine ⟨h2, h5, ?_, h4, h1⟩
  rw [h5]
  exact ⟨h6, h3, rfl, Nat.le_refl _, Nat.le_refl _, Nat.le_refl _, by simp⟩
/-- A journal formatted again. -/
theorem format_again (h : Live j d K) (ha : d.armed = false) (hK : K + 1 ≤ 4294967295) (hl : l.length ≤ 2000) (hf : need l.length ≤ half d.n) :
    (format d l).1 = 0 ∧ (format d l).2.1.records = [l] ∧ Live (format d l).2.1 (format d l).2.2 (K + 1) ∧ (format d l).2.2.armed = false ∧ Kept d (format d l).2.2 := by
  have h1 := h.serial
  have h2 := h.gen
  have h3 := h.epoch
  have hb := h.bears
  have hn10 := hb.n
  have harea := hb.area
  have hplace := hb.place
  have hask : ask d = 0 := by unfold ask; rw [h.off, if_neg (by simp), if_neg (by omega)]
  have hfr : fresh d = (⟨j.head.serial + 1, j.head.gen + 1, j.head.epoch + 1, 1 - j.head.area⟩, 1 - j.place) := by unfold fresh; rw [hb.find]
  have hab : above ⟨j.head.serial + 1, j.head.gen + 1, j.head.epoch + 1, 1 - j.head.area⟩ = false := by
    unfold above
    apply decide_eq_false
    show ¬ (4294967295 < max (j.head.serial + 1) (max (j.head.gen + 1) (j.head.epoch + 1)))
    omega
  have hfo : (found d).dead = false := by unfold found; rw [hb.find]
  have hc := anew_calm (d := d) (h := ⟨j.head.serial + 1, j.head.gen + 1, j.head.epoch + 1, 1 - j.head.area⟩) (p := 1 - j.place) (l := l) (found d) hb.ok hn10 h.off ha (by show 1 - j.head.area ≤ 1; omega) (by omega) hab hl hf
    (fun k x hx => by
      obtain ⟨a1, a2⟩ := hb.far k x hx
      exact ⟨a1, fun e1 => ⟨Nat.lt_succ_of_lt (a2 e1).1, (a2 e1).2⟩⟩)
    (fun k x hx => by
      have hx2 : At d (1 - (1 - j.head.area)) k x := hx
      rw [show 1 - (1 - j.head.area) = j.head.area by omega] at hx2
      have := (hb.mine k x hx2).1
      exact ⟨by show x.a ≤ j.head.gen + 1 + 1; omega, fun e1 => by have e2 : x.a = j.head.gen + 1 + 1 := e1; omega⟩)
    (fun g hg => by
      rw [show 1 - (1 - j.place) = j.place by omega, hb.head] at hg
      cases hg
      exact Nat.lt_succ_self _)
  unfold format
  rw [hask, if_neg (by simp), if_neg (by omega), hfr, if_neg (by
    rintro (h | h)
    · omega
    · rw [hab] at h; cases h)]
  obtain ⟨c1, c2, c3, c4, c5, c6⟩ := hc
  refine ⟨c2, by rw [c5], ?_, c4, c1⟩
  rw [c5]
  exact ⟨c6, c3, hfo, by show j.head.serial + 1 ≤ _; omega, by show j.head.gen + 1 ≤ _; omega, by show j.head.epoch + 1 ≤ _; omega, by simp⟩
end
end Go.Jr
namespace Go.Jr
open Go.Dr Go.Fld Go.Sha

theorem wrap_small {x : Int} (h0 : 0 ≤ x) (h1 : x < 9223372036854775808) : wrap x = x := by unfold wrap; omega
theorem write_count {d : Drum} {i : Nat} {x : List UInt8} (h1 : d.off = false) (h2 : i < d.n) (ha : d.armed = false) : (d.write (i : Int) x).2.writes = wrap (d.writes + 1) ∧ (d.write (i : Int) x).2.n = d.n ∧ (d.write (i : Int) x).2.off = false ∧ (d.write (i : Int) x).2.armed = false ∧ (d.write (i : Int) x).1 = 0 := by
  unfold Drum.write
  rw [ask_zero h1 h2]
  have : d.goes = (false, d) := by unfold Drum.goes; rw [ha]; rfl
  rw [this]
  exact ⟨rfl, rfl, h1, ha, rfl⟩
theorem lay_count {h : Head} (ha : h.area ≤ 1) (ps : List (List UInt8)) : ∀ (d : Drum) (at_ kind : Nat) (k : Nat), d.off = false → d.armed = false → 2 ≤ d.n → at_ + ps.length ≤ half d.n → d.writes = (k : Int) → k + ps.length ≤ 1000000 →
    (lay d h at_ kind ps).1 = 0 ∧ (lay d h at_ kind ps).2.writes = ((k + ps.length : Nat) : Int) ∧ (lay d h at_ kind ps).2.n = d.n ∧ (lay d h at_ kind ps).2.off = false ∧ (lay d h at_ kind ps).2.armed = false := by
  induction ps with
  | nil => intro d at_ kind k h1 h2 _ _ h5 _; exact ⟨rfl, h5, rfl, h1, h2⟩
  | cons p ps ih =>
    intro d at_ kind k h1 h2 h3 h4 h5 h6
    rw [List.length_cons] at h4 h6
    have hin := first_lt h3 ha (show at_ < half d.n by omega)
    obtain ⟨w1, w2, w3, w4, w5⟩ := write_count (x := Block.put ⟨kind, h.gen, h.epoch, at_, p⟩) h1 hin h2
    rw [lay_cons, if_pos w5]
    rw [h5, wrap_small (by omega) (by omega)] at w1
    have := ih (d.write (first d.n h.area + at_ : Nat) (Block.put ⟨kind, h.gen, h.epoch, at_, p⟩)).2 (at_ + 1) 2 (k + 1) w3 w4 (by rw [w2]; exact h3) (by rw [w2]; omega) (by rw [w1]; omega) (by omega)
    obtain ⟨a1, a2, a3, a4, a5⟩ := this
    exact ⟨a1, by rw [a2, List.length_cons]; congr 1; omega, by rw [a3, w2], a4, a5⟩
theorem anew_count (j : J) {d : Drum} {h : Head} {p : Nat} {l : List UInt8} {k : Nat} (ha : h.area ≤ 1) (hp : p ≤ 1) (hn : 10 ≤ d.n) (hoff : d.off = false) (harm : d.armed = false) (hf : need l.length ≤ half d.n) (hw : d.writes = (k : Int)) (hk : k ≤ 1000) (hl : need l.length ≤ 100) :
    (anew j d h p l).2.2.writes = ((k + need l.length + 1 : Nat) : Int) := by
  have hcn := chunks_need l
  obtain ⟨a1, a2, a3, a4, a5⟩ := lay_count ha (chunks (hdr l.length ++ l)) d 0 1 k hoff harm (by omega) (by omega) hw (by omega)
  unfold anew
  rw [if_pos a1, crown_eq]
  obtain ⟨w1, w2, w3, w4, w5⟩ := write_count (d := (lay d h 0 1 (chunks (hdr l.length ++ l))).2) (i := p) (x := h.block.put) a4 (by rw [a3]; omega) a5
  rw [if_pos w5]
  show ((lay d h 0 1 (chunks (hdr l.length ++ l))).2.write (p : Int) h.block.put).2.writes = _
  rw [w1, a2, hcn, wrap_small (by omega) (by omega)]
  omega
section
variable {j : J} {d : Drum} {K k : Nat} {l : List UInt8}
theorem format_new_count {n : Nat} (hn : 10 ≤ n) (hn2 : n ≤ 4096) (hl : l.length ≤ 2000) (hf : need l.length ≤ half n) : (format (Drum.new n) l).2.2.writes = ((need l.length + 1 : Nat) : Int) := by
  have hask : ask (Drum.new n) = 0 := by
    unfold ask
    rw [if_neg (by show ¬ (false = true); decide), if_neg (by show ¬ (n < 10); omega)]
  have hfr : fresh (Drum.new n) = (⟨1, 1, 1, 0⟩, 0) := by unfold fresh; rw [find_new (by omega)]
  have hdn : (Drum.new n).n = n := rfl
  unfold format
  rw [hask, if_neg (by simp), if_neg (by omega), hfr, hdn, if_neg (by
    rintro (h | h)
    · omega
    · cases h)]
  have := anew_count (found (Drum.new n)) (d := Drum.new n) (h := ⟨1, 1, 1, 0⟩) (p := 0) (l := l) (k := 0) (by simp) (by simp) hn rfl rfl hf rfl (by omega) (by unfold need; omega)
  rw [this]
  congr 1
  omega
theorem Live.append_count (h : Live j d K) (ha : d.armed = false) (hl : l.length ≤ 2000) (hf : j.used + need l.length ≤ half d.n) (hw : d.writes = (k : Int)) (hk : k ≤ 1000) : (j.append d l).2.2.writes = ((k + need l.length : Nat) : Int) := by
  have hcn := chunks_need l
  obtain ⟨a1, a2, a3, a4, a5⟩ := lay_count h.bears.area (chunks (hdr l.length ++ l)) d j.used 1 k h.off ha (by have := h.bears.n; omega) (by omega) hw (by rw [hcn]; unfold need; omega)
  unfold J.append
  rw [h.can hl, if_neg (by simp), if_neg (by omega), if_pos a1]
  show (lay d j.head j.used 1 (chunks (hdr l.length ++ l))).2.writes = _
  rw [a2, hcn]
theorem Rest.open_count {rs : List (List UInt8)} {e : Nat} (h : Rest d rs e K) (hoff : d.off = false) (ha : d.armed = false) (hK : K + 1 ≤ 4294967295) (hw : d.writes = (k : Int)) (hk : k ≤ 1000) : (Jr.open_ d).2.2.writes = ((k + 1 : Nat) : Int) := by
  obtain ⟨⟨g, p, u, E, hb, h2, h3, h4, h5⟩, h6⟩ := h
  have hab : above (next g) = false := by
    unfold above
    apply decide_eq_false
    show ¬ (4294967295 < max (g.serial + 1) (max g.gen (g.epoch + 1)))
    omega
  have hn10 := hb.n
  have hask : ask d = 0 := by unfold ask; rw [hoff, if_neg (by simp), if_neg (by omega)]
  have hplace := hb.place
  obtain ⟨w1, w2, w3, w4, w5⟩ := write_count (d := d) (i := 1 - p) (x := (next g).block.put) hoff (by omega) ha
  unfold Jr.open_
  rw [hask, if_neg (by simp), hb.find]
  dsimp only
  rw [hb.load]
  dsimp only
  rw [if_neg h6, hab, if_neg (by simp), crown_eq, if_pos w5]
  show (d.write ((1 - p : Nat) : Int) (next g).block.put).2.writes = _
  rw [w1, hw, wrap_small (by omega) (by omega)]
  rfl
end
end Go.Jr
namespace Go.Jr
open Go.Dr Go.Fld Go.Sha

/-- Facts of a journal and its drum that calls want. -/
structure Fit (j : J) (d : Drum) (K left : Nat) : Prop where
  live : Live j d K
  calm : d.armed = false
  left : d.left ≤ left
theorem format_fit {n : Nat} {l : List UInt8} (hn : 10 ≤ n) (hn2 : n ≤ 4096) (hl : l.length ≤ 2000) (hf : need l.length ≤ half n) :
    ∃ j d, format (Drum.new n) l = (0, j, d) ∧ Fit j d 1 0 ∧ d.n = n ∧ j.records = [l] ∧ j.used = need l.length ∧ j.head.epoch = 1 ∧ d.writes = ((need l.length + 1 : Nat) : Int) := by
  obtain ⟨h1, h2, h3, h4, h5⟩ := format_new hn hn2 hl hf
  have h6 := format_new_count hn hn2 hl hf
  refine ⟨(format (Drum.new n) l).2.1, (format (Drum.new n) l).2.2, ?_, ⟨h3, h4, h5.left⟩, h5.n, ?_, ?_, ?_, h6⟩
  · rw [← h1]
  · rw [h2]
  · rw [h2]
  · rw [h2]
section
variable {j : J} {d : Drum} {K m k : Nat} {l : List UInt8}
theorem Fit.append (h : Fit j d K m) (hK : K ≤ 4294967295) (hl : l.length ≤ 2000) (hf : j.used + need l.length ≤ half d.n) :
    ∃ j' d', j.append d l = (0, j', d') ∧ Fit j' d' K m ∧ d'.n = d.n ∧ j'.records = j.records ++ [l] ∧ j'.used = j.used + need l.length ∧ j'.head = j.head := by
  have hc := h.live.append_calm h.calm hl
  rcases h.live.append hK hl with ⟨h1, _⟩ | ⟨_, hk, ⟨a1, a2, a3⟩ | ⟨a1, _⟩⟩
  · omega
  · refine ⟨(j.append d l).2.1, (j.append d l).2.2, by rw [← a1], ⟨a3, hc.2, Nat.le_trans hk.left h.left⟩, hk.n, by rw [a2], by rw [a2], by rw [a2]⟩
  · exact (hc.1 a1).elim
theorem Fit.full (h : Fit j d K m) (hK : K ≤ 4294967295) (hl : l.length ≤ 2000) (hf : half d.n < j.used + need l.length) : j.append d l = (8, j, d) := by
  rcases h.live.append hK hl with ⟨_, h1⟩ | ⟨h1, _⟩
  · exact h1
  · omega
theorem Rest.fit {rs : List (List UInt8)} {e : Nat} (h : Rest d rs e K) (hoff : d.off = false) (ha : d.armed = false) (hK : K + 1 ≤ 4294967295) :
    ∃ j' d', Jr.open_ d = (0, j', d') ∧ Fit j' d' (K + 1) d.left ∧ d'.n = d.n ∧ j'.records = rs ∧ j'.head.epoch = e + 1 := by
  have hc := h.open_calm hoff ha hK
  obtain ⟨hk, ⟨a1, a2, a3, a4, a5⟩ | ⟨a1, _⟩⟩ := h.open_ hoff hK
  · exact ⟨(Jr.open_ d).2.1, (Jr.open_ d).2.2, by rw [← a1], ⟨a5, hc.2, hk.left⟩, hk.n, a2, a3⟩
  · exact (hc.1 a1).elim
theorem Fit.again (h : Fit j d K m) (hK : K + 1 ≤ 4294967295) (hl : l.length ≤ 2000) (hf : need l.length ≤ half d.n) :
    ∃ j' d', format d l = (0, j', d') ∧ Fit j' d' (K + 1) m ∧ d'.n = d.n ∧ j'.records = [l] := by
  obtain ⟨h1, h2, h3, h4, h5⟩ := format_again h.live h.calm hK hl hf
  exact ⟨(format d l).2.1, (format d l).2.2, by rw [← h1], ⟨h3, h4, Nat.le_trans h5.left h.left⟩, h5.n, h2⟩
theorem Fit.trial (h : Fit j d K m) (hK : K ≤ 4294967295) (hl : l.length ≤ 2000) :
    ∃ e j' d', j.append d l = (e, j', d') ∧ Fit j' d' K m ∧ d'.n = d.n ∧ (e = 0 ∨ e = 8) := by
  by_cases hf : half d.n < j.used + need l.length
  · exact ⟨8, j, d, h.full hK hl hf, h, rfl, .inr rfl⟩
  · obtain ⟨j', d', a1, a2, a3, _⟩ := h.append hK hl (Nat.le_of_not_lt hf)
    exact ⟨0, j', d', a1, a2, a3, .inl rfl⟩
theorem Rest.cut {rs : List (List UInt8)} {e : Nat} (h : Rest d rs e K) (hoff : d.off = false) (hK : K + 1 ≤ 4294967295) :
    ∃ j' d', Jr.open_ (d.arm 0) = (6, j', d') ∧ Rest d' rs e K ∧ d'.left = 0 ∧ d'.n = d.n := by
  have h1 := (h.arm 0).open_cut hoff rfl rfl hK
  obtain ⟨hk, ⟨a1, _⟩ | ⟨a1, a2, a3⟩⟩ := (h.arm 0).open_ hoff hK
  · rw [h1] at a1; cases a1
  · exact ⟨(Jr.open_ (d.arm 0)).2.1, (Jr.open_ (d.arm 0)).2.2, by rw [← a1], a3, Nat.le_zero.1 hk.left, hk.n⟩
theorem Rest.ok {rs : List (List UInt8)} {e : Nat} (h : Rest d rs e K) : d.ok ∧ 10 ≤ d.n ∧ rs.length ≤ 4096 ∧ ∀ l ∈ rs, l.length ≤ 2000 := by
  obtain ⟨⟨g, p, u, E, hb, _⟩, _⟩ := h
  have h1 := hb.used
  have h2 := hb.ok.2
  have : half d.n ≤ 4096 := by unfold half; omega
  exact ⟨hb.ok, hb.n, by omega, h1.2.2⟩
/-- What Append answers, and what Free told. -/
theorem Fit.offer (h : Fit j d K m) (hK : K ≤ 4294967295) :
    ∃ e j' d', j.append d l = (e, j', d') ∧ Fit j' d' K m ∧ d'.n = d.n ∧
      ((e = 0 ∧ (l.length : Int) ≤ j.free d.n ∧ l.length ≤ 2000 ∧ j'.records = j.records ++ [l]) ∨ (e = 8 ∧ j.free d.n < (l.length : Int) ∧ l.length ≤ 2000 ∧ j'.records = j.records) ∨ (e = 3 ∧ j.free d.n < (l.length : Int) ∧ 2000 < l.length ∧ j'.records = j.records)) := by
  have hu := h.live.bears.used.1
  have hfr : j.free d.n = if half d.n ≤ j.used then -1 else min (((half d.n - j.used) * 46 - 2 : Nat) : Int) 2000 := rfl
  by_cases hl : l.length ≤ 2000
  · have hneed : need l.length = (l.length + 47) / 46 := rfl
    by_cases hf : half d.n < j.used + need l.length
    · refine ⟨8, j, d, h.full hK hl hf, h, rfl, .inr (.inl ⟨rfl, ?_, hl, rfl⟩)⟩
      rw [hfr]
      split
      · omega
      · omega
    · obtain ⟨j', d', a1, a2, a3, a4, _⟩ := h.append hK hl (Nat.le_of_not_lt hf)
      refine ⟨0, j', d', a1, a2, a3, .inl ⟨rfl, ?_, hl, a4⟩⟩
      rw [hfr, if_neg (by have := need_pos l.length; omega)]
      omega
  · refine ⟨3, j, d, h.live.append_long (by omega), h, rfl, .inr (.inr ⟨rfl, ?_, by omega, rfl⟩)⟩
    rw [hfr]
    split <;> omega
theorem free_le (j : J) (n : Nat) : j.free n ≤ 2000 := by
  unfold J.free
  split <;> omega
/-- A compaction that may be cut: what it answers. -/
theorem Live.compactE (h : Live j d K) (hK : K + 1 ≤ 4294967295) (hl : l.length ≤ 2000) (hf : need l.length ≤ half d.n) :
    ∃ e j' d', j.compact d l = (e, j', d') ∧ Kept d d' ∧ ((e = 0 ∧ Rest d' [l] j.head.epoch (K + 1) ∧ j'.records = [l] ∧ j'.head.epoch = j.head.epoch ∧ Live j' d' (K + 1)) ∨ (e = 6 ∧ j'.dead = true ∧ Rest d' j.records j.head.epoch (K + 1))) := by
  rcases h.compact hK hl with ⟨h1, _⟩ | ⟨_, hk, ⟨a1, a2, a3, a4⟩ | ⟨a1, a2, a3, a4⟩⟩
  · omega
  · refine ⟨(j.compact d l).1, (j.compact d l).2.1, (j.compact d l).2.2, rfl, hk, .inl ⟨a1, ?_, a2, a3, a4⟩⟩
    have := a4.rest
    rw [a2, a3] at this
    exact this
  · exact ⟨(j.compact d l).1, (j.compact d l).2.1, (j.compact d l).2.2, rfl, hk, .inr ⟨a1, by rw [a2], a4.mono (Nat.le_succ _)⟩⟩
/-- An append that may be cut: what it answers. -/
theorem Live.appendE (h : Live j d K) (hK : K + 1 ≤ 4294967295) (hl : l.length ≤ 2000) :
    ∃ e j' d', j.append d l = (e, j', d') ∧ Kept d d' ∧ ((e = 0 ∧ Rest d' (j.records ++ [l]) j.head.epoch (K + 1) ∧ j'.records = j.records ++ [l] ∧ j'.head.epoch = j.head.epoch ∧ Live j' d' (K + 1)) ∨
      (e = 6 ∧ j'.dead = true ∧ Rest d' j.records j.head.epoch (K + 1)) ∨ (e = 8 ∧ j' = j ∧ d' = d ∧ half d.n < j.used + need l.length)) := by
  rcases h.append (by omega) hl with ⟨h1, h2⟩ | ⟨_, hk, ⟨a1, a2, a3⟩ | ⟨a1, a2, a3, a4⟩⟩
  · exact ⟨8, j, d, h2, .refl h.bears.ok, .inr (.inr ⟨rfl, rfl, rfl, h1⟩)⟩
  · refine ⟨(j.append d l).1, (j.append d l).2.1, (j.append d l).2.2, rfl, hk, .inl ⟨a1, ?_, by rw [a2], by rw [a2], a3.mono (Nat.le_succ _)⟩⟩
    have := (a3.mono (Nat.le_succ K)).rest
    have e1 : (j.append d l).2.1.records = j.records ++ [l] := by rw [a2]
    have e2 : (j.append d l).2.1.head = j.head := by rw [a2]
    rw [e1, e2] at this
    exact this
  · exact ⟨(j.append d l).1, (j.append d l).2.1, (j.append d l).2.2, rfl, hk, .inr (.inl ⟨a1, by rw [a2], a4.mono (Nat.le_succ _)⟩)⟩
theorem Fit.ok (h : Fit j d K m) : d.ok ∧ 10 ≤ d.n := ⟨h.live.bears.ok, h.live.bears.n⟩
end
/-- The chapter's example. -/
theorem alive_plain : ∃ j1 d1 j2 d2 j3 d3, format (Drum.new 20) [115] = (0, j1, d1) ∧ Fit j1 d1 1 0 ∧ j1.append d1 (List.replicate 100 0) = (0, j2, d2) ∧ Fit j2 d2 1 0 ∧ d2.writes = 5 ∧
    Jr.open_ d2 = (0, j3, d3) ∧ Fit j3 d3 2 0 ∧ d3.writes = 6 ∧ j3.records = [[115], List.replicate 100 0] ∧ j3.head.epoch = 2 := by
  obtain ⟨j1, d1, a1, a2, a3, a4, a5, a6, a7⟩ := format_fit (n := 20) (l := [115]) (by omega) (by omega) (by simp) (by decide)
  have hl : (List.replicate 100 (0 : UInt8)).length = 100 := by simp
  have hf : j1.used + need (List.replicate 100 (0 : UInt8)).length ≤ half d1.n := by rw [a5, a3, hl]; decide
  obtain ⟨j2, d2, b1, b2, b3, b4, b5, b6⟩ := a2.append (l := List.replicate 100 0) (by omega) (by rw [hl]; omega) hf
  have hw2 : d2.writes = ((2 + need 100 : Nat) : Int) := by
    have := a2.live.append_count a2.calm (l := List.replicate 100 0) (by rw [hl]; omega) hf (k := 2) (by rw [a7]; decide) (by omega)
    rw [b1, hl] at this
    exact this
  obtain ⟨j3, d3, c1, c2, c3, c4, c5⟩ := b2.live.rest.fit b2.live.off b2.calm (by omega)
  have hw3 := b2.live.rest.open_count b2.live.off b2.calm (by omega) (k := 5) (by rw [hw2]; decide) (by omega)
  rw [c1] at hw3
  refine ⟨j1, d1, j2, d2, j3, d3, a1, a2, b1, b2, by rw [hw2]; decide, c1, ⟨c2.live, c2.calm, Nat.le_trans c2.left b2.left⟩, hw3, by rw [c4, b4, a4]; rfl, by rw [c5, b6, a6]⟩
end Go.Jr
