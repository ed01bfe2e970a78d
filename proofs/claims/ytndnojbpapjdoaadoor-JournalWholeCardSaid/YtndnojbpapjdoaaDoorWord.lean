/- Words of 8, 32 and 64 bits as Lean's own, and what the operations make of them. No program is named here. -/
import Derived.Test.YtndnojbpapjdoaaDoorBase
set_option linter.unusedSimpArgs false
set_option linter.unusedVariables false
set_option linter.unusedSectionVars false
namespace Go.Sp
open Go.RowKit
/-- A word of 32 bits. -/
abbrev W (x : UInt32) : Value := .int .u32 (x.toNat : Int)
/-- A word of 64 bits. -/
abbrev Q (x : UInt64) : Value := .int .u64 (x.toNat : Int)

theorem ofInt_nat {k : Nat} (n : Nat) (h : n < 2 ^ k) : (BitVec.ofInt k (n : Int)).toNat = n := by
  rw [BitVec.ofInt_natCast, BitVec.toNat_ofNat]; exact Nat.mod_eq_of_lt h
theorem wrap_u32n (n : Nat) : IntKind.u32.wrap (n : Int) = ((n % 4294967296 : Nat) : Int) := by
  simp [IntKind.wrap, IntKind.bits, IntKind.signed]
theorem wrap_u64n (n : Nat) : IntKind.u64.wrap (n : Int) = ((n % 18446744073709551616 : Nat) : Int) := by
  simp [IntKind.wrap, IntKind.bits, IntKind.signed]
theorem wrap_u8n (n : Nat) : IntKind.u8.wrap (n : Int) = ((n % 256 : Nat) : Int) := by
  simp [IntKind.wrap, IntKind.bits, IntKind.signed]
theorem lt32 (x : UInt32) : x.toNat < 4294967296 := x.toNat_lt
theorem lt64 (x : UInt64) : x.toNat < 18446744073709551616 := x.toNat_lt
theorem lt8 (x : UInt8) : x.toNat < 256 := x.toNat_lt
theorem wrap32_self (x : UInt32) : IntKind.u32.wrap (x.toNat : Int) = (x.toNat : Int) := by
  rw [wrap_u32n, Nat.mod_eq_of_lt (lt32 x)]
theorem wrap64_self (x : UInt64) : IntKind.u64.wrap (x.toNat : Int) = (x.toNat : Int) := by
  rw [wrap_u64n, Nat.mod_eq_of_lt (lt64 x)]
theorem wrap8_self (x : UInt8) : IntKind.u8.wrap (x.toNat : Int) = (x.toNat : Int) := by
  rw [wrap_u8n, Nat.mod_eq_of_lt (lt8 x)]

section
variable {P : Program} {w : World} (t : TypeId)
theorem run_w_add (x y : UInt32) : (binOp .add t (W x) (W y)).run P w = .ok (W (x + y)) w := by
  have : IntKind.u32.wrap ((x.toNat : Int) + (y.toNat : Int)) = ((x + y).toNat : Int) := by
    rw [← Int.natCast_add, wrap_u32n, UInt32.toNat_add]
  simp [binOp, Op.intArith, this]
theorem run_w_xor (x y : UInt32) : (binOp .xor t (W x) (W y)).run P w = .ok (W (x ^^^ y)) w := by
  have : IntKind.u32.wrap ((BitVec.ofInt IntKind.u32.bits (x.toNat : Int) ^^^ BitVec.ofInt IntKind.u32.bits (y.toNat : Int)).toNat : Int) = ((x ^^^ y).toNat : Int) := by
    rw [BitVec.toNat_xor, ofInt_nat _ (lt32 x), ofInt_nat _ (lt32 y), ← UInt32.toNat_xor, wrap32_self]
  simp only [binOp, Op.intBits, this]
  rfl
theorem run_w_and (x y : UInt32) : (binOp .and t (W x) (W y)).run P w = .ok (W (x &&& y)) w := by
  have : IntKind.u32.wrap ((BitVec.ofInt IntKind.u32.bits (x.toNat : Int) &&& BitVec.ofInt IntKind.u32.bits (y.toNat : Int)).toNat : Int) = ((x &&& y).toNat : Int) := by
    rw [BitVec.toNat_and, ofInt_nat _ (lt32 x), ofInt_nat _ (lt32 y), ← UInt32.toNat_and, wrap32_self]
  simp only [binOp, Op.intBits, this]
  rfl
theorem run_w_or (x y : UInt32) : (binOp .or t (W x) (W y)).run P w = .ok (W (x ||| y)) w := by
  have : IntKind.u32.wrap ((BitVec.ofInt IntKind.u32.bits (x.toNat : Int) ||| BitVec.ofInt IntKind.u32.bits (y.toNat : Int)).toNat : Int) = ((x ||| y).toNat : Int) := by
    rw [BitVec.toNat_or, ofInt_nat _ (lt32 x), ofInt_nat _ (lt32 y), ← UInt32.toNat_or, wrap32_self]
  simp only [binOp, Op.intBits, this]
  rfl
/-- A shift to the right by a number of bits below 32. -/
theorem run_w_shr (x : UInt32) (k : IntKind) (n : Nat) (h : n < 32) : (binOp .shr t (W x) (.int k (n : Int))).run P w = .ok (W (x >>> UInt32.ofNat n)) w := by
  have e : (x >>> UInt32.ofNat n).toNat = x.toNat / 2 ^ n := by
    rw [UInt32.toNat_shiftRight, Nat.shiftRight_eq_div_pow]
    have : (UInt32.ofNat n).toNat = n := by simp [UInt32.toNat_ofNat']; omega
    rw [this, Nat.mod_eq_of_lt h]
  have h1 : ¬ ((n : Int) < 0) := by omega
  have h2 : min n 32 = n := by omega
  simp only [binOp, Op.shift, h1, if_false, Int.toNat_natCast, IntKind.bits, h2]
  show Result.ok (Value.int .u32 ((x.toNat : Int).fdiv (2 ^ n))) w = Result.ok (Value.int .u32 ((x >>> UInt32.ofNat n).toNat : Int)) w
  rw [e]
  have : (x.toNat : Int).fdiv (2 ^ n) = ((x.toNat / 2 ^ n : Nat) : Int) := by
    rw [Int.fdiv_eq_ediv_of_nonneg _ (Int.le_of_lt (Int.pow_pos (by decide)))]
    simp
  rw [this]
theorem run_w_shl (x : UInt32) (k : IntKind) (n : Nat) (h : n < 32) : (binOp .shl t (W x) (.int k (n : Int))).run P w = .ok (W (x <<< UInt32.ofNat n)) w := by
  have e : (x <<< UInt32.ofNat n).toNat = x.toNat * 2 ^ n % 4294967296 := by
    rw [UInt32.toNat_shiftLeft, Nat.shiftLeft_eq]
    have : (UInt32.ofNat n).toNat = n := by simp [UInt32.toNat_ofNat']; omega
    rw [this, Nat.mod_eq_of_lt h]
  have h1 : ¬ ((n : Int) < 0) := by omega
  have h2 : min n 32 = n := by omega
  simp only [binOp, Op.shift, h1, if_false, Int.toNat_natCast, IntKind.bits, h2]
  show Result.ok (Value.int .u32 (IntKind.u32.wrap ((x.toNat : Int) * 2 ^ n))) w = Result.ok (Value.int .u32 ((x <<< UInt32.ofNat n).toNat : Int)) w
  rw [e]
  have : (x.toNat : Int) * 2 ^ n = ((x.toNat * 2 ^ n : Nat) : Int) := by simp
  rw [this, wrap_u32n]
theorem run_w_not (x : UInt32) : (Op.unary .xor (W x)).run P w = .ok (W (~~~x)) w := by
  have : IntKind.u32.wrap ((BitVec.ofInt IntKind.u32.bits 4294967295 ^^^ BitVec.ofInt IntKind.u32.bits (x.toNat : Int)).toNat : Int) = ((~~~x).toNat : Int) := by
    have e : (~~~x) = (0xFFFFFFFF : UInt32) ^^^ x := by
      rw [← UInt32.toBitVec_inj]
      simp only [UInt32.toBitVec_not, UInt32.toBitVec_xor]
      rw [show (0xFFFFFFFF : UInt32).toBitVec = BitVec.allOnes 32 from rfl, BitVec.allOnes_xor]
    rw [e, show (4294967295 : Int) = (((0xFFFFFFFF : UInt32).toNat : Nat) : Int) from rfl, BitVec.toNat_xor, ofInt_nat _ (lt32 _), ofInt_nat _ (lt32 x), ← UInt32.toNat_xor, wrap32_self]
  show (Op.intBits .xor .u32 4294967295 (x.toNat : Int)).run P w = _
  simp only [Op.intBits, this]
  rfl
/-- 64 bits. -/
theorem run_q_add (x y : UInt64) : (binOp .add t (Q x) (Q y)).run P w = .ok (Q (x + y)) w := by
  have : IntKind.u64.wrap ((x.toNat : Int) + (y.toNat : Int)) = ((x + y).toNat : Int) := by
    rw [← Int.natCast_add, wrap_u64n, UInt64.toNat_add]
  simp [binOp, Op.intArith, this]
theorem run_q_or (x y : UInt64) : (binOp .or t (Q x) (Q y)).run P w = .ok (Q (x ||| y)) w := by
  have : IntKind.u64.wrap ((BitVec.ofInt IntKind.u64.bits (x.toNat : Int) ||| BitVec.ofInt IntKind.u64.bits (y.toNat : Int)).toNat : Int) = ((x ||| y).toNat : Int) := by
    rw [BitVec.toNat_or, ofInt_nat _ (lt64 x), ofInt_nat _ (lt64 y), ← UInt64.toNat_or, wrap64_self]
  simp only [binOp, Op.intBits, this]
  rfl
theorem run_q_shr (x : UInt64) (k : IntKind) (n : Nat) (h : n < 64) : (binOp .shr t (Q x) (.int k (n : Int))).run P w = .ok (Q (x >>> UInt64.ofNat n)) w := by
  have e : (x >>> UInt64.ofNat n).toNat = x.toNat / 2 ^ n := by
    rw [UInt64.toNat_shiftRight, Nat.shiftRight_eq_div_pow]
    have : (UInt64.ofNat n).toNat = n := by simp [UInt64.toNat_ofNat']; omega
    rw [this, Nat.mod_eq_of_lt h]
  have h1 : ¬ ((n : Int) < 0) := by omega
  have h2 : min n 64 = n := by omega
  simp only [binOp, Op.shift, h1, if_false, Int.toNat_natCast, IntKind.bits, h2]
  show Result.ok (Value.int .u64 ((x.toNat : Int).fdiv (2 ^ n))) w = Result.ok (Value.int .u64 ((x >>> UInt64.ofNat n).toNat : Int)) w
  rw [e]
  have : (x.toNat : Int).fdiv (2 ^ n) = ((x.toNat / 2 ^ n : Nat) : Int) := by
    rw [Int.fdiv_eq_ediv_of_nonneg _ (Int.le_of_lt (Int.pow_pos (by decide)))]
    simp
  rw [this]
theorem run_q_shl (x : UInt64) (k : IntKind) (n : Nat) (h : n < 64) : (binOp .shl t (Q x) (.int k (n : Int))).run P w = .ok (Q (x <<< UInt64.ofNat n)) w := by
  have e : (x <<< UInt64.ofNat n).toNat = x.toNat * 2 ^ n % 18446744073709551616 := by
    rw [UInt64.toNat_shiftLeft, Nat.shiftLeft_eq]
    have : (UInt64.ofNat n).toNat = n := by simp [UInt64.toNat_ofNat']; omega
    rw [this, Nat.mod_eq_of_lt h]
  have h1 : ¬ ((n : Int) < 0) := by omega
  have h2 : min n 64 = n := by omega
  simp only [binOp, Op.shift, h1, if_false, Int.toNat_natCast, IntKind.bits, h2]
  show Result.ok (Value.int .u64 (IntKind.u64.wrap ((x.toNat : Int) * 2 ^ n))) w = Result.ok (Value.int .u64 ((x <<< UInt64.ofNat n).toNat : Int)) w
  rw [e]
  have : (x.toNat : Int) * 2 ^ n = ((x.toNat * 2 ^ n : Nat) : Int) := by simp
  rw [this, wrap_u64n]
theorem run_q_mul (x y : UInt64) : (binOp .mul t (Q x) (Q y)).run P w = .ok (Q (x * y)) w := by
  have : IntKind.u64.wrap ((x.toNat : Int) * (y.toNat : Int)) = ((x * y).toNat : Int) := by
    rw [← Int.natCast_mul, wrap_u64n, UInt64.toNat_mul]
  simp [binOp, Op.intArith, this]
theorem run_q_mul8 (x : UInt64) : (binOp .mul t (Q x) (.int .u64 8)).run P w = .ok (Q (x * 8)) w := run_q_mul t x 8
/-- 8 bits. -/
theorem run_b_or (x y : UInt8) : (binOp .or t (B x) (B y)).run P w = .ok (B (x ||| y)) w := by
  have : IntKind.u8.wrap ((BitVec.ofInt IntKind.u8.bits (x.toNat : Int) ||| BitVec.ofInt IntKind.u8.bits (y.toNat : Int)).toNat : Int) = ((x ||| y).toNat : Int) := by
    rw [BitVec.toNat_or, ofInt_nat _ (lt8 x), ofInt_nat _ (lt8 y), ← UInt8.toNat_or, wrap8_self]
  simp only [binOp, Op.intBits, this]
  rfl
theorem run_b_xor (x y : UInt8) : (binOp .xor t (B x) (B y)).run P w = .ok (B (x ^^^ y)) w := by
  have : IntKind.u8.wrap ((BitVec.ofInt IntKind.u8.bits (x.toNat : Int) ^^^ BitVec.ofInt IntKind.u8.bits (y.toNat : Int)).toNat : Int) = ((x ^^^ y).toNat : Int) := by
    rw [BitVec.toNat_xor, ofInt_nat _ (lt8 x), ofInt_nat _ (lt8 y), ← UInt8.toNat_xor, wrap8_self]
  simp only [binOp, Op.intBits, this]
  rfl
theorem run_w_shr' (x : UInt32) (k : IntKind) (n : Int) (h0 : 0 ≤ n) (h : n < 32) : (binOp .shr t (W x) (.int k n)).run P w = .ok (W (x >>> UInt32.ofNat n.toNat)) w := by
  obtain ⟨m, rfl⟩ := Int.eq_ofNat_of_zero_le h0
  exact run_w_shr t x k m (by omega)
theorem run_w_shl' (x : UInt32) (k : IntKind) (n : Int) (h0 : 0 ≤ n) (h : n < 32) : (binOp .shl t (W x) (.int k n)).run P w = .ok (W (x <<< UInt32.ofNat n.toNat)) w := by
  obtain ⟨m, rfl⟩ := Int.eq_ofNat_of_zero_le h0
  exact run_w_shl t x k m (by omega)
theorem run_q_shr' (x : UInt64) (k : IntKind) (n : Int) (h0 : 0 ≤ n) (h : n < 64) : (binOp .shr t (Q x) (.int k n)).run P w = .ok (Q (x >>> UInt64.ofNat n.toNat)) w := by
  obtain ⟨m, rfl⟩ := Int.eq_ofNat_of_zero_le h0
  exact run_q_shr t x k m (by omega)
theorem run_q_shl' (x : UInt64) (k : IntKind) (n : Int) (h0 : 0 ≤ n) (h : n < 64) : (binOp .shl t (Q x) (.int k n)).run P w = .ok (Q (x <<< UInt64.ofNat n.toNat)) w := by
  obtain ⟨m, rfl⟩ := Int.eq_ofNat_of_zero_le h0
  exact run_q_shl t x k m (by omega)
end
theorem shl_nat (x : UInt32) (n : Nat) (h : n < 32) : (x <<< UInt32.ofNat n).toNat = x.toNat * 2 ^ n % 4294967296 := by
  rw [UInt32.toNat_shiftLeft, Nat.shiftLeft_eq]
  have : (UInt32.ofNat n).toNat = n := by simp [UInt32.toNat_ofNat']; omega
  rw [this, Nat.mod_eq_of_lt h]
theorem shr_nat (x : UInt32) (n : Nat) (h : n < 32) : (x >>> UInt32.ofNat n).toNat = x.toNat / 2 ^ n := by
  rw [UInt32.toNat_shiftRight, Nat.shiftRight_eq_div_pow]
  have : (UInt32.ofNat n).toNat = n := by simp [UInt32.toNat_ofNat']; omega
  rw [this, Nat.mod_eq_of_lt h]
theorem bits_or32 (x y : UInt32) : bits .or .u32 (x.toNat : Int) (y.toNat : Int) = ((x ||| y).toNat : Int) := by
  show IntKind.u32.wrap ((BitVec.ofInt 32 (x.toNat : Int) ||| BitVec.ofInt 32 (y.toNat : Int)).toNat : Int) = _
  rw [BitVec.toNat_or, ofInt_nat _ (lt32 x), ofInt_nat _ (lt32 y), ← UInt32.toNat_or, wrap32_self]
/-- From kind to kind. -/
theorem wrap_b_w (x : UInt8) : IntKind.u32.wrap (x.toNat : Int) = (x.toUInt32.toNat : Int) := by
  rw [wrap_u32n]; have := lt8 x; simp
theorem wrap_b_q (x : UInt8) : IntKind.u64.wrap (x.toNat : Int) = (x.toUInt64.toNat : Int) := by
  rw [wrap_u64n]; have := lt8 x; simp
theorem wrap_w_b (x : UInt32) : IntKind.u8.wrap (x.toNat : Int) = (x.toUInt8.toNat : Int) := by
  rw [wrap_u8n]; simp
theorem wrap_q_b (x : UInt64) : IntKind.u8.wrap (x.toNat : Int) = (x.toUInt8.toNat : Int) := by
  rw [wrap_u8n]; simp
theorem wrap_n_q (n : Nat) : IntKind.u64.wrap (n : Int) = ((UInt64.ofNat n).toNat : Int) := by
  rw [wrap_u64n]; simp [UInt64.toNat_ofNat']
theorem wrap_n_b (n : Nat) : IntKind.u8.wrap (n : Int) = ((UInt8.ofNat n).toNat : Int) := by
  rw [wrap_u8n]; simp [UInt8.toNat_ofNat']
section
variable {P : Program} {w0 w : World} {L M : List Asn} {a : Act} {K : Act → World → Prop} {Q' : Exit → Act → World → Prop}
  {d : Option Tmp} {ty : TypeId} {pos : String} {aft : Array Edge} {gd : Option (Nat × Bool)}
theorem wp_bin {op : BinOp} {t t2 : TypeId} {x y : Operand} {X Y Z : Value} (hx : a.eval x = X) (hy : a.eval y = Y) (hg : ∀ w, (eqGuard op t x y X Y).run P w = .ok () w) (hr : ∀ w, (binOp op t X Y).run P w = .ok Z w) (hK : K (a.put d Z) w) :
    (Oper.mk d (.binOp op t x y t2) ty pos aft gd).wp P a w K Q' := by
  unfold Oper.wp execOp
  simp only [hx, hy, hg, hr, Sem.run_bind, Result.andThen_ok]
  exact hK
theorem wp_un {op : UnOp} {t : TypeId} {x : Operand} {X Z : Value} (hx : a.eval x = X) (hr : ∀ w, (Op.unary op X).run P w = .ok Z w) (hK : K (a.put d Z) w) :
    (Oper.mk d (.unOp op t x) ty pos aft gd).wp P a w K Q' := by
  unfold Oper.wp execOp
  simp only [hx, hr, Sem.run_bind, Result.andThen_ok]
  exact hK
theorem wp_conv {s t : TypeId} {x : Operand} {k k' : IntKind} {n m : Int} {D : TypeDesc} (hx : a.eval x = .int k n) (hs : ∀ w, (underlying s).run P w = .ok D w) (hd : ∀ w, (underlying t).run P w = .ok (.int k') w) (hm : k'.wrap n = m) (hK : K (a.put d (.int k' m)) w) :
    (Oper.mk d (.convert s t x) ty pos aft gd).wp P a w K Q' := by
  subst hm
  unfold Oper.wp execOp
  simp only [hx, convert, hs, hd, Conv.intToInt, Sem.run_bind, Sem.run_pure, Result.andThen_ok]
  exact hK
/-- A place in an array that lies in memory. -/
theorem wp_index_arr {t e : TypeId} {x i : Operand} {b o sz len j : Nat} {q : IntKind} {iv : Int} (hx : a.eval x = .pointer (some ⟨b, o, none⟩)) (hi : a.eval i = .int q iv) (ht : ∀ w, (underlying t).run P w = .ok (.array len e) w) (hs : ∀ w, (sizeOf e).run P w = .ok sz w)
    (h0 : 0 ≤ iv) (h1 : iv < (len : Int)) (hj : o + iv.toNat * sz = j) (hK : K (a.put d (.pointer (some ⟨b, j, none⟩))) w) : (Oper.mk d (.indexAddr t x i) ty pos aft gd).wp P a w K Q' := by
  subst hj
  unfold Oper.wp execOp
  have hr : (Instr.indexAt t (.pointer (some ⟨b, o, none⟩)) (.int q iv)).run P w = .ok (.pointer (some ⟨b, o + iv.toNat * sz, none⟩)) w := by
    simp [Instr.indexAt, asIntOf, Instr.sureAddr, ht, hs, h0, h1, addr_add]
  simp only [hx, hi, Sem.run_bind, hr, Result.andThen_ok]
  exact hK
/-- An element of an array's value: one cell. -/
theorem wp_index_val {t e : TypeId} {x i : Operand} {cs : Array Value} {len : Nat} {q : IntKind} {iv : Int} {v : Value} (hx : a.eval x = .agg cs) (hi : a.eval i = .int q iv) (ht : ∀ w, (underlying t).run P w = .ok (.array len e) w) (hs : ∀ w, (sizeOf e).run P w = .ok 1 w) (hag : ∀ w, (isAgg e).run P w = .ok false w)
    (h0 : 0 ≤ iv) (h1 : iv < (len : Int)) (hv : cs[iv.toNat]? = some v) (hK : K (a.put d v) w) : (Oper.mk d (.index t x i) ty pos aft gd).wp P a w K Q' := by
  unfold Oper.wp execOp
  have hr : (Instr.index t (.agg cs) (.int q iv)).run P w = .ok v w := by
    simp [Instr.index, asIntOf, ht, hs, hag, h0, h1, part, hv]
  simp only [hx, hi, Sem.run_bind, hr, Result.andThen_ok]
  exact hK
/-- A cell that is known to lie there. -/
theorem wp_load_known {t : TypeId} {x : Operand} {ad : Addr} {v : Value} (hx : a.eval x = .pointer (some ad)) (hc : w.cell? ad = some v) (hag : ∀ w, (isAgg t).run P w = .ok false w) (hK : K (a.put d v) w) :
    (Oper.mk d (.load t x) ty pos aft gd).wp P a w K Q' := by
  have hr : (loadVar t ad).run P w = .ok v w := by simp [loadVar, hag, hc]
  unfold Oper.wp execOp
  simp only [hx, Instr.loadAt, Instr.sureAddr, Sem.run_bind, Sem.run_pure, Result.andThen_ok, hr]
  exact hK
/-- One cell of an owned block of words. -/
theorem wp_arr_load {t : TypeId} {x : Operand} {b j : Nat} {l : List UInt32} {e : TypeId} {f : Nat × Nat} {u : UInt32} (hS : Sat w0 w L) (hx : a.eval x = .pointer (some ⟨b, j, none⟩)) (hp : Split L (Blk b (.cells (l.map W).toArray e f)) M) (hu : l[j]? = some u)
    (hag : ∀ w, (isAgg t).run P w = .ok false w) (hK : K (a.put d (W u)) w) : (Oper.mk d (.load t x) ty pos aft gd).wp P a w K Q' :=
  wp_load hS hx hp (by simp [hu]) hag hK
theorem wp_arr_store {t : TypeId} {x y : Operand} {b j : Nat} {l : List UInt32} {e : TypeId} {u : UInt32} (hS : Sat w0 w L) (hx : a.eval x = .pointer (some ⟨b, j, none⟩)) (hp : Split L (Blk b (.cells (l.map W).toArray e (0, 0))) M) (hy : a.eval y = W u) (hj : j < l.length)
    (hs : ∀ w, (sizeOf t).run P w = .ok 1 w) (hK : ∀ w', Sat w0 w' (Blk b (.cells ((l.set j u).map W).toArray e (0, 0)) :: M) → K (a.put d undef) w') : (Oper.mk d (.store t x y) ty pos aft gd).wp P a w K Q' := by
  refine wp_store hS hx hp hy hs rfl (by simpa using hj) fun w' h => hK w' ?_
  have : (l.map W).toArray.setIfInBounds j (W u) = ((l.set j u).map W).toArray := by
    apply Array.ext'
    simp [List.map_set]
  rwa [this] at h
theorem cells_of_split {b o : Nat} {cs : Array Value} {e : TypeId} {f : Nat × Nat} {news : List Value} (hS : Sat w0 w L) (hp : Split L (Blk b (.cells cs e f)) M) (h : ∀ (j : Nat) (v : Value), news[j]? = some v → cs[o + j]? = some v) : ∀ (j : Nat) (v : Value), news[j]? = some v → w.cell? ((⟨b, o, none⟩ : Addr).add j) = some v := by
  intro j v hv
  rw [addr_add]
  exact cell_of_split hS hp (h j v hv)
/-- A slice of an array that lies in memory. -/
theorem wp_slice_arr {t e : TypeId} {x : Operand} {lo hi : Option Operand} {b o sz n : Nat} (i j : Nat) (ht : ∀ w, (underlying t).run P w = .ok (.array n e) w) (hs : ∀ w, (sizeOf e).run P w = .ok sz w) (hx : a.eval x = .pointer (some ⟨b, o, none⟩))
    (hlo : (match lo with | some v => ∃ q, a.eval v = .int q (i : Int) | none => i = 0)) (hhi : (match hi with | some v => ∃ q, a.eval v = .int q (j : Int) | none => j = n)) (h1 : i ≤ j) (h2 : j ≤ n) (h3 : i < n) (hK : K (a.put d (.slice (some ⟨b, o + i * sz, none⟩) (j - i) (n - i))) w) :
    (Oper.mk d (.slice t x lo hi none) ty pos aft gd).wp P a w K Q' := by
  have h4 : ¬ (n = i) := by omega
  have hr : (Instr.sliceAt t (.pointer (some ⟨b, o, none⟩)) (lo.map a.eval) (hi.map a.eval) none).run P w = .ok (.slice (some ⟨b, o + i * sz, none⟩) (j - i) (n - i)) w := by
    cases lo <;> cases hi <;> simp only at hlo hhi
    · subst hlo hhi; simp [Instr.sliceAt, Instr.sureAddr, Instr.sliceBounds, ht, hs, addr_add, h4]
    · obtain ⟨q, hq⟩ := hhi; subst hlo; simp [Instr.sliceAt, Instr.sureAddr, Instr.sliceBounds, Instr.sliceBound, asIntOf, ht, hs, addr_add, h4, hq, h2]
    · obtain ⟨q, hq⟩ := hlo; subst hhi; simp [Instr.sliceAt, Instr.sureAddr, Instr.sliceBounds, Instr.sliceBound, asIntOf, ht, hs, addr_add, h4, hq, h1]
    · obtain ⟨q, hq⟩ := hlo; obtain ⟨q', hq'⟩ := hhi; simp [Instr.sliceAt, Instr.sureAddr, Instr.sliceBounds, Instr.sliceBound, asIntOf, ht, hs, addr_add, h4, hq, hq', h1, h2]
  unfold Oper.wp execOp
  simp only [hx, Option.map_none, Sem.run_bind, hr, Result.andThen_ok]
  exact hK
/-- copy into an owned block, cells of one place each. -/
theorem wp_copy {dT sT elem : TypeId} {x y : Operand} {g o n1 c1 n2 c2 : Nat} {ad : Addr} {cur : Array Value} {e : TypeId} (news : List Value) (hS : Sat w0 w L) (hx : a.eval x = .slice (some ⟨g, o, none⟩) n1 c1) (hp : Split L (Blk g (.cells cur e (0, 0))) M) (hy : a.eval y = .slice (some ad) n2 c2)
    (hu : P.underlying dT = some (.slice elem)) (hs : (P.info? elem).map (·.size) = some 1) (hn : news.length = Nat.min n2 n1) (hsrc : ∀ j v, news[j]? = some v → w.cell? (ad.add j) = some v) (hfit : o + news.length ≤ cur.size) (h1 : ∀ v ∈ news, v.oneCell' = true)
    (hK : ∀ w', Sat w0 w' (Blk g (.cells (setCells cur o news) e (0, 0)) :: M) → K (a.put d (goInt news.length)) w') :
    (Oper.mk d (.call { callee := .builtin .copy, args := #[x, y], argTypes := #[dT, sT] }) ty pos aft gd).wp P a w K Q' := by
  have hr := run_copy_row (P := P) w dT sT ty elem g o n1 c1 ad n2 c2 cur e news hu hs (hS.split hp).at hn hsrc hfit h1
  unfold Oper.wp execOp
  have hk := hK _ ((hS.split hp).setRow (cs := setCells cur o news))
  simp only [setCells, List.append_assoc] at hk
  simp [resolve, invoke, builtin, hx, hy, hr]
  exact hk
open Txh in
/-- A call of one argument that gives v and turns nothing, wherever I holds. -/
theorem fixed_call1 {f : FuncId} {x1 : Operand} {at_ : Array TypeId} {v1 v : Value} {I : World → Prop} (h1 : a.eval x1 = v1) (hf : ∀ args w, (callFunc f args).run P w = .ok (.enter f args) w)
    (hI : ∀ w, I w → Calls P f #[v1] w fun r w' => r = .returned v ∧ w = w') :
    Fixed P Q' I (Oper.mk d (.call { callee := .value (.func f), args := #[x1], argTypes := at_ }) ty pos aft gd) a v :=
  fixed_call (by simp [h1]) hf hI
open Txh in
/-- A call of two arguments that gives v and turns nothing, wherever I holds. -/
theorem fixed_call2 {f : FuncId} {x1 x2 : Operand} {at_ : Array TypeId} {v1 v2 v : Value} {I : World → Prop} (h1 : a.eval x1 = v1) (h2 : a.eval x2 = v2) (hf : ∀ args w, (callFunc f args).run P w = .ok (.enter f args) w)
    (hI : ∀ w, I w → Calls P f #[v1, v2] w fun r w' => r = .returned v ∧ w = w') :
    Fixed P Q' I (Oper.mk d (.call { callee := .value (.func f), args := #[x1, x2], argTypes := at_ }) ty pos aft gd) a v :=
  fixed_call (by simp [h1, h2]) hf hI
/-- One cell of an owned block that holds a list. -/
theorem wp_larr_load {α : Type} {F : α → Value} {t : TypeId} {x : Operand} {b j : Nat} {l : List α} {e : TypeId} {f : Nat × Nat} {u : α} (hS : Sat w0 w L) (hx : a.eval x = .pointer (some ⟨b, j, none⟩)) (hp : Split L (Blk b (.cells (l.map F).toArray e f)) M) (hu : l[j]? = some u)
    (hag : ∀ w, (isAgg t).run P w = .ok false w) (hK : K (a.put d (F u)) w) : (Oper.mk d (.load t x) ty pos aft gd).wp P a w K Q' :=
  wp_load hS hx hp (by simp [hu]) hag hK
theorem wp_larr_store {α : Type} {F : α → Value} {t : TypeId} {x y : Operand} {b j : Nat} {l : List α} {e : TypeId} {u : α} (hS : Sat w0 w L) (hx : a.eval x = .pointer (some ⟨b, j, none⟩)) (hp : Split L (Blk b (.cells (l.map F).toArray e (0, 0))) M) (hy : a.eval y = F u) (h1 : (F u).oneCell' = true) (hj : j < l.length)
    (hs : ∀ w, (sizeOf t).run P w = .ok 1 w) (hK : ∀ w', Sat w0 w' (Blk b (.cells ((l.set j u).map F).toArray e (0, 0)) :: M) → K (a.put d undef) w') : (Oper.mk d (.store t x y) ty pos aft gd).wp P a w K Q' := by
  refine wp_store hS hx hp hy hs h1 (by simpa using hj) fun w' h => hK w' ?_
  have : (l.map F).toArray.setIfInBounds j (F u) = ((l.set j u).map F).toArray := by
    apply Array.ext'
    simp [List.map_set]
  rwa [this] at h
end
section
variable {P : Program} {w0 w : World} {L M : List Asn} {a : Act} {K : Act → World → Prop} {Q' : Exit → Act → World → Prop}
  {d : Option Tmp} {ty : TypeId} {pos : String} {aft : Array Edge} {gd : Option (Nat × Bool)}
/-- A slice as an array's address. -/
theorem wp_arrptr {t e : TypeId} {x : Operand} {ad : Option Addr} {n c N : Nat} (hx : a.eval x = .slice ad n c) (ht : ∀ w, (underlying t).run P w = .ok (.array N e) w) (hn : N ≤ n) (hK : K (a.put d (.pointer ad)) w) : (Oper.mk d (.sliceToArrayPointer t x) ty pos aft gd).wp P a w K Q' := by
  have h : ¬ n < N := by omega
  unfold Oper.wp execOp
  simp only [hx, Instr.arrayAt, Sem.run_bind, ht, Result.andThen_ok, h, if_false, Sem.run_pure]
  exact hK
/-- A byte of a text. -/
theorem wp_str_index {t : TypeId} {x i : Operand} {l : List UInt8} {q : IntKind} {iv : Int} {c : UInt8} (hx : a.eval x = S l) (hi : a.eval i = .int q iv) (ht : ∀ w, (underlying t).run P w = .ok .string w) (h0 : 0 ≤ iv) (hc : l[iv.toNat]? = some c) (hK : K (a.put d (B c)) w) : (Oper.mk d (.index t x i) ty pos aft gd).wp P a w K Q' := by
  have hk := (List.getElem?_eq_some_iff.1 hc).1
  have h2 : (⟨l.toArray⟩ : ByteArray)[iv.toNat]? = some c := by
    rw [getElem?_pos _ _ (by rw [S_size]; exact hk)]
    have := (List.getElem?_eq_some_iff.1 hc).2
    rw [← this]
    rfl
  have hr : (Instr.index t (S l) (.int q iv)).run P w = .ok (B c) w := by
    simp [Instr.index, asIntOf, ht, h0, h2]
  unfold Oper.wp execOp
  simp only [hx, hi, Sem.run_bind, hr, Result.andThen_ok]
  exact hK
/-- Cells that are known to lie there, as one value. -/
theorem wp_loadN_known {t : TypeId} {x : Operand} {ad : Addr} {cs : List Value} (hx : a.eval x = .pointer (some ad)) (hc : ∀ (j : Nat) (u : Value), cs[j]? = some u → w.cell? (ad.add j) = some u) (hag : ∀ w, (isAgg t).run P w = .ok true w) (hs : ∀ w, (sizeOf t).run P w = .ok cs.length w) (hK : K (a.put d (.agg cs.toArray)) w) :
    (Oper.mk d (.load t x) ty pos aft gd).wp P a w K Q' := by
  have hr := run_loadN (P := P) (w := w) (ad := ad) (cs := cs) hag hs rfl hc
  unfold Oper.wp execOp
  simp only [hx, Instr.loadAt, Instr.sureAddr, Sem.run_bind, Sem.run_pure, Result.andThen_ok, hr]
  exact hK
/-- A struct or an array, built. -/
theorem wp_buildv {t : TypeId} {parts : Array (Nat × Operand)} {v : Value} (hr : ∀ w, (Instr.build t (parts.map fun (i, x) => (i, a.eval x))).run P w = .ok v w) (hK : K (a.put d v) w) : (Oper.mk d (.build t parts) ty pos aft gd).wp P a w K Q' := by
  unfold Oper.wp execOp
  simp only [Sem.run_bind, hr, Result.andThen_ok]
  exact hK
/-- make of a slice: all its cells are v. -/
theorem wp_make_row {t e : TypeId} {k bytes : Nat} {x y : Operand} {q q' : IntKind} {i j : Int} (n : Nat) (v : Value) (hT : SliceT P t e k bytes) (hz : ∀ inf z, P.info? e = some inf → inf.zero = some z → ∀ m, m < k → z.cells[m]? = some v) (hk0 : 0 < k) (hS : Sat w0 w L) (hx : a.eval x = .int q i) (hy : a.eval y = .int q' j) (hi : i = (n : Int)) (hj : j = (n : Int)) (h2 : n ≤ 1048576) (h3 : bytes ≤ 1000)
    (hK : ∀ (w' : World) (b : Nat), Sat w0 w' (Row e k (.slice (some ⟨b, 0, none⟩) n n) n (List.replicate (n * k) v) :: L) → K (a.put d (.slice (some ⟨b, 0, none⟩) n n)) w') :
    (Oper.mk d (.makeSlice t x y) ty pos aft gd).wp P a w K Q' := by
  subst hi hj
  obtain ⟨ht, inf, z, hi, hz0, hk, hby, hzs⟩ := hT
  have hb : (inf.bytes : Int) * (n : Int) ≤ 281474976710656 := by
    rw [hby, ← Int.natCast_mul]
    have := Nat.mul_le_mul h3 h2
    omega
  have hr := run_make (P := P) w t e inf z ht hi hz0 q q' n n (by omega) (by omega) hb (by omega)
  rw [hk] at hr
  simp only [Int.toNat_natCast] at hr
  unfold Oper.wp execOp
  simp only [hx, hy, Sem.run_bind, hr, Result.andThen_ok]
  refine hK _ _ ((hS.alloc _).row (by simp) (Nat.le_refl _) (by unfold maxLen; omega) (by rw [size_madeCells]; omega) fun m u hu => ?_)
  rw [List.getElem?_replicate] at hu
  split at hu
  · rename_i hm
    cases hu
    unfold madeCells
    rw [Nat.zero_add, Array.getElem?_map, Array.getElem?_range]
    have := hz inf z hi hz0 (m % k) (Nat.mod_lt _ hk0)
    rw [hzs]
    simp [hm, getElem!_def, this]
  · cases hu
/-- A whole block, loaded. -/
theorem wp_load_all {t : TypeId} {x : Operand} {b : Nat} {cs : Array Value} {e : TypeId} {f : Nat × Nat} (hS : Sat w0 w L) (hx : a.eval x = .pointer (some ⟨b, 0, none⟩)) (hp : Split L (Blk b (.cells cs e f)) M) (hag : ∀ w, (isAgg t).run P w = .ok true w) (hs : ∀ w, (sizeOf t).run P w = .ok cs.size w) (hK : K (a.put d (.agg cs)) w) :
    (Oper.mk d (.load t x) ty pos aft gd).wp P a w K Q' :=
  wp_loadN hS hx hp hag hs (by omega) (by simp) hK
/-- A whole block, stored. -/
theorem wp_store_all {t : TypeId} {x y : Operand} {b : Nat} {cs vs : Array Value} {e : TypeId} (hS : Sat w0 w L) (hx : a.eval x = .pointer (some ⟨b, 0, none⟩)) (hp : Split L (Blk b (.cells cs e (0, 0))) M) (hy : a.eval y = .agg vs) (hs : ∀ w, (sizeOf t).run P w = .ok vs.size w) (hn : vs.size = cs.size) (h1 : ∀ u ∈ vs.toList, u.oneCell' = true)
    (hK : ∀ w', Sat w0 w' (Blk b (.cells vs e (0, 0)) :: M) → K (a.put d undef) w') : (Oper.mk d (.store t x y) ty pos aft gd).wp P a w K Q' := by
  refine wp_storeN hS hx hp hy hs rfl h1 (by show 0 + vs.size ≤ cs.size; omega) fun w' h => hK w' ?_
  have : setCells cs 0 (Value.agg vs).cells.toList = vs := by
    apply Array.ext'
    have : cs.toList.drop (0 + vs.toList.length) = [] := List.drop_eq_nil_of_le (by simp; omega)
    simp [setCells, Value.cells]
    omega
  rwa [this] at h
end
theorem one_map {α : Type} {F : α → Value} (h : ∀ u, (F u).oneCell' = true) (l : List α) : ∀ u ∈ (l.map F).toArray.toList, u.oneCell' = true := by
  intro u hu
  simp only [List.mem_map] at hu
  obtain ⟨x, _, rfl⟩ := hu
  exact h x
theorem fill_set {α : Type} (l : List α) (z : α) (n m : Nat) (hl : l.length = n) (hm : m < n) (u : α) (hu : l[m]? = some u) : (l.take m ++ List.replicate (n - m) z).set m u = l.take (m + 1) ++ List.replicate (n - (m + 1)) z := by
  have h1 : (l.take m).length = m := by rw [List.length_take]; omega
  have : n - m = (n - (m + 1)) + 1 := by omega
  rw [this, List.replicate_succ, List.set_append_right _ _ (by omega), h1, Nat.sub_self, List.set_cons_zero, List.take_add_one, hu]
  simp
theorem fill_len {α : Type} (l : List α) (z : α) (n m : Nat) (hl : l.length = n) (hm : m ≤ n) : (l.take m ++ List.replicate (n - m) z).length = n := by
  simp; omega
section
variable {w0 w : World} {L M : List Asn} {e : TypeId} {l : List UInt8}
/-- The bytes may be read as long as the parts L stand. -/
def Under (w0 : World) (L : List Asn) (v : Value) (l : List UInt8) : Prop := ∀ w', Sat w0 w' L → Reads w' v l
theorem under_own {v : Value} (s : Split L (Bytes e v l) M) : Under w0 L v l := fun _ h => reads_own h s
theorem under_ro {v : Value} (s : Split L (Ro w0 v l) M) : Under w0 L v l := fun _ h => h.reads_ro s
theorem under_arr {w0 : World} {L M : List Asn} {b n c : Nat} {l : List UInt8} {e : TypeId} {f : Nat × Nat} (s : Split L (Blk b (.cells (l.map B).toArray e f)) M) (hn : n = l.length) (h1 : n ≤ c) (h2 : c ≤ maxLen) : Under w0 L (.slice (some ⟨b, 0, none⟩) n c) l := by
  subst hn
  intro w' hS
  refine ⟨some ⟨b, 0, none⟩, c, rfl, h1, h2, (fun h => by cases h), fun ad had j u hu => ?_⟩
  cases had
  rw [addr_add, cell_blk (hS.split s).at]
  simp [hu]
theorem Under.skip {A : Asn} {v : Value} (h : Under w0 L v l) : Under w0 (A :: L) v l := fun _ hw => h _ hw.drop
theorem Under.take {a : Option Addr} {n c m : Nat} (h : Under w0 L (.slice a n c) l) (hm : m ≤ n) : Under w0 L (.slice a m c) (l.take m) := fun w' hw => (h w' hw).take hm
theorem bytes_addr {v : Value} (h : Sat w0 w (Bytes e v l :: L)) (hl : 0 < l.length) : ∃ g o c, v = .slice (some ⟨g, o, none⟩) l.length c ∧ l.length ≤ c := by
  obtain ⟨g, o, c, cur, hv, h1, _⟩ := h.bytes_block hl
  exact ⟨g, o, c, hv, h1⟩
theorem bytes_drop {ad a' : Option Addr} {n c i n' c' : Nat} (h : Sat w0 w (Bytes e (.slice ad n c) l :: L)) (hs : Sub 1 ad n c i a' n' c') (hi : i ≤ n) : Sat w0 w (Bytes e (.slice a' n' c') (l.drop i) :: L) := by
  obtain ⟨rfl, rfl, rfl⟩ := hs
  obtain ⟨hl, ⟨a0, hv, hn, hc, hs⟩ | ⟨g, off, cap, cur, hv, h1, h2, h3, h4, f, hf, hs⟩⟩ := h.row_cases
  · cases hv
    have h0 : l = [] := List.eq_nil_of_length_eq_zero hn
    subst h0
    obtain rfl : i = 0 := by simpa using hi
    have := hs.row_nil e 1 ad
    simpa [Bytes] using this
  · simp only [Value.slice.injEq] at hv
    obtain ⟨rfl, rfl, rfl⟩ := hv
    have hdl : (l.drop i).length = l.length - i := by simp
    by_cases hci : c = i
    · subst hci
      have h0 : l.drop c = [] := List.eq_nil_of_length_eq_zero (by omega)
      rw [if_pos rfl, h0, show l.length - c = 0 by omega, Nat.sub_self]
      exact hs.drop.row_nil e 1 _
    · rw [if_neg hci]
      have := hs.rowF hf (k := 1) (off := off + i) (cap := c - i) (n := (l.drop i).length) (cs := (l.drop i).map B) (by simp) (by omega) (by omega) (by omega) (fun j u hu => by
        rw [List.getElem?_map, Option.map_eq_some_iff] at hu
        obtain ⟨x, hx, rfl⟩ := hu
        rw [List.getElem?_drop] at hx
        rw [Nat.add_assoc]
        exact h4 (i + j) _ (by rw [List.getElem?_map, hx]; rfl))
      unfold Bytes
      rw [← hdl]
      simpa [addr_add] using this
end
theorem reads_at {w : World} {ad : Addr} {n c : Nat} {l : List UInt8} (h : Reads w (.slice (some ad) n c) l) (i : Nat) (u : UInt8) (hi : l[i]? = some u) : w.cell? (ad.add i) = some (B u) := by
  obtain ⟨a, c', e, h1, h2, h3, h4⟩ := h
  cases e
  exact h4 _ rfl i u hi
theorem reads_addr {w : World} {a : Option Addr} {n c : Nat} {l : List UInt8} (h : Reads w (.slice a n c) l) (h0 : 0 < l.length) : ∃ ad, a = some ad := by
  obtain ⟨a', c', e, h1, h2, h3, h4⟩ := h
  cases e
  cases a with
  | none => rw [h3 rfl] at h0; simp at h0
  | some ad => exact ⟨ad, rfl⟩
theorem reads_len {w : World} {a : Option Addr} {n c : Nat} {l : List UInt8} (h : Reads w (.slice a n c) l) : n = l.length ∧ l.length ≤ c ∧ c ≤ maxLen := by
  obtain ⟨a', c', e, h1, h2, h3, h4⟩ := h
  cases e
  exact ⟨rfl, h1, h2⟩

theorem old_cell {w0 w : World} {L : List Asn} {p : Addr} {v : Value} (hS : Sat w0 w L) (h : w0.cell? p = some v) : w.cell? p = some v := (hS.cell (block_lt_of_cell h)).trans h
/-- A struct and two more results. -/
theorem results_c2 {P : Program} {fn : Func} {p u v : Tmp} {ty : TypeId} (h : fn.results = #[.cell p ty, .tmp u, .tmp v]) (tmps : Array Value) (w : World) (g : Nat) (t : TypeId) (cs : Array Value) (fr : Nat × Nat) (d : TypeDesc)
    (hp : tmps.getD p undef = .pointer (some ⟨g, 0, none⟩)) (hg : w.heap[g]? = some (.cells cs t fr))
    (hu : P.underlying ty = some d) (hd : (match d with | .struct _ | .array _ _ => true | _ => false) = true) (hi : (P.info? ty).map (·.size) = some cs.size) :
    (results fn tmps).run P w = .ok (.tuple #[.agg cs, tmps.getD u undef, tmps.getD v undef]) w := by
  have hp' : tmps[p]?.getD undef = .pointer (some ⟨g, 0, none⟩) := by simpa using hp
  simp [results, h, hp', asAddr, run_loadVar_row w g t ty cs fr d hg hu hd hi]
/-- A struct or an array, and one more result. -/
theorem results_c1 {P : Program} {fn : Func} {p u : Tmp} {ty : TypeId} (h : fn.results = #[.cell p ty, .tmp u]) (tmps : Array Value) (w : World) (g : Nat) (t : TypeId) (cs : Array Value) (fr : Nat × Nat) (d : TypeDesc)
    (hp : tmps.getD p undef = .pointer (some ⟨g, 0, none⟩)) (hg : w.heap[g]? = some (.cells cs t fr))
    (hu : P.underlying ty = some d) (hd : (match d with | .struct _ | .array _ _ => true | _ => false) = true) (hi : (P.info? ty).map (·.size) = some cs.size) :
    (results fn tmps).run P w = .ok (.tuple #[.agg cs, tmps.getD u undef]) w := by
  have hp' : tmps[p]?.getD undef = .pointer (some ⟨g, 0, none⟩) := by simpa using hp
  simp [results, h, hp', asAddr, run_loadVar_row w g t ty cs fr d hg hu hd hi]
end Go.Sp
