/-
  What one operation of a Go function yields: laws on its run, over temporaries that are told.
-/
import Derived.Test.YtgkbmelecalllaaSd0
set_option linter.unusedSectionVars false
set_option linter.unusedSimpArgs false
set_option linter.unusedVariables false
namespace Go.Sd
open Go
variable [Str]

theorem wrap_i64 {x : Int} (h1 : -9223372036854775808 ≤ x) (h2 : x ≤ 9223372036854775807) : IntKind.i64.wrap x = x := by
  simp only [IntKind.wrap, IntKind.bits, IntKind.signed]
  simp
  omega

section
variable {P : Program} {ρ : Operand → Value} {w : World} {dst : Option Tmp} {ty : TypeId} {pos : String} {aft : Array Edge} {g : Option (Nat × Bool)}

theorem R.as {o : Oper} {v v' : Value} {w' : World} (h : (execOp ρ o).run P w = .ok (.value v) w') (e : v = v') : (execOp ρ o).run P w = .ok (.value v') w' := e ▸ h

theorem R.move {x : Operand} {v : Value} (hx : ρ x = v) : (execOp ρ ⟨dst, .move x, ty, pos, aft, g⟩).run P w = .ok (.value v) w := by simp [execOp, hx]
theorem R.assign {x : Operand} {v : Value} (hx : ρ x = v) : (execOp ρ ⟨dst, .assign x, ty, pos, aft, g⟩).run P w = .ok (.value v) w := by simp [execOp, hx]
theorem R.pick_yes {c x y : Operand} {v : Value} (hc : ρ c = .bool true) (hx : ρ x = v) : (execOp ρ ⟨dst, .pick c x y, ty, pos, aft, g⟩).run P w = .ok (.value v) w := by simp [execOp, hc, hx, asBool]
theorem R.pick_no {c x y : Operand} {v : Value} (hc : ρ c = .bool false) (hy : ρ y = v) : (execOp ρ ⟨dst, .pick c x y, ty, pos, aft, g⟩).run P w = .ok (.value v) w := by simp [execOp, hc, hy, asBool]
theorem R.nilCheck {x : Operand} {a : Addr} (hx : ρ x = .pointer (some a)) : (execOp ρ ⟨dst, .nilCheck x, ty, pos, aft, g⟩).run P w = .ok (.value (.pointer (some a))) w := by simp [execOp, hx]
theorem R.extract {x : Operand} {i : Nat} {vs : Array Value} {v : Value} (hx : ρ x = .tuple vs) (hv : vs[i]? = some v) : (execOp ρ ⟨dst, .extract x i, ty, pos, aft, g⟩).run P w = .ok (.value v) w := by simp [execOp, hx, Instr.extract, hv]

/-! numbers -/
theorem R.add {t t' : TypeId} {x y : Operand} {k : IntKind} {a b : Int} (hx : ρ x = .int k a) (hy : ρ y = .int k b) : (execOp ρ ⟨dst, .binOp .add t x y t', ty, pos, aft, g⟩).run P w = .ok (.value (.int k (k.wrap (a + b)))) w := by
  simp [execOp, hx, hy, eqGuard, binOp, Op.intArith]
theorem R.sub {t t' : TypeId} {x y : Operand} {k : IntKind} {a b : Int} (hx : ρ x = .int k a) (hy : ρ y = .int k b) : (execOp ρ ⟨dst, .binOp .sub t x y t', ty, pos, aft, g⟩).run P w = .ok (.value (.int k (k.wrap (a - b)))) w := by
  simp [execOp, hx, hy, eqGuard, binOp, Op.intArith]
theorem R.mul {t t' : TypeId} {x y : Operand} {k : IntKind} {a b : Int} (hx : ρ x = .int k a) (hy : ρ y = .int k b) : (execOp ρ ⟨dst, .binOp .mul t x y t', ty, pos, aft, g⟩).run P w = .ok (.value (.int k (k.wrap (a * b)))) w := by
  simp [execOp, hx, hy, eqGuard, binOp, Op.intArith]
theorem R.lss {t t' : TypeId} {x y : Operand} {k : IntKind} {a b : Int} (hx : ρ x = .int k a) (hy : ρ y = .int k b) : (execOp ρ ⟨dst, .binOp .lss t x y t', ty, pos, aft, g⟩).run P w = .ok (.value (.bool (decide (a < b)))) w := by
  simp [execOp, hx, hy, eqGuard, binOp, Op.intCmp]
theorem R.leq {t t' : TypeId} {x y : Operand} {k : IntKind} {a b : Int} (hx : ρ x = .int k a) (hy : ρ y = .int k b) : (execOp ρ ⟨dst, .binOp .leq t x y t', ty, pos, aft, g⟩).run P w = .ok (.value (.bool (decide (a ≤ b)))) w := by
  simp [execOp, hx, hy, eqGuard, binOp, Op.intCmp]
theorem R.gtr {t t' : TypeId} {x y : Operand} {k : IntKind} {a b : Int} (hx : ρ x = .int k a) (hy : ρ y = .int k b) : (execOp ρ ⟨dst, .binOp .gtr t x y t', ty, pos, aft, g⟩).run P w = .ok (.value (.bool (decide (b < a)))) w := by
  simp [execOp, hx, hy, eqGuard, binOp, Op.intCmp]
theorem R.geq {t t' : TypeId} {x y : Operand} {k : IntKind} {a b : Int} (hx : ρ x = .int k a) (hy : ρ y = .int k b) : (execOp ρ ⟨dst, .binOp .geq t x y t', ty, pos, aft, g⟩).run P w = .ok (.value (.bool (decide (b ≤ a)))) w := by
  simp [execOp, hx, hy, eqGuard, binOp, Op.intCmp]
theorem R.eql {t t' : TypeId} {x y : Operand} {k : IntKind} {a b : Int} (hx : ρ x = .int k a) (hy : ρ y = .int k b) : (execOp ρ ⟨dst, .binOp .eql t x y t', ty, pos, aft, g⟩).run P w = .ok (.value (.bool (decide (a = b)))) w := by
  simp [execOp, hx, hy, eqGuard, binOp, Op.intCmp, Bool.beq_eq_decide_eq]
theorem R.neq {t t' : TypeId} {x y : Operand} {k : IntKind} {a b : Int} (hx : ρ x = .int k a) (hy : ρ y = .int k b) : (execOp ρ ⟨dst, .binOp .neq t x y t', ty, pos, aft, g⟩).run P w = .ok (.value (.bool (!decide (a = b)))) w := by
  simp [execOp, hx, hy, eqGuard, binOp, Op.intCmp, bne, Bool.beq_eq_decide_eq]
theorem R.not {t : TypeId} {x : Operand} {b : Bool} (hx : ρ x = .bool b) : (execOp ρ ⟨dst, .unOp .not t x, ty, pos, aft, g⟩).run P w = .ok (.value (.bool (!b))) w := by
  simp [execOp, hx, Op.unary]
theorem R.eql_bool {t t' : TypeId} {x y : Operand} {a b : Bool} (ht : P.underlying t = some .bool) (hx : ρ x = .bool a) (hy : ρ y = .bool b) : (execOp ρ ⟨dst, .binOp .eql t x y t', ty, pos, aft, g⟩).run P w = .ok (.value (.bool (decide (a = b)))) w := by
  simp [execOp, hx, hy, eqGuard, binOp, Op.equal, Op.maxDepth, run_equalIn_bool' w 9999 t a b ht, Bool.beq_eq_decide_eq]
theorem R.neq_bool {t t' : TypeId} {x y : Operand} {a b : Bool} (ht : P.underlying t = some .bool) (hx : ρ x = .bool a) (hy : ρ y = .bool b) : (execOp ρ ⟨dst, .binOp .neq t x y t', ty, pos, aft, g⟩).run P w = .ok (.value (.bool (!decide (a = b)))) w := by
  simp [execOp, hx, hy, eqGuard, binOp, Op.equal, Op.maxDepth, run_equalIn_bool' w 9999 t a b ht, Bool.beq_eq_decide_eq]
end
end Go.Sd
