/-
  What one operation on memory yields or does: laws on its run.
-/
import Derived.Test.YtgkbmelecalllaaSd1
set_option linter.unusedSectionVars false
set_option linter.unusedSimpArgs false
set_option linter.unusedVariables false
namespace Go.Sd
open Go
variable [Str]

theorem addr_add (b off k : Nat) : (⟨b, off, none⟩ : Addr).add k = ⟨b, off + k, none⟩ := by
  unfold Addr.add
  split
  · rename_i h; subst h; rfl
  · rfl

/-- A value of one cell. -/
def oneCell : Value → Bool
  | .agg _ | .tuple _ => false
  | _ => true
theorem oneCell_cells {v : Value} (h : oneCell v = true) : v.cells = #[v] := by cases v <;> first | rfl | (simp [oneCell] at h)

/-- The operands come to these values. -/
def Args (ρ : Operand → Value) : List Operand → List Value → Prop
  | [], [] => True
  | x :: xs, v :: vs => ρ x = v ∧ Args ρ xs vs
  | _, _ => False
theorem args_list {ρ : Operand → Value} : ∀ {xs : List Operand} {vs : List Value}, Args ρ xs vs → xs.map ρ = vs
  | [], [], _ => rfl
  | x :: xs, v :: vs, h => by simp [h.1, args_list h.2]
  | [], _ :: _, h => h.elim
  | _ :: _, [], h => h.elim
theorem args_map {ρ : Operand → Value} {xs : Array Operand} {vs : List Value} (h : Args ρ xs.toList vs) : xs.map ρ = vs.toArray := by
  have := args_list h
  apply Array.ext'
  simpa using this

/-- The parts of a struct come to these values. -/
def Parts (ρ : Operand → Value) : List (Nat × Operand) → List (Nat × Value) → Prop
  | [], [] => True
  | x :: xs, v :: vs => (ρ x.2 = v.2 ∧ x.1 = v.1) ∧ Parts ρ xs vs
  | _, _ => False
theorem parts_list {ρ : Operand → Value} : ∀ {xs : List (Nat × Operand)} {vs : List (Nat × Value)}, Parts ρ xs vs → xs.map (fun x => (x.1, ρ x.2)) = vs
  | [], [], _ => rfl
  | x :: xs, v :: vs, h => by simp [h.1.1, h.1.2, parts_list h.2]
  | [], _ :: _, h => h.elim
  | _ :: _, [], h => h.elim
theorem parts_map {ρ : Operand → Value} {xs : Array (Nat × Operand)} {vs : List (Nat × Value)} (h : Parts ρ xs.toList vs) : xs.map (fun x => (x.1, ρ x.2)) = vs.toArray := by
  have := parts_list h
  apply Array.ext'
  simpa using this

section
variable {P : Program} {ρ : Operand → Value} {w : World} {dst : Option Tmp} {ty : TypeId} {pos : String} {aft : Array Edge} {g : Option (Nat × Bool)}

theorem R.fieldAddr {s : TypeId} {x : Operand} {i b off k m : Nat} {fs : Array Field} {f : Field} (hx : ρ x = .pointer (some ⟨b, off, none⟩)) (hs : ∀ w, (underlying s).run P w = .ok (.struct fs) w) (hf : fs[i]? = some f)
    (hz : ∀ w, (sizeOf f.type).run P w = .ok (m + 1) w) (hk : off + f.offset = k) : (execOp ρ ⟨dst, .fieldAddr s x i, ty, pos, aft, g⟩).run P w = .ok (.value (.pointer (some ⟨b, k, none⟩))) w := by
  subst hk
  simp [execOp, hx, Instr.fieldAt, hs, hf, Instr.sureAddr, fieldPlace, hz, addr_add]

theorem R.field1 {s : TypeId} {x : Operand} {i : Nat} {fs : Array Field} {f : Field} {cs : Array Value} {v : Value} (hx : ρ x = .agg cs) (hs : ∀ w, (underlying s).run P w = .ok (.struct fs) w) (hf : fs[i]? = some f)
    (hz : ∀ w, (isAgg f.type).run P w = .ok false w) (hv : cs[f.offset]? = some v) : (execOp ρ ⟨dst, .field s x i, ty, pos, aft, g⟩).run P w = .ok (.value v) w := by
  simp [execOp, hx, Instr.field, hs, hf, part, hz, asAgg, hv]
theorem R.fieldn {s : TypeId} {x : Operand} {i m : Nat} {fs : Array Field} {f : Field} {cs vs : Array Value} (hx : ρ x = .agg cs) (hs : ∀ w, (underlying s).run P w = .ok (.struct fs) w) (hf : fs[i]? = some f)
    (hz : ∀ w, (isAgg f.type).run P w = .ok true w) (hm : ∀ w, (sizeOf f.type).run P w = .ok m w) (hv : cs.extract f.offset (f.offset + m) = vs) : (execOp ρ ⟨dst, .field s x i, ty, pos, aft, g⟩).run P w = .ok (.value (.agg vs)) w := by
  subst hv
  simp [execOp, hx, Instr.field, hs, hf, part, hz, hm, asAgg]

theorem R.indexAddr {t e : TypeId} {x ix : Operand} {b off len cap k sz : Nat} {i : Int} {q : IntKind} (hx : ρ x = .slice (some ⟨b, off, none⟩) len cap) (hi : ρ ix = .int q i) (ht : ∀ w, (underlying t).run P w = .ok (.slice e) w)
    (hz : ∀ w, (sizeOf e).run P w = .ok sz w) (h0 : 0 ≤ i) (h1 : i < len) (hk : off + i.toNat * sz = k) : (execOp ρ ⟨dst, .indexAddr t x ix, ty, pos, aft, g⟩).run P w = .ok (.value (.pointer (some ⟨b, k, none⟩))) w := by
  subst hk
  simp [execOp, hx, hi, Instr.indexAt, asIntOf, ht, hz, h0, h1, addr_add]
theorem R.indexAddr_arr {t e : TypeId} {x ix : Operand} {b off len k sz : Nat} {i : Int} {q : IntKind} (hx : ρ x = .pointer (some ⟨b, off, none⟩)) (hi : ρ ix = .int q i) (ht : ∀ w, (underlying t).run P w = .ok (.array len e) w)
    (hz : ∀ w, (sizeOf e).run P w = .ok sz w) (h0 : 0 ≤ i) (h1 : i < len) (hk : off + i.toNat * sz = k) : (execOp ρ ⟨dst, .indexAddr t x ix, ty, pos, aft, g⟩).run P w = .ok (.value (.pointer (some ⟨b, k, none⟩))) w := by
  subst hk
  simp [execOp, hx, hi, Instr.indexAt, asIntOf, ht, hz, h0, h1, addr_add, Instr.sureAddr]

theorem R.load1 {t : TypeId} {x : Operand} {p : Addr} {v : Value} (hx : ρ x = .pointer (some p)) (ha : ∀ w, (isAgg t).run P w = .ok false w) (hc : w.cell? p = some v) : (execOp ρ ⟨dst, .load t x, ty, pos, aft, g⟩).run P w = .ok (.value v) w := by
  simp [execOp, hx, Instr.loadAt, Instr.sureAddr, loadVar, ha, hc]
theorem R.loadn {t : TypeId} {x : Operand} {b off m : Nat} {vs : List Value} (hx : ρ x = .pointer (some ⟨b, off, none⟩)) (ha : ∀ w, (isAgg t).run P w = .ok true w) (hm : ∀ w, (sizeOf t).run P w = .ok m w) (hl : vs.length = m)
    (hc : ∀ j v, vs[j]? = some v → w.cell? ⟨b, off + j, none⟩ = some v) : (execOp ρ ⟨dst, .load t x, ty, pos, aft, g⟩).run P w = .ok (.value (.agg vs.toArray)) w := by
  subst hl
  have := run_loadCells_list (P := P) (w := w) ⟨b, off, none⟩ vs (fun j v h => by rw [addr_add]; exact hc j v h)
  simp [execOp, hx, Instr.loadAt, Instr.sureAddr, loadVar, ha, hm, this]

theorem R.store1 {t : TypeId} {x y : Operand} {p : Addr} {u v : Value} (hx : ρ x = .pointer (some p)) (hy : ρ y = v) (hv : oneCell v = true) (hm : ∀ w, (sizeOf t).run P w = .ok 1 w) (hc : w.cell? p = some u) (hf : w.frozen? p = false) :
    (execOp ρ ⟨dst, .store t x y, ty, pos, aft, g⟩).run P w = .ok .skip (w.setCell p v) := by
  have h1 := oneCell_cells hv
  have h2 : p.add 0 = p := rfl
  have h3 : ∀ q : Mode, (Sem.store q p v (.pure ())).run P w = .ok () (w.setCell p v) := by
    intro q
    cases v <;> first | (simp [oneCell] at hv; done) | (simp only [Sem.run, hc, hf]; rfl)
  simp only [execOp, hx, hy, Instr.storeAt, Instr.sureAddr, storeVar, Sem.run_bind, Sem.run_pure, Result.andThen_ok, hm, h1]
  simp [storeCells, h2, store, h3]

theorem R.alloc {e : TypeId} {z : Value} (hz : ∀ w, (zeroValue e).run P w = .ok z w) : (execOp ρ ⟨dst, .alloc e, ty, pos, aft, g⟩).run P w = .ok (.value (.pointer (some ⟨w.heap.size, 0, none⟩))) (w.alloc (.cells z.cells e)) := by
  simp [execOp, Instr.alloc, hz, newVar, newRow]
theorem R.box {e : TypeId} {x : Operand} {v : Value} (hx : ρ x = v) : (execOp ρ ⟨dst, .box e x, ty, pos, aft, g⟩).run P w = .ok (.value (.pointer (some ⟨w.heap.size, 0, none⟩))) (w.alloc (.cells v.cells e)) := by
  simp [execOp, Instr.box, hx, newVar, newRow]

theorem R.len_slice {t : TypeId} {x : Operand} {e : TypeId} {a : Option Addr} {n c : Nat} (hx : ρ x = .slice a n c) (ht : ∀ w, (underlying t).run P w = .ok (.slice e) w) : (execOp ρ ⟨dst, .call ⟨.builtin .len, #[x], #[t]⟩, ty, pos, aft, g⟩).run P w = .ok (.value (.int .i64 n)) w := by
  simp [execOp, resolve, hx, invoke, builtin, Builtin.len_, ht, goInt]
theorem R.isNil {t : TypeId} {x y : Operand} {p : Option Addr} {t' : TypeId} (hx : ρ x = .pointer p) (hy : ρ y = .pointer none) (ht : P.underlying t = some (.pointer (P.pointee t))) : (execOp ρ ⟨dst, .binOp .eql t x y t', ty, pos, aft, g⟩).run P w = .ok (.value (.bool p.isNone)) w := by
  simp [execOp, hx, hy, eqGuard, run_eql_pointer_nil w t p ht]
theorem R.notNil {t : TypeId} {x y : Operand} {p : Option Addr} {t' : TypeId} (hx : ρ x = .pointer p) (hy : ρ y = .pointer none) (ht : P.underlying t = some (.pointer (P.pointee t))) : (execOp ρ ⟨dst, .binOp .neq t x y t', ty, pos, aft, g⟩).run P w = .ok (.value (.bool (!p.isNone))) w := by
  simp [execOp, hx, hy, eqGuard, run_neq_pointer_nil w t p ht]

theorem R.convert_int {s t : TypeId} {x : Operand} {q k : IntKind} {n : Int} (hx : ρ x = .int q n) (hs : ∀ w, (underlying s).run P w = .ok (.int q) w) (ht : ∀ w, (underlying t).run P w = .ok (.int k) w) : (execOp ρ ⟨dst, .convert s t x, ty, pos, aft, g⟩).run P w = .ok (.value (.int k (k.wrap n))) w := by
  simp [execOp, hx, convert, hs, ht, Conv.intToInt]
theorem R.rem {t t' : TypeId} {x y : Operand} {k : IntKind} {a b : Int} (hx : ρ x = .int k a) (hy : ρ y = .int k b) (hb : b ≠ 0) : (execOp ρ ⟨dst, .binOp .rem t x y t', ty, pos, aft, g⟩).run P w = .ok (.value (.int k (a.tmod b))) w := by
  simp [execOp, hx, hy, eqGuard, binOp, Op.intDiv, hb]
theorem R.quo {t t' : TypeId} {x y : Operand} {k : IntKind} {a b : Int} (hx : ρ x = .int k a) (hy : ρ y = .int k b) (hb : b ≠ 0) : (execOp ρ ⟨dst, .binOp .quo t x y t', ty, pos, aft, g⟩).run P w = .ok (.value (.int k (k.wrap (a.tdiv b)))) w := by
  simp [execOp, hx, hy, eqGuard, binOp, Op.intDiv, hb]

theorem R.build {t : TypeId} {parts : Array (Nat × Operand)} {vs : List (Nat × Value)} {v : Value} (hv : Parts ρ parts.toList vs) (hr : (Instr.build t vs.toArray).run P w = .ok v w) : (execOp ρ ⟨dst, .build t parts, ty, pos, aft, g⟩).run P w = .ok (.value v) w := by
  have h := parts_map hv
  simp only [execOp]
  rw [h]
  simp [hr]

/-! calls of Go functions -/
theorem R.call {f : FuncId} {args : Array Operand} {tys : Array TypeId} {vs : List Value} (hf : ∀ args w, (callFunc f args).run P w = .ok (.enter f args) w) (h0 : ρ (.func f) = .func (.func f) #[] #[]) (ha : Args ρ args.toList vs) : (execOp ρ ⟨dst, .call ⟨.value (.func f), args, tys⟩, ty, pos, aft, g⟩).run P w = .ok (.enter f vs.toArray) w := by
  have h := args_map ha
  simp [execOp, resolve, h0, Deferred.ofValue, invoke, hf, h]
theorem R.callv {f : FuncId} {x : Operand} {args : Array Operand} {tys : Array TypeId} {cap : List Value} {vs : List Value} (hx : ρ x = .func (.func f) #[] cap.toArray) (hf : ∀ args w, (callFunc f args).run P w = .ok (.enter f args) w) (ha : Args ρ args.toList vs) : (execOp ρ ⟨dst, .call ⟨.value x, args, tys⟩, ty, pos, aft, g⟩).run P w = .ok (.enter f (vs ++ cap).toArray) w := by
  have h := args_map ha
  simp [execOp, resolve, hx, Deferred.ofValue, invoke, hf, h]
end
end Go.Sd
