/-
  More rules: slicing, copy, bits.
-/
import Derived.Test.YtgkbmelecalllaaSf1
set_option linter.unusedSectionVars false
set_option linter.unusedSimpArgs false
set_option linter.unusedVariables false
namespace Go.Sd
open Go
variable [Str]
section
variable {P : Program} {ρ : Operand → Value} {w : World} {dst : Option Tmp} {ty : TypeId} {pos : String} {aft : Array Edge} {g : Option (Nat × Bool)}
theorem add0 (a : Option Addr) : a.map (·.add 0) = a := by cases a <;> rfl
theorem R.sliceTo {t e : TypeId} {x y : Operand} {a : Option Addr} {len cap sz : Nat} {h : Int} (hx : ρ x = .slice a len cap) (hy : ρ y = .int .i64 h) (ht : ∀ w, (underlying t).run P w = .ok (.slice e) w) (hz : ∀ w, (sizeOf e).run P w = .ok sz w) (h0 : 0 ≤ h) (h1 : h ≤ cap) :
    (execOp ρ ⟨dst, .slice t x none (some y) none, ty, pos, aft, g⟩).run P w = .ok (.value (.slice a h.toNat cap)) w := by
  have := add0 a
  simp [execOp, hx, hy, Instr.sliceAt, Instr.slice, Instr.sliceBounds, Instr.sliceBound, asIntOf, ht, hz, h0, h1, this]
theorem R.slice3 {t e : TypeId} {x y z : Operand} {a : Option Addr} {len cap sz : Nat} {h m : Int} (hx : ρ x = .slice a len cap) (hy : ρ y = .int .i64 h) (hz' : ρ z = .int .i64 m) (ht : ∀ w, (underlying t).run P w = .ok (.slice e) w) (hz : ∀ w, (sizeOf e).run P w = .ok sz w) (h0 : 0 ≤ h) (h1 : h ≤ m) (h2 : m ≤ cap) :
    (execOp ρ ⟨dst, .slice t x none (some y) (some z), ty, pos, aft, g⟩).run P w = .ok (.value (.slice a h.toNat m.toNat)) w := by
  have e0 := add0 a
  have e1 : 0 ≤ m := by omega
  have e2 : max m 0 = m := by omega
  simp [execOp, hx, hy, hz', Instr.sliceAt, Instr.slice, Instr.sliceBounds, Instr.sliceBound, asIntOf, ht, hz, h0, h1, h2, e1, e2, e0]
theorem R.sliceFrom {t e : TypeId} {x y : Operand} {b off len cap sz : Nat} {l : Int} (hx : ρ x = .slice (some ⟨b, off, none⟩) len cap) (hy : ρ y = .int .i64 l) (ht : ∀ w, (underlying t).run P w = .ok (.slice e) w) (hz : ∀ w, (sizeOf e).run P w = .ok sz w) (h0 : 0 ≤ l) (h1 : l ≤ len) (h2 : l < cap) :
    (execOp ρ ⟨dst, .slice t x (some y) none none, ty, pos, aft, g⟩).run P w = .ok (.value (.slice (some ⟨b, off + l.toNat * sz, none⟩) (len - l.toNat) (cap - l.toNat))) w := by
  have e1 : ¬ cap = l.toNat := by omega
  simp [execOp, hx, hy, Instr.sliceAt, Instr.slice, Instr.sliceBounds, Instr.sliceBound, asIntOf, ht, hz, h0, h1, e1, addr_add]
theorem R.and {t t' : TypeId} {x y : Operand} {k : IntKind} {a b : Int} (hx : ρ x = .int k a) (hy : ρ y = .int k b) : (execOp ρ ⟨dst, .binOp .and t x y t', ty, pos, aft, g⟩).run P w = .ok (.value (.int k (k.wrap (BitVec.ofInt k.bits a &&& BitVec.ofInt k.bits b).toNat))) w := by
  simp [execOp, hx, hy, eqGuard, binOp, Op.intBits]
end
theorem wrap_u64 {x : Int} (h1 : 0 ≤ x) (h2 : x < 18446744073709551616) : IntKind.u64.wrap x = x := by
  simp only [IntKind.wrap, IntKind.bits, IntKind.signed]
  simp
  omega
theorem mask32 {k : Int} (h0 : 0 ≤ k) (h1 : k < 4294967296) : IntKind.u64.wrap (BitVec.ofInt IntKind.u64.bits k &&& BitVec.ofInt IntKind.u64.bits 4294967295).toNat = k := by
  obtain ⟨n, rfl⟩ := Int.eq_ofNat_of_zero_le h0
  have e : (BitVec.ofInt IntKind.u64.bits (n : Int) &&& BitVec.ofInt IntKind.u64.bits 4294967295).toNat = n := by
    rw [BitVec.toNat_and]
    simp only [IntKind.bits, BitVec.toNat_ofInt]
    have e1 : ((n : Int) % ((2 ^ 64 : Nat) : Int)).toNat = n := by omega
    have e2 : ((4294967295 : Int) % ((2 ^ 64 : Nat) : Int)).toNat = 2 ^ 32 - 1 := by decide
    rw [e1, e2, Nat.and_two_pow_sub_one_eq_mod]
    omega
  rw [e]
  exact wrap_u64 (by omega) (by omega)
theorem shr32 {k : Int} (h0 : 0 ≤ k) (h1 : k < 4294967296) : k.fdiv (2 ^ (min (32 : Int).toNat IntKind.u64.bits)) = 0 := by
  have : (2 ^ (min (32 : Int).toNat IntKind.u64.bits) : Int) = 4294967296 := by decide
  rw [this, Int.fdiv_eq_ediv_of_nonneg _ (by decide)]
  omega
section
variable {P : Program} {n : Nat} {Q : Exit → Act → World → Prop} {env : Env} {w : World} {ty : TypeId} {pos : String} {aft : Array Edge} {g : Option (Nat × Bool)} {S : List Seg} {K : Env → World → Prop} {i b : Nat}
theorem OW.copy {t t2 e : TypeId} {x y : Operand} {d od ld cd ls lc m sz : Nat} {T : TypeId} {cs : Array Value} {a : Option Addr} {vs : List Value} (hd : Nat.blt d n = true) (hO : Own w S) (hi : S[i]? = some [(b, .cells cs T (0, 0))]) (hx : evo env x = some (.slice (some ⟨b, od, none⟩) ld cd)) (hy : evo env y = some (.slice a ls lc))
    (ht : ∀ w, (underlying t).run P w = .ok (.slice e) w) (ht2 : ∀ w, (underlying t2).run P w = .ok (.slice e) w) (hz : ∀ w, (sizeOf e).run P w = .ok sz w) (hm : m = min ls ld) (hl : vs.length = m * sz) (ha : 0 < m → ∃ b' o', a = some ⟨b', o', none⟩ ∧ ∀ j u, vs[j]? = some u → w.cell? ⟨b', o' + j, none⟩ = some u) (h1 : ∀ v ∈ vs, oneCell v = true) (hr : od + m * sz ≤ cs.size)
    (h : ∀ w', Own w' (S.set i [(b, .cells (setCells cs od vs) T (0, 0))]) → K ((d, .int .i64 m) :: env) w') : OW P n Q ⟨some d, .call ⟨.builtin .copy, #[x, y], #[t, t2]⟩, ty, pos, aft, g⟩ env w K := by
  obtain ⟨w', hst, hO'⟩ := run_storeCells (P := P) (i := i) (b := b) (T := T) (off := od) vs w S cs 0 hO hi h1 (by rw [hl]; simpa using hr)
  have hmin : Nat.min ls ld = m := by rw [hm]
  have hload : ∀ w0, w0 = w → (Builtin.firstCells sz m (.slice a ls lc)).run P w0 = .ok vs.toArray w0 := by
    intro w0 hw0
    subst hw0
    rcases Nat.eq_zero_or_pos m with h0 | h0
    · subst h0
      have : vs = [] := List.eq_nil_of_length_eq_zero (by simpa using hl)
      subst this
      cases a with
      | none => simp [Builtin.firstCells]
      | some a => simp [Builtin.firstCells, loadCells, loadCellsFrom]
    · obtain ⟨b', o', rfl, hc⟩ := ha h0
      have := run_loadCells_list (P := P) (w := w0) ⟨b', o', none⟩ vs (fun j u hj => by rw [addr_add]; exact hc j u hj)
      rw [hl] at this
      simpa [Builtin.firstCells] using this
  have hrun : (Builtin.copy_ #[t, t2] ty #[.slice (some ⟨b, od, none⟩) ld cd, .slice a ls lc]).run P w = .ok (.int .i64 m) w' := by
    simp [Builtin.copy_, ht, hz, Builtin.lenOf, hmin, hload w rfl, hst, goInt]
  refine OW.new hd (fun _ r => ?_) (h w' (by simpa using hO'))
  simp [execOp, resolve, r.e hx, r.e hy, invoke, builtin, hrun]
end
end Go.Sd
