/-
  More rules: slices that are made with a length, a store into a slice of one's own.
-/
import Derived.Test.YtgkbmelecalllaaSd4
set_option linter.unusedSectionVars false
set_option linter.unusedSimpArgs false
set_option linter.unusedVariables false
namespace Go.Sd
open Go
variable [Str]

theorem Grow.got {α : Type} {E sz : Nat} {enc : α → List Value} {v : Value} {s : Seg} {xs : List α} (h : Grow E sz enc v s xs) (hne : 0 < xs.length) :
    ∃ b cap rest, v = .slice (some ⟨b, 0, none⟩) xs.length cap ∧ s = [(b, .cells ((xs.flatMap enc ++ rest).toArray) E (0, 0))] ∧ (xs.flatMap enc).length + rest.length = cap * sz ∧ xs.length ≤ cap := by
  rcases h with ⟨_, _, rfl⟩ | h
  · simp at hne
  · exact h
theorem Grow.one {α : Type} {E sz : Nat} {enc : α → List Value} {v : Value} {s : Seg} {xs : List α} (h : Grow E sz enc v s xs) : oneCell v = true := by
  rcases h with ⟨rfl, _, _⟩ | ⟨b, cap, rest, rfl, _⟩ <;> rfl
theorem flat1_set {α : Type} {enc1 : α → Value} : ∀ (xs : List α) (i : Nat) (y : α), i < xs.length → ∀ rest : List Value, (xs.flatMap (fun x => [enc1 x]) ++ rest).set i (enc1 y) = (xs.set i y).flatMap (fun x => [enc1 x]) ++ rest
  | [], i, y, h, _ => by simp at h
  | x :: xs, 0, y, _, rest => by simp
  | x :: xs, i + 1, y, h, rest => by
    have := flat1_set (enc1 := enc1) xs i y (by simpa using h) rest
    simp only [List.flatMap_cons, List.cons_append, List.nil_append, List.set_cons_succ]
    rw [this]
/-- One element of a slice of one's own turned. -/
theorem Grow.set {α : Type} {E : Nat} {enc1 : α → Value} {b cap : Nat} {rest : List Value} {xs : List α} {i : Nat} {y : α} (hi : i < xs.length) (hl : (xs.flatMap (fun x => [enc1 x])).length + rest.length = cap * 1) (hle : xs.length ≤ cap) :
    Grow E 1 (fun x => [enc1 x]) (.slice (some ⟨b, 0, none⟩) xs.length cap) [(b, .cells ((xs.flatMap (fun x => [enc1 x]) ++ rest).toArray.setIfInBounds i (enc1 y)) E (0, 0))] (xs.set i y) := by
  refine .inr ⟨b, cap, rest, by simp, ?_, ?_, by simpa using hle⟩
  · rw [List.setIfInBounds_toArray, flat1_set xs i y hi rest]
  · rw [flat_length (sz := 1) (fun _ _ => rfl)] at hl ⊢
    simpa using hl

theorem Grow.shut1 {E b cap l : Nat} {enc1 : Int → Value} {s : Seg} {xs : List Int} (h : Grow E 1 (fun x => [enc1 x]) (.slice (some ⟨b, 0, none⟩) l cap) s xs) : Sl s 1 (fun x => [enc1 x]) (some ⟨b, 0, none⟩) xs.length cap xs := by
  obtain ⟨a, n, c, he, hs⟩ := h.shut (fun _ _ => rfl)
  injection he with e1 e2 e3
  subst e1 e3
  have := hs.hlen
  subst this
  exact hs
section
variable {P : Program} {n : Nat} {Q : Exit → Act → World → Prop} {env : Env} {w : World} {ty : TypeId} {pos : String} {aft : Array Edge} {g : Option (Nat × Bool)}
/-- make([]T, n), T of one cell. -/
theorem OW.makeSlice {t e d by_ : Nat} {x : Operand} {k : Int} {z u : Value} {S : List Seg} {K : Env → World → Prop} (hd : Nat.blt d n = true) (hO : Own w S) (hT : ElemT P t e 1 by_ z) (hu : z.cells[0]! = u) (hx : evo env x = some (.int .i64 k)) (h0 : 0 ≤ k) (h1 : k * by_ ≤ 140737488355328) (h2 : k ≤ 4611686018427387904)
    (h : ∀ b w', Own w' ([(b, .cells (List.replicate k.toNat u).toArray e (0, 0))] :: S) → K ((d, .slice (some ⟨b, 0, none⟩) k.toNat k.toNat) :: env) w') : OW P n Q ⟨some d, .makeSlice t x x, ty, pos, aft, g⟩ env w K := by
  subst hu
  obtain ⟨i, hi, hsz, hby, hz⟩ := hT.info
  have hw : IntKind.i64.wrap k = k := wrap_i64 (by omega) (by omega)
  refine OW.new hd (v := .slice (some ⟨w.heap.size, 0, none⟩) k.toNat k.toNat) (w1 := w.alloc (.cells (List.replicate k.toNat (z.cells[0]!)).toArray e)) (fun a r => ?_) (h _ _ (hO.alloc _))
  have hx' := r.e hx
  have hzs := hT.zsz
  have hb : ¬ (281474976710656 < (i.bytes : Int) * k) := by rw [hby, Int.mul_comm]; omega
  have hk0 : ¬ k < 0 := by omega
  have hnew : ∀ cs : Array Value, (newRow e cs).run P w = .ok ⟨w.heap.size, 0, none⟩ (w.alloc (.cells cs e)) := fun cs => by simp [newRow]
  have harr : 0 < k → Array.map (fun j => z.cells[j % z.cells.size]!) (Array.range k.toNat) = Array.replicate k.toNat (z.cells[0]!) := fun _ => by
    apply Array.ext'
    apply List.ext_getElem
    · simp
    · intro j h1 h2
      simp [hzs, Nat.mod_one]
  simp only [execOp, hx', Instr.makeSlice]
  simp [run_underlying hT.sl, asInt, asIntOf, typeInfo, hi, hw, hb, hk0, askRoom, sizeOf, hsz, zeroValue, hz, hnew]
  by_cases hk : k ≤ 0
  · obtain rfl : k = 0 := by omega
    have h0' : Array.map (fun _ : Nat => (default : Value)) (Array.range 0) = #[] := Array.eq_empty_of_size_eq_zero (by simp)
    simp [h0']
  · rw [if_neg hk, harr (by omega)]
end
end Go.Sd
