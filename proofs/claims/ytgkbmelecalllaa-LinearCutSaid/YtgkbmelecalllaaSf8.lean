/-
  An append to a slice that is full and that nobody writes: always to new memory.
-/
import Derived.Test.YtgkbmelecalllaaSf4
set_option linter.unusedSectionVars false
set_option linter.unusedSimpArgs false
set_option linter.unusedVariables false
namespace Go.Sd
open Go
variable [Str]
section
variable {P : Program} {n : Nat} {Q : Exit → Act → World → Prop} {env : Env} {w : World} {ty : TypeId} {pos : String} {aft : Array Edge} {g : Option (Nat × Bool)} {S : List Seg} {K : Env → World → Prop}
theorem OW.appendFull {α : Type} {t E sz by_ gi bi b len cap d : Nat} {z : Value} {enc : α → List Value} {G : Seg} {a : Option Addr} {xs : List α} {y0 : α} {x y : Operand} {cs : Array Value} {T : TypeId} {fr : Nat × Nat} (hT : ElemT P t E sz by_ z) (hd : Nat.blt d n = true) (hO : Own w S) (hgi : S[gi]? = some G) (hsl : Sl G sz enc a len cap xs)
    (hx : evo env x = some (.slice a len len)) (hy : evo env y = some (.slice (some ⟨b, 0, none⟩) 1 1)) (hb : S[bi]? = some [(b, .cells cs T fr)]) (hcs : cs.toList = enc y0) (hz : ∀ x ∈ xs ++ [y0], (enc x).length = sz) (hl : (xs.length + 1) * by_ ≤ 140737488355328) (hl2 : xs.length ≤ 4611686018427387904)
    (h : ∀ v s w', Own w' (s :: S) → Grow E sz enc v s (xs ++ [y0]) → K ((d, v) :: env) w') : OW P n Q ⟨some d, .call ⟨.builtin .append, #[x, y], #[t, t]⟩, ty, pos, aft, g⟩ env w K := by
  obtain ⟨i, hi, hsz, hbys, hzz⟩ := hT.info
  have hlen := hsl.hlen
  have hzx : ∀ x ∈ xs, (enc x).length = sz := fun x hx => hz x (by simp [hx])
  have hy0 : (enc y0).length = sz := hz y0 (by simp)
  have hnew : ∀ j v, (enc y0)[j]? = some v → w.cell? ((⟨b, 0, none⟩ : Addr).add j) = some v := fun j v hj => by
    rw [addr_add]
    refine hO.cell hb ?_
    rw [Nat.zero_add, ← Array.getElem?_toList, hcs]
    exact hj
  cases a with
  | none =>
    have hxs : xs = [] := by
      cases xs with
      | nil => rfl
      | cons x xs => obtain ⟨_, _, e, _⟩ := hsl.at_ 0 x rfl; cases e
    subst hxs
    subst hlen
    have hr := run_append_nil (P := P) w t ty E i z hT.sl hi hzz ⟨b, 0, none⟩ 1 1 (enc y0) (by rw [hy0, hsz, Nat.one_mul]) hnew (by omega) (by omega) (by rw [hbys]; simp at hl; omega)
    have hcut : 1 ≤ grownCap w 1 0 E := Nat.le_add_right _ _
    refine OW.new hd (fun _ r => R.append (r.e hx) (r.e hy) hr) (h _ _ _ ((hO.heap (w' := w.drew) rfl).alloc _) (.inr ⟨w.heap.size, grownCap w 1 0 E, (Builtin.zeroCells z.cells (grownCap w 1 0 E - 1)).toList, by simp, by simp, ?_, by simpa using hcut⟩))
    have := zeroCells_length z.cells (grownCap w 1 0 E - 1)
    simp only [List.nil_append, List.flatMap_cons, List.flatMap_nil, List.append_nil, hy0, Array.length_toList, this, hT.zsz]
    obtain ⟨m, hm⟩ : ∃ m, grownCap w 1 0 E = m + 1 := ⟨grownCap w 1 0 E - 1, by omega⟩
    rw [hm, Nat.succ_mul]; simp; omega
  | some ad =>
    have hold : ∀ j v, (xs.flatMap enc)[j]? = some v → w.cell? (ad.add j) = some v := by
      intro j v hj
      cases xs with
      | nil => simp at hj
      | cons x xs =>
        obtain ⟨b', o', e, hc⟩ := hsl.cells hzx (by simp)
        cases e
        rw [addr_add]
        exact hO.pc hgi (hc j v hj)
    have hfx := flat_length hzx
    have hr := run_append_grow (P := P) w t ty E i z hT.sl hi hzz ad len len (xs.flatMap enc) (by rw [hfx, hlen, hsz]) hold ⟨b, 0, none⟩ 1 1 (enc y0) (by rw [hy0, hsz, Nat.one_mul]) hnew (by omega) (by omega) (growslice_fits (by omega) (by rw [hbys, hlen]; exact hl))
    have hcut : len + 1 ≤ grownCap w (len + 1) len E := Nat.le_add_right _ _
    refine OW.new hd (fun _ r => R.append (r.e hx) (r.e hy) hr) (h _ _ _ ((hO.heap (w' := w.drew) rfl).alloc _) (.inr ⟨w.heap.size, grownCap w (len + 1) len E, (Builtin.zeroCells z.cells (grownCap w (len + 1) len E - (len + 1))).toList, by simp [hlen], by simp, ?_, by simpa [hlen] using hcut⟩))
    have := zeroCells_length z.cells (grownCap w (len + 1) len E - (len + 1))
    simp only [List.flatMap_append, List.length_append, List.flatMap_cons, List.flatMap_nil, List.append_nil, hfx, hy0, Array.length_toList, this, hT.zsz]
    rw [← hlen]
    generalize grownCap w (len + 1) len E = q at hcut ⊢
    obtain ⟨m, rfl⟩ : ∃ m, q = len + 1 + m := ⟨q - (len + 1), by omega⟩
    rw [Nat.add_sub_cancel_left, Nat.add_mul, Nat.add_mul, Nat.one_mul]
end
theorem Grow.lecap {α : Type} {E sz : Nat} {enc : α → List Value} {b len cap : Nat} {s : Seg} {xs : List α} (h : Grow E sz enc (.slice (some ⟨b, 0, none⟩) len cap) s xs) : xs.length ≤ cap := by
  obtain ⟨rest, _, _, _, h4⟩ := h.parts
  exact h4
end Go.Sd
