/-
  A slice of trues, by doubling: what slices.Repeat does.
-/
import Derived.Test.YtgkbmelecalllaaSf3
import Derived.Test.YtgkbmelecalllaaSf4
set_option linter.unusedSectionVars false
set_option linter.unusedSimpArgs false
set_option linter.unusedVariables false
namespace Go.Sd
open Go Go.Proofs
variable [Str]
theorem flatB (l : List Bool) : l.flatMap encB = l.map Value.bool := by
  induction l with
  | nil => rfl
  | cons b l ih => rw [List.flatMap_cons, ih]; rfl
theorem fillB_cells {k n m : Nat} {rest : List Value} (h : n + m ≤ k) : setCells (((fillB k n).flatMap encB ++ rest).toArray) n (List.replicate m (Value.bool true)) = ((fillB k (n + m)).flatMap encB ++ rest).toArray := by
  rw [flatB, flatB]
  have e1 : (fillB k n).map Value.bool ++ rest = (List.replicate n (Value.bool true) ++ List.replicate m (Value.bool false)) ++ (List.replicate (k - (n + m)) (Value.bool false) ++ rest) := by
    unfold fillB
    rw [show k - n = m + (k - (n + m)) by omega, ← List.replicate_append_replicate]
    simp only [List.map_append, List.map_replicate, List.append_assoc]
  have e2 : (fillB k (n + m)).map Value.bool ++ rest = (List.replicate n (Value.bool true) ++ List.replicate m (Value.bool true)) ++ (List.replicate (k - (n + m)) (Value.bool false) ++ rest) := by
    unfold fillB
    rw [← List.replicate_append_replicate]
    simp only [List.map_append, List.map_replicate, List.append_assoc]
  have := setCells_list (List.replicate m (Value.bool true)) (List.replicate n (Value.bool true)) (List.replicate m (Value.bool false)) (List.replicate (k - (n + m)) (Value.bool false) ++ rest) (by simp)
  rw [List.length_replicate] at this
  rw [e1, this, e2]
section
variable {P : Program} {n : Nat} {Q : Exit → Act → World → Prop} {env : Env} {w : World} {ty : TypeId} {pos : String} {aft : Array Edge} {g : Option (Nat × Bool)} {S : List Seg} {K : Env → World → Prop} {i b : Nat}
theorem OW.copyFill {t t2 e : TypeId} {x y : Operand} {d len cap k p m ld cd ls lc : Nat} {E : Nat} {s : Seg} {a : Option Addr} (hd : Nat.blt d n = true) (hO : Own w S) (hi : S[i]? = some s) (hG : Grow E 1 encB (.slice (some ⟨b, 0, none⟩) len cap) s (fillB k p)) (hp : p + m ≤ k) (hx : evo env x = some (.slice (some ⟨b, p, none⟩) ld cd)) (hy : evo env y = some (.slice a ls lc))
    (ht : ∀ w, (underlying t).run P w = .ok (.slice e) w) (ht2 : ∀ w, (underlying t2).run P w = .ok (.slice e) w) (hz : ∀ w, (sizeOf e).run P w = .ok 1 w) (hm : m = min ls ld) (ha : 0 < m → ∃ b' o', a = some ⟨b', o', none⟩ ∧ ∀ j, j < m → w.cell? ⟨b', o' + j, none⟩ = some (.bool true))
    (h : ∀ w' s', Grow E 1 encB (.slice (some ⟨b, 0, none⟩) len cap) s' (fillB k (p + m)) → Own w' (S.set i s') → K ((d, .int .i64 m) :: env) w') : OW P n Q ⟨some d, .call ⟨.builtin .copy, #[x, y], #[t, t2]⟩, ty, pos, aft, g⟩ env w K := by
  obtain ⟨rest, hlen, rfl, hl, hle⟩ := hG.parts
  have hfl : (fillB k p).length = k := fillB_len (by omega)
  have hfl2 : (fillB k (p + m)).length = k := fillB_len (by omega)
  refine OW.copy (vs := List.replicate m (Value.bool true)) hd hO hi hx hy ht ht2 hz hm (by simp) (fun h0 => ?_) (fun v hv => ?_) ?_ (fun w' hO' => h w' _ ?_ hO')
  · obtain ⟨b', o', e, hc⟩ := ha h0
    refine ⟨b', o', e, fun j u hj => ?_⟩
    have hj2 := (List.getElem?_eq_some_iff.1 hj).1
    rw [List.length_replicate] at hj2
    rw [List.getElem?_replicate, if_pos hj2] at hj
    cases hj
    exact hc j hj2
  · obtain ⟨_, rfl⟩ := List.mem_replicate.1 hv; rfl
  · rw [flatB]; simp [hfl]; omega
  · rw [fillB_cells hp]
    refine .inr ⟨b, cap, rest, by rw [hlen, hfl, hfl2], rfl, ?_, by rw [hfl2, ← hfl]; exact hle⟩
    rw [flatB] at hl ⊢
    simp only [List.length_map, hfl, hfl2] at hl ⊢
    exact hl
theorem fill_src {k p m E len cap : Nat} {s : Seg} (hO : Own w S) (hi : S[i]? = some s) (hG : Grow E 1 encB (.slice (some ⟨b, 0, none⟩) len cap) s (fillB k p)) (hm : m ≤ p) (hk : p ≤ k) : 0 < m → ∃ b' o', (some ⟨b, 0, none⟩ : Option Addr) = some ⟨b', o', none⟩ ∧ ∀ j, j < m → w.cell? ⟨b', o' + j, none⟩ = some (.bool true) := fun _ =>
  ⟨b, 0, rfl, fun j hj => by
    have := hG.cellAt (k := j) (j := 0) (x := true) (u := .bool true) hO hi (fun _ _ => rfl) (by unfold fillB; rw [List.getElem?_append_left (by simp; omega), List.getElem?_replicate, if_pos (by omega)]) rfl
    simpa using this⟩
end
end Go.Sd
