/-
  slices.Sorted(maps.Keys(m)) at this program's maps, by the shelf's contracts, in this seat's words.
-/
import Derived.Test.YtgkbmelecalllaaSd6
import Derived.Shelf.SlIterI.Nil
import Derived.Shelf.SortM.Plain
import Derived.Shelf.SortM.SortNone
set_option linter.unusedSectionVars false
set_option linter.unusedSimpArgs false
set_option linter.unusedVariables false
namespace Go.Sd
open Go Go.Proofs
open Go.RowKit Go.Maps
open Go.WideElems (Fit rd rg)
variable [Str]

/-- How an entry's value reads: not at all. -/
def readNil : Value → Option (DataW Unit × List MemPlace) := fun _ => some (.nil, [])
theorem rg_int {P : Program} {K : TypeId} (hK : P.underlying K = some (.int .i64)) {e : Ent} (h : (Lit.int .i64 e.1).wf = true) : rd P K readNil (ment e) = some (.int .i64 e.1, .nil) := by
  simp [rd, readNil, ment, keyOf, hK, mapKey, h]
theorem ownsMap_of {P : Program} {K : TypeId} (hK : P.underlying K = some (.int .i64)) {w : World} {b c : Nat} {E : List Ent} (hb : w.heap[b]? = some (mobj E c)) (hc : ∀ e ∈ E, e.2.2 < c) (hnb : (E.map (·.2.2)).Nodup) (hnk : (E.map (·.1)).Nodup)
    (hw : ∀ e ∈ E, (Lit.int .i64 e.1).wf = true) (hs : E.length ≤ maxLen) : ∃ D : DataW Unit, w.ownsMap P K readNil b E.length D ∧ (intKeys D).Perm (E.map (·.1)) ∧ Maps.size D = E.length := by
  refine ⟨_, ⟨_, c, hb, ⟨by simpa using hs, ⟨?_, ?_, ?_⟩, ?_⟩, by simp, rfl⟩, ?_, ?_⟩
  · intro x hx
    simp only [List.mem_map] at hx
    obtain ⟨e, he, rfl⟩ := hx
    exact hc e he
  · simpa [Function.comp_def, ment] using hnb
  · have : (E.map (fun e => Value.int .i64 e.1)).Nodup := by
      exact List.pairwise_map.2 ((List.pairwise_map.1 hnk).imp (fun h e => h (by injection e)))
    simpa [Function.comp_def, ment] using this
  · intro x hx
    simp only [List.mem_map] at hx
    obtain ⟨e, he, rfl⟩ := hx
    exact ⟨_, rg_int hK (hw e he)⟩
  · have hp := (Go.WideShapes.sorted_perm (((E.map ment).toArray.toList).map (rg P K readNil))).map (fun p => intOf p.1)
    refine hp.trans (List.Perm.of_eq ?_)
    simp only [List.map_map]
    apply List.map_congr_left
    intro e he
    simp [Function.comp_def, rg, rg_int hK (hw e he), intOf]
  · simp [Maps.size, length_sorted]

/-- What is told of a map whose keys are sorted. -/
structure KeysOk (E : List Ent) (c : Nat) : Prop where
  c_ : ∀ e ∈ E, e.2.2 < c
  b_ : (E.map (·.2.2)).Nodup
  k_ : (E.map (·.1)).Nodup
  w_ : ∀ e ∈ E, -9223372036854775808 ≤ e.1 ∧ e.1 ≤ 9223372036854775807
  n_ : E.length ≤ 1000000
theorem KeysOk.wf {E : List Ent} {c : Nat} (h : KeysOk E c) : ∀ e ∈ E, (Lit.int .i64 e.1).wf = true := fun e he => by
  have := h.w_ e he
  simp [Lit.wf, IntKind.min, IntKind.max, IntKind.bits, IntKind.signed]
  omega
theorem Own.below {w w' : World} {S : List Seg} (h : Own w S) (hb : Below w.heap.size w w') : Own w' S :=
  ⟨h.1, fun p hp => (hb.block p.1 (h.lt hp)).trans (h.2 p hp), by rw [hb.os, hb.output]; exact h.3⟩
theorem Own.newcells {w w' : World} {S : List Seg} (h : Own w S) (hb : Below w.heap.size w w') {b : Nat} {o : Obj} (hg : w'.heap[b]? = some o) (hl : w.heap.size ≤ b) : Own w' ([(b, o)] :: S) := by
  have h' := h.below hb
  refine ⟨?_, ?_, h'.3⟩
  · simp only [List.flatten_cons, List.cons_append, List.nil_append, List.map_cons]
    refine List.nodup_cons.2 ⟨fun hm => ?_, h'.1⟩
    obtain ⟨p, hp, e⟩ := List.mem_map.1 hm
    have := h.lt hp
    omega
  · intro p hp
    simp only [List.flatten_cons, List.cons_append, List.nil_append] at hp
    rcases List.mem_cons.1 hp with rfl | hp
    · exact hg
    · exact h'.2 p hp
theorem flat_encZ : ∀ l : List Int, l.flatMap (fun x => [Value.int .i64 x]) = l.map encZ
  | [] => rfl
  | x :: l => by rw [List.flatMap_cons, flat_encZ l]; rfl
/-- A slice of the call's own. -/
theorem grow_of_row {w : World} {base : Nat} {v : Value} {ys : List Int} (h : w.ownsRow base 3 1 v ys.length (ys.map encZ)) : (v = .slice none 0 0 ∧ ys = []) ∨ ∃ b o, base ≤ b ∧ w.heap[b]? = some o ∧ Grow 3 1 (fun x => [Value.int .i64 x]) v [(b, o)] ys := by
  rcases h.2 with ⟨rfl, h0⟩ | ⟨b, cap, cur, rfl, hb, hg, h1, _, h3, h4⟩
  · exact .inl ⟨rfl, List.eq_nil_of_length_eq_zero h0⟩
  · refine .inr ⟨b, _, hb, hg, .inr ⟨b, cap, cur.toList.drop ys.length, rfl, ?_, ?_, h1⟩⟩
    · rw [flat_encZ, ← h4, Nat.mul_one, List.take_append_drop]
    · rw [flat_length (sz := 1) (fun _ _ => rfl)]
      simp at h3 ⊢
      omega
theorem leI_eq (l : List Int) : l.mergeSort (fun x y => decide (x ≤ y)) = l.mergeSort leI := rfl

theorem sorted_of {P : Program} {K g bx b c f : Nat} {E : List Ent} {S : List Seg} {w : World} {bT : Nat} (hO : Own w ([(bx, .cells #[.map (some b)] bT (0, 0))] :: [(b, mobj E c)] :: S)) (hK : P.underlying K = some (.int .i64)) (hE : KeysOk E c)
    (cS : ∀ (D : DataW Unit) (nn : Nat), w.ownsMap P K readNil b nn D → Maps.size D ≤ maxLen → Maps.size D * 8 ≤ 140737488355328 → CallsIn Fence.wide 5 P f #[.func (.func g) #[] #[.pointer (some ⟨bx, 0, none⟩)]] w fun e w' => ∃ (v : Value) (ss : List Int), e = .returned v ∧ ss.Perm (intKeys D) ∧
      w'.ownsRow w.heap.size 3 1 v ss.length ((ss.mergeSort (fun x y => decide (x ≤ y))).map encZ) ∧ (v = .slice none 0 0 ↔ ss = []) ∧ Below w.heap.size w w') :
    Calls P f #[.func (.func g) #[] #[.pointer (some ⟨bx, 0, none⟩)]] w (Ret fun v w' => ∃ s, Grow 3 1 (fun x => [Value.int .i64 x]) v s ((E.map (·.1)).mergeSort leI) ∧ Own w' (s :: [(bx, .cells #[.map (some b)] bT (0, 0))] :: [(b, mobj E c)] :: S)) := by
  have hn := hE.n_
  obtain ⟨D, hD, hp, hs⟩ := ownsMap_of hK (hO.get (i := 1) rfl) hE.c_ hE.b_ hE.k_ hE.wf (by unfold maxLen; omega)
  refine ((callsIn_wide (n := 5)).1 (cS D _ hD (by rw [hs]; unfold maxLen; omega) (by rw [hs]; omega))).mono ?_
  rintro e w' ⟨v, ss, rfl, hS, hrow, hnil, hb⟩
  have hm : ss.mergeSort (fun x y => decide (x ≤ y)) = (E.map (·.1)).mergeSort leI := mergeSort_of_perm_i (hS.trans hp)
  rw [hm] at hrow
  have hl : ss.length = ((E.map (·.1)).mergeSort leI).length := by rw [← hm]; simp
  rw [hl] at hrow
  rcases grow_of_row hrow with ⟨rfl, h0⟩ | ⟨b', o, hb', hg, hG⟩
  · exact ⟨[], by rw [h0]; exact Grow.start, (hO.below hb).nil⟩
  · exact ⟨_, hG, hO.newcells hb hg hb'⟩
end Go.Sd
