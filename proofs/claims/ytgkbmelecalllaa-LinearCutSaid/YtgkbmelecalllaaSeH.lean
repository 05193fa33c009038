/-
  Handles of a history: sorted, and each once, in both texts.
-/
import Derived.Test.YtgkbmelecalllaaSe4
import Derived.Test.YtgkbmelecalllaaSeQ
set_option linter.unusedSectionVars false
set_option linter.unusedSimpArgs false
set_option linter.unusedVariables false
namespace Go.Sd
open Go Go.Proofs
variable [Str]

theorem Own.grown {w : World} {S : List Seg} (h : Own w S) (os : Array Obj) : Own (Go.Sort.grow w os) S :=
  ⟨h.1, fun p hp => by
    show (w.heap ++ os)[p.1]? = some p.2
    rw [Array.getElem?_append, if_pos (h.lt hp)]
    exact h.2 p hp, h.3⟩
theorem putCells_row (zs ys : List Int) (rest : List Value) (h : ys.length = zs.length) : Go.Sort.putCells (Value.int .i64) 0 ys.toArray (zs.flatMap encI ++ rest).toArray = (ys.flatMap encI ++ rest).toArray := by
  have hz : (zs.flatMap encI).length = zs.length := by rw [flat_length (sz := 1) (fun _ _ => rfl)]; simp
  have hy : (ys.flatMap encI).length = ys.length := by rw [flat_length (sz := 1) (fun _ _ => rfl)]; simp
  apply Array.ext
  · simp only [Go.Sort.putCells, Array.size_mapIdx, List.size_toArray, List.length_append, hz, hy, h]
  · intro k h1 h2
    simp only [Go.Sort.putCells, Array.getElem_mapIdx, List.size_toArray, Nat.zero_add, Nat.zero_le, true_and, Nat.sub_zero, List.getElem_toArray]
    split
    · rename_i hk
      rw [List.getElem_append_left (by omega)]
      have e1 : ys[k]? = some ys[k] := List.getElem?_eq_getElem hk
      have := flat_at (enc := encI) (sz := 1) (xs := ys) (j := 0) (v := .int .i64 ys[k]) (fun _ _ => rfl) e1 rfl
      simp only [Nat.mul_one, Nat.add_zero] at this
      rw [List.getElem?_eq_getElem (by omega)] at this
      simp only [Option.some.injEq] at this
      rw [this]
      simp [hk]
    · rename_i hk
      rw [List.getElem_append_right (by omega), List.getElem_append_right (by omega)]
      simp only [hz, hy, h]
theorem Own.putRow {w : World} {S : List Seg} {b E : Nat} {zs ys : List Int} {rest : List Value} {n : Nat} {os : Array Obj} (hO : Own w ([(b, .cells (zs.flatMap encI ++ rest).toArray E (0, 0))] :: S)) (h : ys.length = zs.length) :
    Own (Go.Sort.grow (Go.Sort.putRow (Value.int .i64) (Go.Sort.ahead w n) b 0 ys.toArray) os) ([(b, .cells (ys.flatMap encI ++ rest).toArray E (0, 0))] :: S) := by
  refine Own.grown ?_ os
  have hg := hO.get (i := 0) rfl
  refine hO.turn (i := 0) rfl ?_ (fun k hk => ?_)
  · simp only [Go.Sort.putRow, Go.Sort.mapBlock, Go.Sort.ahead, Array.getElem?_modify, if_true, hg, Option.map_some, Go.Sort.onCells, putCells_row zs ys rest h]
  · simp only [Go.Sort.putRow, Go.Sort.mapBlock, Go.Sort.ahead, Array.getElem?_modify]
    rw [if_neg (fun e => hk e.symm)]
theorem holds_row {w : World} {S : List Seg} {b E : Nat} {zs : List Int} {rest : List Value} (hO : Own w ([(b, .cells (zs.flatMap encI ++ rest).toArray E (0, 0))] :: S)) : Go.Sort.Holds (Value.int .i64) w b 0 zs.toArray := by
  intro j hj
  have hj' : j < zs.length := by simpa using hj
  have e1 : zs[j]? = some zs[j] := List.getElem?_eq_getElem hj'
  have h1 := flat_at (enc := encI) (sz := 1) (xs := zs) (j := 0) (v := .int .i64 zs[j]) (fun _ _ => rfl) e1 rfl
  simp only [Nat.mul_one, Nat.add_zero] at h1
  have h2 := (List.getElem?_eq_some_iff.1 h1).1
  refine ⟨hO.cell (i := 0) rfl ?_, hO.frozen (i := 0) rfl⟩
  simp only [List.getElem?_toArray, Nat.zero_add]
  rw [List.getElem?_append_left h2, h1]
  simp [hj']

theorem h_sort {s F : Seg} {v : Value} {zs : List Int} {w : World} (hg : Grow 3 1 encI v s zs) (hn : zs.length ≤ 1000000) (hO : Own w [s, F]) :
    Calls Try.prog 39 [v].toArray w (Ret fun u w' => ∃ s', Grow 3 1 encI v s' (zs.mergeSort fun x y => decide (x ≤ y)) ∧ Own w' [s', F]) := by
  rcases hg with ⟨rfl, rfl, rfl⟩ | ⟨b, cap, rest, rfl, rfl, hl, hle⟩
  · refine (AnyM.slices_Sort_int_none Try.srt none 0 w).mono ?_
    rintro e w' ⟨rfl, rfl⟩
    exact ⟨[], by simpa using Grow.start, hO⟩
  · refine (AnyM.slices_Sort_int Try.srt b 0 cap zs w (holds_row hO) (hO.lt (p := (b, _)) (by simp only [List.flatten_cons]; exact List.mem_append_left _ (List.mem_singleton.2 rfl))) (by omega)).mono ?_
    rintro e w' ⟨rfl, n, os, rfl⟩
    refine ⟨_, .inr ⟨b, cap, rest, by simp, rfl, ?_, by simpa using hle⟩, hO.putRow (by simp)⟩
    rw [flat_length (sz := 1) (fun _ _ => rfl)] at hl ⊢
    simpa using hl
theorem compact_len (zs : List Int) : (Go.Lib.compact zs).length ≤ zs.length := by
  unfold Go.Lib.compact Go.Lib.compactUpTo
  rw [List.length_map]
  exact Nat.le_trans (List.length_filter_le _ _) (by simp)
theorem compact_mem (zs : List Int) (x : Int) : x ∈ Go.Lib.compact zs ↔ x ∈ zs := by
  unfold Go.Lib.compact Go.Lib.compactUpTo
  simp only [List.mem_map, List.mem_filter, List.mem_range]
  constructor
  · rintro ⟨j, ⟨hj, _⟩, rfl⟩
    simp [hj]
  · intro hx
    obtain ⟨j, hj, rfl⟩ := List.getElem_of_mem hx
    induction j using Nat.strongRecOn with
    | _ j ih =>
      by_cases hk : Go.Lib.keeps zs.toArray j = true
      · exact ⟨j, ⟨hj, hk⟩, by simp [hj]⟩
      · have h0 : j ≠ 0 := fun h => hk (by subst h; simp [Go.Lib.keeps])
        have h1 : zs[j] = zs[j - 1] := by
          by_cases h : zs[j] = zs[j - 1]
          · exact h
          · exact absurd (by simp [Go.Lib.keeps, hj, show j - 1 < zs.length by omega]; exact .inr h) hk
        obtain ⟨k, h2, h3⟩ := ih (j - 1) (by omega) (by omega) (List.getElem_mem _)
        exact ⟨k, h2, by rw [h3, h1]⟩
theorem h_compact {s F : Seg} {v : Value} {zs : List Int} {w : World} (hg : Grow 3 1 encI v s zs) (hn : zs.length ≤ 1000000) (hO : Own w [s, F]) :
    Calls Try.prog 40 [v].toArray w (Ret fun u w' => ∃ s', Grow 3 1 encI u s' (Go.Lib.compact zs) ∧ Own w' [s', F]) := by
  rcases hg with ⟨rfl, rfl, rfl⟩ | ⟨b, cap, rest, rfl, rfl, hl, hle⟩
  · refine (AnyG.slices_Compact_int_empty Try.cpt none 0 w).mono ?_
    rintro e w' ⟨rfl, rfl⟩
    exact ⟨[], by simpa [Go.Lib.compact, Go.Lib.compactUpTo] using Grow.start, hO⟩
  · refine (AnyG.slices_Compact_int Try.cpt b 0 cap zs w (holds_row hO) (by omega) hle).mono ?_
    rintro e w' ⟨rfl, q, rfl⟩
    have hc := compact_len zs
    have hO' := hO.putRow (n := q) (os := #[]) (ys := Go.Lib.compact zs ++ List.replicate (zs.length - (Go.Lib.compact zs).length) 0) (by simp; omega)
    rw [Go.Sort.grow_empty] at hO'
    refine ⟨_, .inr ⟨b, cap, (List.replicate (zs.length - (Go.Lib.compact zs).length) (0 : Int)).flatMap encI ++ rest, rfl, ?_, ?_, by omega⟩, hO'⟩
    · rw [List.flatMap_append, List.append_assoc]
    · rw [List.length_append, flat_length (enc := encI) (sz := 1) (fun _ _ => rfl), flat_length (enc := encI) (sz := 1) (fun _ _ => rfl)]
      rw [flat_length (sz := 1) (fun _ _ => rfl)] at hl
      simp
      omega

/-! ### what a history's handles are -/
def hOf (e : Ev) : Int := if e.back then e.num else e.h
/-- The document's insertion, step by step. -/
def insS (h k : Int) : List Int × Bool → List Int × Bool
  | (out, laid) =>
    let r := if laid = false ∧ h ≤ k then (out ++ [h], true) else (out, laid)
    if k = h then r else (r.1 ++ [k], r.2)
def insI (h : Int) (T : List Int) : Nat → List Int × Bool
  | 0 => ([], false)
  | i + 1 => match T[i]? with
    | some k => insS h k (insI h T i)
    | none => insI h T i
theorem insI_succ {h k : Int} {T : List Int} {i : Nat} (hk : T[i]? = some k) : insI h T (i + 1) = insS h k (insI h T i) := by simp [insI, hk]
theorem insI_mem {h : Int} {T : List Int} : ∀ {i : Nat} {out : List Int} {laid : Bool}, insI h T i = (out, laid) → i ≤ T.length → (∀ x, x ∈ out ↔ (laid = true ∧ x = h) ∨ (x ∈ T.take i ∧ x ≠ h)) ∧ out.length ≤ i + (if laid then 1 else 0)
  | 0, out, laid, he, _ => by
    simp only [insI, Prod.mk.injEq] at he
    obtain ⟨rfl, rfl⟩ := he
    simp
  | i + 1, out, laid, he, hi => by
    have hk : T[i]? = some T[i] := List.getElem?_eq_getElem (by omega)
    rw [insI_succ hk] at he
    rcases h0 : insI h T i with ⟨o, b⟩
    obtain ⟨hm, hl⟩ := insI_mem h0 (by omega)
    rw [h0] at he
    have ht : ∀ x, x ∈ T.take (i + 1) ↔ x ∈ T.take i ∨ x = T[i] := fun x => by rw [List.take_succ_eq_append_getElem (show i < T.length by omega), List.mem_append, List.mem_singleton]
    generalize T[i] = k at he ht
    unfold insS at he
    dsimp only at he
    refine ⟨fun x => ?_, ?_⟩
    · rw [ht]
      have hx := hm x
      split at he <;> split at he <;> simp only [Prod.mk.injEq] at he <;> obtain ⟨rfl, rfl⟩ := he <;> (try simp only [List.mem_append, List.mem_singleton, hx]) <;> rename_i h1 h2 <;> grind
    · split at he <;> split at he <;> simp only [Prod.mk.injEq] at he <;> obtain ⟨rfl, rfl⟩ := he <;> rename_i h1 h2 <;> (try simp only [List.length_append, List.length_singleton]) <;> grind
def insT (h : Int) (T : List Int) : List Int := if (insI h T T.length).2 then (insI h T T.length).1 else (insI h T T.length).1 ++ [h]
theorem insT_mem (h : Int) (T : List Int) : (∀ x, x ∈ insT h T ↔ x = h ∨ x ∈ T) ∧ (insT h T).length ≤ T.length + 1 := by
  rcases h0 : insI h T T.length with ⟨o, b⟩
  obtain ⟨hm, hl⟩ := insI_mem h0 (Nat.le_refl _)
  unfold insT
  rw [h0]
  dsimp only
  rw [List.take_length] at hm
  refine ⟨fun x => ?_, ?_⟩
  · have hx := hm x
    cases b
    · simp only [Bool.false_eq_true, if_false, List.mem_append, List.mem_singleton, hx, false_and, false_or]
      constructor
      · rintro (⟨h3, _⟩ | h3)
        · exact .inr h3
        · exact .inl h3
      · rintro (h3 | h3)
        · exact .inr h3
        · by_cases h4 : x = h
          · exact .inr h4
          · exact .inl ⟨h3, h4⟩
    · simp only [if_true, hx, true_and]
      constructor
      · rintro (h3 | ⟨h3, _⟩)
        · exact .inl h3
        · exact .inr h3
      · rintro (h3 | h3)
        · exact .inl h3
        · by_cases h4 : x = h
          · exact .inl h4
          · exact .inr ⟨h3, h4⟩
  · cases b
    · simp at hl ⊢; omega
    · simpa using hl
theorem insT_eq {h : Int} {T o : List Int} {b : Bool} {k : Nat} (hp : insI h T k = (o, b)) (hk : k = T.length) : insT h T = if b then o else o ++ [h] := by subst hk; simp [insT, hp]
def handR (l : List Ev) : Nat → List Int
  | 0 => []
  | i + 1 => match l[i]? with
    | some e => insT (hOf e) (handR l i)
    | none => handR l i
theorem handR_succ {l : List Ev} {i : Nat} {e : Ev} (h : l[i]? = some e) : handR l (i + 1) = insT (hOf e) (handR l i) := by simp [handR, h]
theorem handR_mem (l : List Ev) : ∀ i, i ≤ l.length → (∀ x, x ∈ handR l i ↔ x ∈ (l.take i).map hOf) ∧ (handR l i).length ≤ i
  | 0, _ => by simp [handR]
  | i + 1, hi => by
    obtain ⟨h1, h2⟩ := handR_mem l i (by omega)
    have hk : l[i]? = some l[i] := List.getElem?_eq_getElem (by omega)
    rw [handR_succ hk]
    obtain ⟨h3, h4⟩ := insT_mem (hOf l[i]) (handR l i)
    refine ⟨fun x => ?_, by omega⟩
    rw [h3, h1, List.take_succ_eq_append_getElem (by omega)]
    simp only [List.map_append, List.mem_append, List.map_cons, List.map_nil, List.mem_singleton]
    exact Or.comm
/-- What the program makes of them. -/
def handV (l : List Ev) : List Int := Go.Lib.compact ((l.map hOf).mergeSort fun x y => decide (x ≤ y))
theorem handV_mem (l : List Ev) : (∀ x, x ∈ handV l ↔ x ∈ l.map hOf) ∧ (handV l).length ≤ l.length := by
  refine ⟨fun x => ?_, Nat.le_trans (compact_len _) (by simp)⟩
  rw [handV, compact_mem]
  exact (List.mergeSort_perm _ _).mem_iff
theorem hand_same (l : List Ev) (x : Int) : x ∈ handV l ↔ x ∈ handR l l.length := by
  rw [(handV_mem l).1, (handR_mem l _ (Nat.le_refl _)).1, List.take_length]
end Go.Sd
