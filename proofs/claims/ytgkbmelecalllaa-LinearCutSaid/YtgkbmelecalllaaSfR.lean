/-
  From the rows' words to the walks': the arguments opened, the end shut.
-/
import Derived.Test.YtgkbmelecalllaaSfA
import Derived.Test.YtgkbmelecalllaaRows
import Derived.ProofKit
import Derived.Deep.Slices
import Derived.Deep.Strs
set_option linter.unusedSimpArgs false
set_option linter.unusedVariables false
set_option linter.unusedSectionVars false
namespace Go.Proofs.Ytgkbmelecalllaa
open Go.ChangeShapes Go.WideShapes Go.ChangeAt Go.RowKit Go.Sd

theorem own_ : ownKnob Try.prog.godebug = none := by kernel_rfl
theorem laid_ : laidOutB Try.prog = true := by kernel_rfl

/-- All that lies in a world. -/
def allF (W : World) : Seg := (List.range W.heap.size).map fun i => (i, W.heap.getD i default)
theorem allF_mem {W : World} {b : Nat} {o : Obj} (h : W.heap[b]? = some o) : (b, o) ∈ allF W := by
  have hl := (Array.getElem?_eq_some_iff.1 h).1
  refine List.mem_map.2 ⟨b, List.mem_range.2 hl, ?_⟩
  rw [Array.getD_eq_getD_getElem?, h]
  rfl
/-- The streams, as they stand at the outset. -/
abbrev strOf (W : World) : Str := ⟨W.os, W.output⟩
theorem own_all (W : World) : @Go.Sd.Own (strOf W) W [allF W] := by
  letI := strOf W
  refine ⟨?_, ?_, rfl, rfl⟩
  · simp only [List.flatten_cons, List.flatten_nil, List.append_nil, allF, List.map_map]
    have : ((fun x : Nat × Obj => x.1) ∘ fun i => (i, W.heap.getD i default)) = id := rfl
    rw [this, List.map_id]
    exact List.nodup_range
  · intro p hp
    simp only [List.flatten_cons, List.flatten_nil, List.append_nil, allF] at hp
    obtain ⟨i, hi, rfl⟩ := List.mem_map.1 hp
    have hl := List.mem_range.1 hi
    simp [Array.getD_eq_getD_getElem?, hl]
theorem block_of {W W' : World} (h : @Go.Sd.Own (strOf W) W' [allF W]) {i : Nat} (hi : i < W.heap.size) : W'.heap[i]? = W.heap[i]? := by
  letI := strOf W
  have h1 : W.heap[i]? = some W.heap[i] := Array.getElem?_eq_getElem hi
  rw [h1]
  exact h.2 (i, W.heap[i]) (by simpa using allF_mem h1)
theorem kept_of {W W' : World} (h : @Go.Sd.Own (strOf W) W' [allF W]) (may : MemPlace → Prop) : W.keptBut W' may := by
  letI := strOf W
  refine ⟨h.s.1, h.s.2, fun i hi => ?_⟩
  rw [block_of h hi]
  split <;> simp_all
theorem sameAt_of {W W' : World} (h : @Go.Sd.Own (strOf W) W' [allF W]) {p : MemPlace} (hp : p.block < W.heap.size) : W.sameAt W' p := by
  cases p with
  | cell b o => exact World.cell?_of_block (w := W) (block_of h hp)
  | map b => exact block_of h hp

section
variable {H : Type} {enc : TypeId × Value → H} {W : World} {base : Nat} {sp : Nat → Bool} {held : Bool}
theorem i64_wf {n : Int} (h : (Lit.int .i64 n).wf = true) : -9223372036854775808 ≤ n ∧ n ≤ 9223372036854775807 := by
  simp [Lit.wf, IntKind.min, IntKind.max, IntKind.bits, IntKind.signed] at h
  omega
set_option maxRecDepth 100000 in
/-- An op's four numbers. -/
theorem op_cells {fuel : Nat} {cs : List Value} {x : DataW H × List MemPlace} (h : DataW.trod enc Try.prog W base sp held fuel 36 cs = some x) : ∃ q : Op4, cs = encO q ∧ I64 q.h := by
  obtain ⟨xs, n, _, rfl, hl, hlen, hf⟩ := DataW.trod_struct Try.underlying36 h
  have c3 : Try.prog.cellsOf 3 = 1 := by kernel_rfl
  have c39 : Try.prog.cellsOf 36 = 4 := by kernel_rfl
  rw [c39] at hl
  match xs, hlen, cs, hl with
  | [y0, y1, y2, y3], _, [v0, v1, v2, v3], _ =>
    have e0 : DataW.trod enc Try.prog W base sp held n 3 [v0] = some y0 := by simpa [c3] using hf 0 _ rfl
    have e1 : DataW.trod enc Try.prog W base sp held n 3 [v1] = some y1 := by simpa [c3] using hf 1 _ rfl
    have e2 : DataW.trod enc Try.prog W base sp held n 3 [v2] = some y2 := by simpa [c3] using hf 2 _ rfl
    have e3 : DataW.trod enc Try.prog W base sp held n 3 [v3] = some y3 := by simpa [c3] using hf 3 _ rfl
    obtain ⟨n0, h0, _, w0⟩ := DataW.trod_int (x := y0) Try.underlying3 e0
    obtain ⟨n1, h1, _, w1⟩ := DataW.trod_int (x := y1) Try.underlying3 e1
    obtain ⟨n2, h2, _, w2⟩ := DataW.trod_int (x := y2) Try.underlying3 e2
    obtain ⟨n3, h3, _, w3⟩ := DataW.trod_int (x := y3) Try.underlying3 e3
    simp at h0 h1 h2 h3
    subst h0 h1 h2 h3
    exact ⟨⟨n0, n1, n2, n3⟩, rfl, i64_wf w1⟩
set_option maxRecDepth 100000 in
theorem res_cells {fuel : Nat} {cs : List Value} {x : DataW H × List MemPlace} (h : DataW.trod enc Try.prog W base sp held fuel 39 cs = some x) : ∃ q : Int × Int, cs = encR q ∧ I64 q.2 := by
  obtain ⟨y0, y1, n, rfl, hl, e0, e1⟩ := trod_struct2 Try.underlying39 h
  have c3 : Try.prog.cellsOf 3 = 1 := by kernel_rfl
  have c33 : Try.prog.cellsOf 37 = 1 := by kernel_rfl
  have c35 : Try.prog.cellsOf 39 = 2 := by kernel_rfl
  rw [c35] at hl
  match cs, hl with
  | [v0, v1], _ =>
    simp only [c3, c33] at e0 e1
    obtain ⟨n0, h0, _, w0⟩ := DataW.trod_int (x := y0) Try.underlying37 e0
    obtain ⟨n1, h1, _, w1⟩ := DataW.trod_int (x := y1) Try.underlying3 e1
    simp at h0 h1
    subst h0 h1
    exact ⟨(n0, n1), rfl, i64_wf w1⟩
set_option maxRecDepth 100000 in
/-- An event's eight cells. -/
theorem ev_cells {fuel : Nat} {cs : List Value} {x : DataW H × List MemPlace} (h : DataW.trod enc Try.prog W base sp held fuel 41 cs = some x) : ∃ q : Ev, cs = encE q ∧ (I64 q.num ∧ I64 q.h) := by
  obtain ⟨xs, n, _, rfl, hl, hlen, hf⟩ := DataW.trod_struct Try.underlying41 h
  have c3 : Try.prog.cellsOf 3 = 1 := by kernel_rfl
  have c4 : Try.prog.cellsOf 4 = 1 := by kernel_rfl
  have c36 : Try.prog.cellsOf 36 = 4 := by kernel_rfl
  have c39 : Try.prog.cellsOf 39 = 2 := by kernel_rfl
  have c41 : Try.prog.cellsOf 41 = 8 := by kernel_rfl
  rw [c41] at hl
  match xs, hlen, cs, hl with
  | [y0, y1, y2, y3], _, [v0, v1, v2, v3, v4, v5, v6, v7], _ =>
    have e0 : DataW.trod enc Try.prog W base sp held n 3 [v0] = some y0 := by simpa [c3] using hf 0 _ rfl
    have e1 : DataW.trod enc Try.prog W base sp held n 4 [v1] = some y1 := by simpa [c4] using hf 1 _ rfl
    have e2 : DataW.trod enc Try.prog W base sp held n 36 [v2, v3, v4, v5] = some y2 := by simpa [c36] using hf 2 _ rfl
    have e3 : DataW.trod enc Try.prog W base sp held n 39 [v6, v7] = some y3 := by simpa [c39] using hf 3 _ rfl
    obtain ⟨n0, h0, _, w0⟩ := DataW.trod_int (x := y0) Try.underlying3 e0
    obtain ⟨b, h1, _⟩ := DataW.trod_bool (x := y1) Try.underlying4 e1
    obtain ⟨o, h2, ho⟩ := op_cells e2
    obtain ⟨r, h3, hr⟩ := res_cells e3
    simp at h0 h1
    simp [encO] at h2
    simp [encR] at h3
    obtain ⟨rfl, rfl, rfl, rfl⟩ := h2
    obtain ⟨rfl, rfl⟩ := h3
    subst h0 h1
    exact ⟨⟨n0, b, o.d, o.h, o.off, o.n, r.1, r.2⟩, rfl, hr, ho⟩
theorem list_of {α : Type} {R : Nat → α → Prop} : ∀ n, (∀ i, i < n → ∃ q, R i q) → ∃ sc : List α, sc.length = n ∧ ∀ (i : Nat) (q : α), sc[i]? = some q → R i q
  | 0, _ => ⟨[], rfl, by simp⟩
  | n + 1, h => by
    obtain ⟨sc, hl, hs⟩ := list_of n (fun i hi => h i (by omega))
    obtain ⟨q, hq⟩ := h n (by omega)
    refine ⟨sc ++ [q], by simp [hl], fun i q' hi => ?_⟩
    rw [List.getElem?_append] at hi
    split at hi
    · exact hs i q' hi
    · have : i = n := by
        have := (List.getElem?_eq_some_iff.1 hi).1
        simp at this
        omega
      subst this
      simp [hl] at hi
      subst hi
      exact hq
set_option maxRecDepth 100000 in
/-- A list. -/
theorem slice_of {α : Type} {en : α → List Value} {B : α → Prop} {S T sz : Nat} (hu : Try.prog.underlying S = some (.slice T)) (hT : Try.prog.cellsOf T = sz) (hsz : 0 < sz) (hlen : ∀ q, (en q).length = sz)
    (hint : ∀ q, ∃ k v, (en q)[0]? = some (.int .i64 v) ∧ k = v) (hcell : ∀ (fuel : Nat) (cs : List Value) (x : DataW H × List MemPlace), DataW.trod enc Try.prog W base sp held fuel T cs = some x → ∃ q : α, cs = en q ∧ B q)
    {v : Value} {d : DataW H} {p : List MemPlace} {base0 : Nat} {r : Reach} (h : DataW.Trod enc Try.prog W base sp held S v d p) (hok : Value.okWide Try.prog W r base0 S v) :
    ∃ a n cc sc, v = .slice a n cc ∧ Sl (allF W) sz en a n cc sc ∧ (∀ x ∈ sc, B x) := by
  obtain ⟨a, n, cc, rfl⟩ := okWide_slice hu hok
  obtain ⟨fuel, hf⟩ := h
  refine ⟨a, n, cc, ?_⟩
  rcases Go.Deep.open_slice hu hf with ⟨hcs, _⟩ | ⟨a', len, cap, m, k, D, Pl, hcs, _, hle, _, hm, _, hel⟩
  · simp [Value.cells] at hcs
    obtain ⟨rfl, rfl, rfl⟩ := hcs
    exact ⟨[], rfl, ⟨rfl, Nat.le_refl _, fun i x h => by simp at h⟩, fun x hx => by simp at hx⟩
  · simp [Value.cells] at hcs
    obtain ⟨rfl, rfl, rfl⟩ := hcs
    rw [hT] at hel
    have hlm : n ≤ m := by rw [hm]; split <;> omega
    have hq : ∀ i, i < n → ∃ q : α, B q ∧ W.cells? base (a'.add (i * sz)) sz = some (en q) := fun i hi => by
      obtain ⟨cs', h1, h2⟩ := hel i (by omega)
      obtain ⟨q, rfl, hb⟩ := hcell _ _ _ h2
      exact ⟨q, hb, h1⟩
    have hsc := list_of (R := fun i q => B q ∧ W.cells? base (a'.add (i * sz)) sz = some (en q)) n hq
    obtain ⟨sc, hl, hs⟩ := hsc
    refine ⟨sc, rfl, ⟨hl.symm, hle, fun i q hi => ?_⟩, fun q hq' => ?_⟩
    · have hc := (World.cells?_some (hs i q hi).2)
      have hz := hc.2.2 0 hsz
      obtain ⟨b, off, spot⟩ := a'
      have hspot : spot = none := by
        cases spot with
        | none => rfl
        | some u =>
          exfalso
          have h0 : 0 < sc.length := by have := (List.getElem?_eq_some_iff.1 hi).1; omega
          have h1 := (World.cells?_some (hs 0 sc[0] (List.getElem?_eq_getElem h0)).2).2.2 0 hsz
          have h2 : ((({ block := b, off := off, spot := some u } : Addr).add (0 * sz)).add 0) = { block := b, off := off, spot := some u } := by simp [Addr.add]
          rw [h2] at h1
          obtain ⟨_, z, hz0, _⟩ := hint sc[0]
          rw [hz0] at h1
          unfold World.cell? at h1
          split at h1
          · simp at h1
          · simp at h1
      subst hspot
      refine ⟨b, off, rfl, fun j v hj => ?_⟩
      have hj' : j < sz := by
        have := (List.getElem?_eq_some_iff.1 hj).1
        simpa [hlen] using this
      have h3 := hc.2.2 j hj'
      letI := strOf W
      rw [hj, addr_add, addr_add] at h3
      unfold World.cell? at h3
      split at h3
      · rename_i c u fr hb
        simp at h3
        exact ⟨c, u, fr, allF_mem hb, h3⟩
      · cases h3
    · obtain ⟨i, hi, e⟩ := List.getElem_of_mem hq'
      exact (hs i q (by rw [← e]; exact List.getElem?_eq_getElem hi)).1
set_option maxRecDepth 100000 in
theorem events_of {v : Value} {d : DataW H} {p : List MemPlace} {base0 : Nat} {r : Reach} (h : DataW.Trod enc Try.prog W base sp held 22 v d p) (hok : Value.okWide Try.prog W r base0 22 v) :
    ∃ a n cc sc, v = .slice a n cc ∧ Sl (allF W) 8 encE a n cc sc ∧ EvB sc := slice_of (en := encE) (sz := 8) (B := fun q : Ev => I64 q.num ∧ I64 q.h) Try.underlying22 (by kernel_rfl) (by decide) (fun _ => rfl) (fun q => ⟨_, _, rfl, rfl⟩) (fun _ _ _ h => ev_cells h) h hok
set_option maxRecDepth 100000 in
theorem ops_of {v : Value} {d : DataW H} {p : List MemPlace} {base0 : Nat} {r : Reach} (h : DataW.Trod enc Try.prog W base sp held 28 v d p) (hok : Value.okWide Try.prog W r base0 28 v) :
    ∃ a n cc sc, v = .slice a n cc ∧ Sl (allF W) 4 encO a n cc sc ∧ OpB sc := slice_of (en := encO) (sz := 4) (B := fun q : Op4 => I64 q.h) Try.underlying28 (by kernel_rfl) (by decide) (fun _ => rfl) (fun q => ⟨_, _, rfl, rfl⟩) (fun _ _ _ h => op_cells h) h hok
set_option maxRecDepth 100000 in
theorem results_of {v : Value} {d : DataW H} {p : List MemPlace} {base0 : Nat} {r : Reach} (h : DataW.Trod enc Try.prog W base sp held 29 v d p) (hok : Value.okWide Try.prog W r base0 29 v) :
    ∃ a n cc sc, v = .slice a n cc ∧ Sl (allF W) 2 encR a n cc sc ∧ ResB sc := slice_of (en := encR) (sz := 2) (B := fun q : Int × Int => I64 q.2) Try.underlying29 (by kernel_rfl) (by decide) (fun _ => rfl) (fun q => ⟨_, _, rfl, rfl⟩) (fun _ _ _ h => res_cells h) h hok
end
end Go.Proofs.Ytgkbmelecalllaa
