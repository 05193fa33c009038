/-
  Lists in memory: slices that are only read ('Sl', over blocks that nobody writes), slices that grow ('Grow').
-/
import Derived.Test.YtgkbmelecalllaaSd3
import Derived.Laws.Append
set_option linter.unusedSectionVars false
set_option linter.unusedSimpArgs false
set_option linter.unusedVariables false
namespace Go.Sd
open Go
variable [Str]

theorem take_get0 {l : List Value} {m j : Nat} {v : Value} (h : (l.take m)[j]? = some v) : l[j]? = some v := by
  rw [List.getElem?_take] at h
  split at h
  · exact h
  · cases h
theorem take_get {l : List Value} {o m j : Nat} {v : Value} (h : ((l.drop o).take m)[j]? = some v) : l[o + j]? = some v := by
  have := take_get0 h
  rwa [List.getElem?_drop] at this
/-- A cell of a block that nobody writes. -/
def PC (G : Seg) (b k : Nat) (v : Value) : Prop := ∃ cs T fr, (b, Obj.cells cs T fr) ∈ G ∧ cs[k]? = some v
theorem PC.mono {G G' : Seg} {b k : Nat} {v : Value} (h : PC G b k v) (hs : ∀ p ∈ G, p ∈ G') : PC G' b k v := let ⟨cs, T, fr, hm, hk⟩ := h; ⟨cs, T, fr, hs _ hm, hk⟩
theorem Own.pc {w : World} {S : List Seg} {i b k : Nat} {G : Seg} {v : Value} (h : Own w S) (hi : S[i]? = some G) (hp : PC G b k v) : w.cell? ⟨b, k, none⟩ = some v := by
  obtain ⟨cs, T, fr, hm, hk⟩ := hp
  have := h.mem hi hm
  simp only [World.cell?, this]
  exact hk

/-- A slice that reads as the list xs; each element takes sz cells. -/
structure Sl {α : Type} (G : Seg) (sz : Nat) (enc : α → List Value) (a : Option Addr) (len cap : Nat) (xs : List α) : Prop where
  hlen : len = xs.length
  hle : len ≤ cap
  at_ : ∀ i x, xs[i]? = some x → ∃ b off, a = some ⟨b, off, none⟩ ∧ ∀ j v, (enc x)[j]? = some v → PC G b (off + i * sz + j) v
theorem Sl.mono {α : Type} {G G' : Seg} {sz : Nat} {enc : α → List Value} {a : Option Addr} {len cap : Nat} {xs : List α} (h : Sl G sz enc a len cap xs) (hs : ∀ p ∈ G, p ∈ G') : Sl G' sz enc a len cap xs :=
  ⟨h.hlen, h.hle, fun i x hx => let ⟨b, off, ha, hc⟩ := h.at_ i x hx; ⟨b, off, ha, fun j v hj => (hc j v hj).mono hs⟩⟩
theorem Sl.nil {α : Type} {G : Seg} {sz : Nat} {enc : α → List Value} : Sl G sz enc none 0 0 ([] : List α) := ⟨rfl, Nat.le_refl _, fun i x h => by simp at h⟩
/-- All its cells, from the first on. -/
theorem Sl.cells {α : Type} {G : Seg} {sz : Nat} {enc : α → List Value} {a : Option Addr} {len cap : Nat} {xs : List α} (h : Sl G sz enc a len cap xs) (hz : ∀ x ∈ xs, (enc x).length = sz) (hne : xs ≠ []) :
    ∃ b off, a = some ⟨b, off, none⟩ ∧ ∀ j v, (xs.flatMap enc)[j]? = some v → PC G b (off + j) v := by
  obtain ⟨x0, hx0⟩ : ∃ x, xs[0]? = some x := by cases xs with | nil => exact absurd rfl hne | cons x _ => exact ⟨x, rfl⟩
  obtain ⟨b, off, ha, _⟩ := h.at_ 0 x0 hx0
  refine ⟨b, off, ha, ?_⟩
  have key : ∀ (ys : List α) (k : Nat), (∀ i y, ys[i]? = some y → xs[k + i]? = some y) → (∀ x ∈ ys, (enc x).length = sz) → ∀ j v, (ys.flatMap enc)[j]? = some v → PC G b (off + k * sz + j) v := by
    intro ys
    induction ys with
    | nil => intro k _ _ j v hj; simp at hj
    | cons y ys ih =>
      intro k hk hl j v hj
      have hy := hl y (by simp)
      simp only [List.flatMap_cons] at hj
      rcases Nat.lt_or_ge j (enc y).length with hlt | hge
      · rw [List.getElem?_append_left hlt] at hj
        obtain ⟨b', off', ha', hc⟩ := h.at_ k y (hk 0 y rfl)
        rw [ha] at ha'
        simp only [Option.some.injEq, Addr.mk.injEq] at ha'
        obtain ⟨rfl, rfl, _⟩ := ha'
        exact hc j v hj
      · rw [List.getElem?_append_right hge] at hj
        have := ih (k + 1) (fun i z hz' => by have := hk (i + 1) z hz'; rwa [show k + (i + 1) = k + 1 + i from by omega] at this) (fun x hx => hl x (by simp [hx])) (j - (enc y).length) v hj
        rw [hy] at this hge
        rwa [show off + (k + 1) * sz + (j - sz) = off + k * sz + j from by rw [Nat.succ_mul]; omega] at this
  intro j v hj
  have := key xs 0 (fun i y hy => by simpa using hy) hz j v hj
  simpa using this
theorem Sl.tail {α : Type} {G : Seg} {sz : Nat} {enc : α → List Value} {b off len cap : Nat} {x : α} {xs : List α} (h : Sl G sz enc (some ⟨b, off, none⟩) len cap (x :: xs)) : Sl G sz enc (some ⟨b, off + sz, none⟩) (len - 1) (cap - 1) xs := by
  have h1 := h.hlen
  have h2 := h.hle
  simp only [List.length_cons] at h1
  refine ⟨by omega, by omega, fun i y hy => ?_⟩
  obtain ⟨b', off', ha, hc⟩ := h.at_ (i + 1) y (by simpa using hy)
  simp only [Option.some.injEq, Addr.mk.injEq] at ha
  obtain ⟨rfl, rfl, _⟩ := ha
  refine ⟨_, _, rfl, fun j v hj => ?_⟩
  have := hc j v hj
  rwa [show off + (i + 1) * sz + j = off + sz + i * sz + j from by rw [Nat.succ_mul]; omega] at this

/-- A slice of this frame's own: the list xs, and what lies behind it. -/
def Grow {α : Type} (E sz : Nat) (enc : α → List Value) (v : Value) (s : Seg) (xs : List α) : Prop :=
  (v = .slice none 0 0 ∧ s = [] ∧ xs = []) ∨
  ∃ b cap rest, v = .slice (some ⟨b, 0, none⟩) xs.length cap ∧ s = [(b, .cells ((xs.flatMap enc ++ rest).toArray) E (0, 0))] ∧ (xs.flatMap enc).length + rest.length = cap * sz ∧ xs.length ≤ cap
theorem Grow.start {α : Type} {E sz : Nat} {enc : α → List Value} : Grow E sz enc (.slice none 0 0) [] ([] : List α) := .inl ⟨rfl, rfl, rfl⟩

theorem flat_length {α : Type} {enc : α → List Value} {sz : Nat} : ∀ {xs : List α}, (∀ x ∈ xs, (enc x).length = sz) → (xs.flatMap enc).length = xs.length * sz
  | [], _ => by simp
  | x :: xs, h => by
    simp only [List.flatMap_cons, List.length_append, List.length_cons, Nat.succ_mul]
    rw [h x (by simp), flat_length (fun y hy => h y (by simp [hy]))]
    omega
theorem flat_at {α : Type} {enc : α → List Value} {sz : Nat} : ∀ {xs : List α} {i : Nat} {x : α} {j : Nat} {v : Value}, (∀ x ∈ xs, (enc x).length = sz) → xs[i]? = some x → (enc x)[j]? = some v → (xs.flatMap enc)[i * sz + j]? = some v
  | [], i, _, _, _, _, h, _ => by simp at h
  | y :: ys, 0, x, j, v, hz, hx, hj => by
    simp only [List.getElem?_cons_zero, Option.some.injEq] at hx
    subst hx
    have := (List.getElem?_eq_some_iff.1 hj).1
    simp only [List.flatMap_cons, Nat.zero_mul, Nat.zero_add]
    rw [List.getElem?_append_left this]; exact hj
  | y :: ys, i + 1, x, j, v, hz, hx, hj => by
    simp only [List.flatMap_cons]
    have hy := hz y (by simp)
    rw [List.getElem?_append_right (by rw [hy, Nat.succ_mul]; omega), hy]
    rw [show (i + 1) * sz + j - sz = i * sz + j from by rw [Nat.succ_mul]; omega]
    exact flat_at (fun z hz' => hz z (by simp [hz'])) (by simpa using hx) hj
/-- Nobody writes it any more. -/
theorem Grow.shut {α : Type} {E sz : Nat} {enc : α → List Value} {v : Value} {s : Seg} {xs : List α} (h : Grow E sz enc v s xs) (hz : ∀ x ∈ xs, (enc x).length = sz) : ∃ a len cap, v = .slice a len cap ∧ Sl s sz enc a len cap xs := by
  rcases h with ⟨rfl, rfl, rfl⟩ | ⟨b, cap, rest, rfl, rfl, hl, hle⟩
  · exact ⟨none, 0, 0, rfl, Sl.nil⟩
  · refine ⟨_, _, _, rfl, rfl, hle, fun i x hx => ⟨b, 0, rfl, fun j v hj => ⟨_, _, _, by simp; exact ⟨rfl, rfl, rfl⟩, ?_⟩⟩⟩
    have h1 := flat_at hz hx hj
    have h2 := (List.getElem?_eq_some_iff.1 h1).1
    simp only [Nat.zero_add, List.getElem?_toArray]
    rw [List.getElem?_append_left h2]; exact h1

/-- What is told of an element's type. -/
structure ElemT (P : Program) (t E sz by_ : Nat) (z : Value) : Prop where
  sl : P.underlying t = some (.slice E)
  info : ∃ i, P.info? E = some i ∧ i.size = sz ∧ i.bytes = by_ ∧ i.zero = some z
  pos : 0 < sz
  zsz : z.cells.size = sz

theorem setCells_list : ∀ (vs pre mid post : List Value), mid.length = vs.length → setCells (pre ++ mid ++ post).toArray pre.length vs = (pre ++ vs ++ post).toArray
  | [], pre, mid, post, h => by
    obtain rfl : mid = [] := by simpa using h
    simp [setCells]
  | v :: vs, pre, [], post, h => by simp at h
  | v :: vs, pre, m :: mid, post, h => by
    simp only [setCells]
    have h1 : (pre ++ m :: mid ++ post).toArray.setIfInBounds pre.length v = ((pre ++ [v]) ++ mid ++ post).toArray := by
      simp
    rw [h1]
    have := setCells_list vs (pre ++ [v]) mid post (by simpa using h)
    simp only [List.length_append, List.length_singleton] at this
    rw [this]
    simp

section
variable {P : Program} {n : Nat} {ops : Array Oper} {Q : Exit → Act → World → Prop} {env : Env} {w : World} {ty : TypeId} {pos : String} {aft : Array Edge} {g : Option (Nat × Bool)}

theorem zeroCells_length (zs : Array Value) (k : Nat) : (Builtin.zeroCells zs k).size = k * zs.size := by simp [Builtin.zeroCells]

/-- What an append comes to: the new slice holds what it held, and the new elements. -/
theorem run_append {α : Type} {t E sz by_ : Nat} {z : Value} {enc : α → List Value} {S : List Seg} {s : Seg} {v : Value} {xs ys : List α} {a : Option Addr} {m c : Nat} (hT : ElemT P t E sz by_ z) (hO : Own w (s :: S)) (hv : Grow E sz enc v s xs)
    (hz : ∀ x ∈ xs ++ ys, (enc x).length = sz) (h1 : ∀ x ∈ ys, (enc x).all oneCell = true) (hm : m = ys.length) (ha : ys ≠ [] → ∃ b off, a = some ⟨b, off, none⟩ ∧ ∀ j u, (ys.flatMap enc)[j]? = some u → w.cell? ⟨b, off + j, none⟩ = some u)
    (hb : (xs.length + ys.length) * by_ ≤ 140737488355328) (hl : xs.length + ys.length ≤ 4611686018427387904) (hby : 0 < by_) :
    ∃ v' s' w', (Builtin.append_ #[t, t] ty #[v, .slice a m c]).run P w = .ok v' w' ∧ Own w' (s' :: S) ∧ Grow E sz enc v' s' (xs ++ ys) := by
  subst hm
  obtain ⟨i, hi, hsz, hbys, hzz⟩ := hT.info
  have hfl : ∀ l : List α, (∀ x ∈ l, (enc x).length = sz) → (l.flatMap enc).length = l.length * sz := fun l h => flat_length h
  have hzx : ∀ x ∈ xs, (enc x).length = sz := fun x hx => hz x (by simp [hx])
  have hzy : ∀ x ∈ ys, (enc x).length = sz := fun x hx => hz x (by simp [hx])
  by_cases hys : ys = []
  · subst hys
    rcases hv with ⟨rfl, rfl, rfl⟩ | ⟨b, cap, rest, rfl, rfl, hcl, hle⟩
    · refine ⟨.slice none 0 0, [], w, ?_, hO, by simpa using Grow.start⟩
      cases a with
      | none => simp [Builtin.append_, run_underlying hT.sl, sizeOf, typeInfo, hi, Builtin.lenOf, Builtin.firstCells]
      | some a => simp [Builtin.append_, run_underlying hT.sl, sizeOf, typeInfo, hi, Builtin.lenOf, Builtin.firstCells, loadCells, loadCellsFrom]
    · refine ⟨.slice (some ⟨b, 0, none⟩) xs.length cap, _, w, ?_, hO, .inr ⟨b, cap, rest, by simp, by simp, by simpa using hcl, by simpa using hle⟩⟩
      cases a with
      | none => simp [Builtin.append_, run_underlying hT.sl, sizeOf, typeInfo, hi, Builtin.lenOf, Builtin.firstCells, hle, storeCells]
      | some a => simp [Builtin.append_, run_underlying hT.sl, sizeOf, typeInfo, hi, Builtin.lenOf, Builtin.firstCells, hle, storeCells, loadCells, loadCellsFrom]
  · obtain ⟨ba, oa, rfl, hca⟩ := ha hys
    have hylen : 0 < ys.length := by cases ys with | nil => exact absurd rfl hys | cons _ _ => simp
    have hnew : ∀ j u, (ys.flatMap enc)[j]? = some u → w.cell? ((⟨ba, oa, none⟩ : Addr).add j) = some u := fun j u hj => by rw [addr_add]; exact hca j u hj
    rcases hv with ⟨rfl, rfl, rfl⟩ | ⟨b, cap, rest, rfl, rfl, hcl, hle⟩
    · have hr := run_append_nil (P := P) w t ty E i z hT.sl hi hzz ⟨ba, oa, none⟩ ys.length c (ys.flatMap enc) (by rw [hfl ys hzy, hsz]) hnew hylen (by omega) (by rw [hbys]; simp at hb; omega)
      have hcut : ys.length ≤ grownCap w ys.length 0 E := Nat.le_add_right _ _
      have hO1 : Own w.drew ([] :: S) := hO.heap rfl
      refine ⟨_, _, _, hr, (hO1.drop).alloc _, ?_⟩
      refine .inr ⟨w.heap.size, grownCap w ys.length 0 E, (Builtin.zeroCells z.cells (grownCap w ys.length 0 E - ys.length)).toList, by simp, ?_, ?_, by simpa using hcut⟩
      · simp
      · have := zeroCells_length z.cells (grownCap w ys.length 0 E - ys.length)
        simp only [List.nil_append, hfl ys hzy, Array.length_toList, this, hT.zsz]
        rw [← Nat.add_mul]; congr 1; omega
    · by_cases hroom : xs.length + ys.length ≤ cap
      · have hfx := hfl xs hzx
        have hfy := hfl ys hzy
        have hrl : rest.length = cap * sz - xs.length * sz := by omega
        have hcs : (xs.length + ys.length) * sz ≤ cap * sz := Nat.mul_le_mul_right _ hroom
        rw [Nat.add_mul] at hcs
        have hfirst := run_firstCells_some (P := P) w i.size ys.length ⟨ba, oa, none⟩ ys.length c (ys.flatMap enc) (by rw [hfy, hsz]) hnew
        obtain ⟨w', hst, hO'⟩ := run_storeCells (P := P) (off := xs.length * sz) (i := 0) (b := b) (T := E) (ys.flatMap enc) w _ _ 0 hO rfl
          (fun u hu => by obtain ⟨y, hy, hu'⟩ := List.mem_flatMap.1 hu; exact List.all_eq_true.1 (h1 y hy) u hu') (by simp only [List.size_toArray, List.length_append, Nat.add_zero]; omega)
        refine ⟨.slice (some ⟨b, 0, none⟩) (xs.length + ys.length) cap, _, w', ?_, by simpa using hO', .inr ⟨b, cap, rest.drop (ys.flatMap enc).length, by simp, ?_, ?_, by simpa using hroom⟩⟩
        · have had : (⟨b, 0, none⟩ : Addr).add (xs.length * sz) = ⟨b, xs.length * sz, none⟩ := by rw [addr_add]; simp
          rw [hsz] at hfirst
          simp [Builtin.append_, run_underlying hT.sl, sizeOf, typeInfo, hi, Builtin.lenOf, hroom, hfirst, hsz, had, hst]
        · have hs := setCells_list (ys.flatMap enc) (xs.flatMap enc) (rest.take (ys.flatMap enc).length) (rest.drop (ys.flatMap enc).length) (by rw [List.length_take]; omega)
          simp only [List.append_assoc, List.take_append_drop] at hs
          rw [hfx] at hs
          have hf2 : (xs ++ ys).flatMap enc ++ rest.drop (ys.flatMap enc).length = xs.flatMap enc ++ (ys.flatMap enc ++ rest.drop (ys.flatMap enc).length) := by simp
          rw [hf2, ← hs]
        · simp only [List.flatMap_append, List.length_append, List.length_drop, hfx, hfy]
          omega
      · have hfx := hfl xs hzx
        have hold : ∀ j u, (xs.flatMap enc)[j]? = some u → w.cell? ((⟨b, 0, none⟩ : Addr).add j) = some u := fun j u hj => by
          rw [addr_add]
          refine hO.cell (i := 0) rfl ?_
          have := (List.getElem?_eq_some_iff.1 hj).1
          simp only [Nat.zero_add, List.getElem?_toArray]
          rw [List.getElem?_append_left this]; exact hj
        have hr := run_append_grow (P := P) w t ty E i z hT.sl hi hzz ⟨b, 0, none⟩ xs.length cap (xs.flatMap enc) (by rw [hfx, hsz]) hold ⟨ba, oa, none⟩ ys.length c (ys.flatMap enc) (by rw [hfl ys hzy, hsz]) hnew
          (by omega) (by omega) (growslice_fits (by omega) (by rw [hbys]; omega))
        have hcut : xs.length + ys.length ≤ grownCap w (xs.length + ys.length) cap E := Nat.le_add_right _ _
        have hO1 : Own w.drew S := (hO.heap (w' := w.drew) rfl).drop
        refine ⟨_, _, _, hr, hO1.alloc _, ?_⟩
        refine .inr ⟨w.heap.size, grownCap w (xs.length + ys.length) cap E, (Builtin.zeroCells z.cells (grownCap w (xs.length + ys.length) cap E - (xs.length + ys.length))).toList, by simp, ?_, ?_, by simpa using hcut⟩
        · simp
        · have := zeroCells_length z.cells (grownCap w (xs.length + ys.length) cap E - (xs.length + ys.length))
          simp only [List.flatMap_append, List.length_append, hfx, hfl ys hzy, Array.length_toList, this, hT.zsz]
          rw [← Nat.add_mul, ← Nat.add_mul]; congr 1; omega

theorem R.append {ρ : Operand → Value} {dst : Option Tmp} {x y : Operand} {t : TypeId} {v u v' : Value} {w' : World} (hx : ρ x = v) (hy : ρ y = u) (h : (Builtin.append_ #[t, t] ty #[v, u]).run P w = .ok v' w') :
    (execOp ρ ⟨dst, .call ⟨.builtin .append, #[x, y], #[t, t]⟩, ty, pos, aft, g⟩).run P w = .ok (.value v') w' := by
  simp [execOp, resolve, hx, hy, invoke, builtin, h]

theorem OW.append {α : Type} {t E sz by_ : Nat} {z : Value} {enc : α → List Value} {S : List Seg} {s : Seg} {v : Value} {xs ys : List α} {a : Option Addr} {m c d : Nat} {x y : Operand} {K : Env → World → Prop} (hT : ElemT P t E sz by_ z) (hd : Nat.blt d n = true) (hO : Own w (s :: S)) (hx : evo env x = some v) (hy : evo env y = some (.slice a m c)) (hv : Grow E sz enc v s xs)
    (hz : ∀ x ∈ xs ++ ys, (enc x).length = sz) (h1 : ∀ x ∈ ys, (enc x).all oneCell = true) (hm : m = ys.length) (ha : ys ≠ [] → ∃ b off, a = some ⟨b, off, none⟩ ∧ ∀ j u, (ys.flatMap enc)[j]? = some u → w.cell? ⟨b, off + j, none⟩ = some u)
    (hb : (xs.length + ys.length) * by_ ≤ 140737488355328) (hl : xs.length + ys.length ≤ 4611686018427387904) (hby : 0 < by_)
    (h : ∀ v' s' w', Own w' (s' :: S) → Grow E sz enc v' s' (xs ++ ys) → K ((d, v') :: env) w') : OW P n Q ⟨some d, .call ⟨.builtin .append, #[x, y], #[t, t]⟩, ty, pos, aft, g⟩ env w K := by
  obtain ⟨v', s', w', hr, hO', hg⟩ := run_append (ty := ty) hT hO hv hz h1 hm ha hb hl hby
  exact OW.new hd (fun _ r => R.append (r.e hx) (r.e hy) hr) (h _ _ _ hO' hg)

theorem OW.buildSlice {t len d e : Nat} {parts : Array (Nat × Operand)} {vs : List (Nat × Value)} {cs : Array Value} {S : List Seg} {K : Env → World → Prop} (hd : Nat.blt d n = true) (hO : Own w S) (hv : ∀ a, Real n env a → Parts a.eval parts.toList vs)
    (hr : ∀ w, (Instr.buildSlice t len vs.toArray).run P w = .ok (.slice (some ⟨w.heap.size, 0, none⟩) len len) (w.alloc (.cells cs e)))
    (h : ∀ b w', Own w' ([(b, .cells cs e (0, 0))] :: S) → K ((d, .slice (some ⟨b, 0, none⟩) len len) :: env) w') : OW P n Q ⟨some d, .buildSlice t len parts, ty, pos, aft, g⟩ env w K := by
  refine OW.new hd (fun a r => ?_) (h _ _ (hO.alloc _))
  have h1 := parts_map (hv a r)
  simp only [execOp]
  rw [h1]
  simp [hr]

/-- A slice that was just made, of one block's cells. -/
theorem src {S : List Seg} {i b : Nat} {cs : Array Value} {T : TypeId} {fr : Nat × Nat} {ys : List Value} (hO : Own w S) (hi : S[i]? = some [(b, .cells cs T fr)]) (hv : cs.toList.take ys.length = ys) : ∃ b' off, some (⟨b, 0, none⟩ : Addr) = some ⟨b', off, none⟩ ∧ ∀ j u, ys[j]? = some u → w.cell? ⟨b', off + j, none⟩ = some u :=
  ⟨b, 0, rfl, hO.cells hi (by simpa using hv)⟩

theorem R.indexAddr_o {ρ : Operand → Value} {dst : Option Tmp} {t e : TypeId} {x ix : Operand} {a : Option Addr} {b off len cap k sz : Nat} {i : Int} {q : IntKind} (hx : ρ x = .slice a len cap) (ha : a = some ⟨b, off, none⟩) (hi : ρ ix = .int q i) (ht : ∀ w, (underlying t).run P w = .ok (.slice e) w)
    (hz : ∀ w, (sizeOf e).run P w = .ok sz w) (h0 : 0 ≤ i) (h1 : i < len) (hk : off + i.toNat * sz = k) : (execOp ρ ⟨dst, .indexAddr t x ix, ty, pos, aft, g⟩).run P w = .ok (.value (.pointer (some ⟨b, k, none⟩))) w := by
  subst ha; exact R.indexAddr hx hi ht hz h0 h1 hk
end
end Go.Sd
