/-
  More rules: arrays of numbers, fields of elements of a slice of one's own, slices that are cut.
-/
import Derived.Test.YtgkbmelecalllaaSd6
set_option linter.unusedSectionVars false
set_option linter.unusedSimpArgs false
set_option linter.unusedVariables false
namespace Go.Sd
open Go
variable [Str]

/-! ### an array of numbers -/
def arrc (W : Int → Int) (n : Nat) : Array Value := ((List.range n).map fun (i : Nat) => Value.int .i64 (W i)).toArray
def upd (W : Int → Int) (t v : Int) : Int → Int := fun x => if x = t then v else W x
theorem size_arrc (W : Int → Int) (n : Nat) : (arrc W n).size = n := by simp [arrc]
theorem arrc_get {W : Int → Int} {n : Nat} {t : Int} (h0 : 0 ≤ t) (h1 : t < n) : (arrc W n)[t.toNat]? = some (.int .i64 (W t)) := by
  have : t.toNat < n := by omega
  simp [arrc, this]
  rw [Int.max_eq_left h0]
theorem arrc_set {W : Int → Int} {n : Nat} {t v : Int} (h0 : 0 ≤ t) : (arrc W n).setIfInBounds t.toNat (.int .i64 v) = arrc (upd W t v) n := by
  unfold arrc
  rw [List.setIfInBounds_toArray]
  congr 1
  apply List.ext_getElem
  · simp
  · intro i h1 h2
    simp only [List.getElem_set, List.getElem_map, List.getElem_range, upd]
    by_cases h : t.toNat = i
    · rw [if_pos h, if_pos (by omega)]
    · rw [if_neg h, if_neg (by omega)]
section
variable {P : Program} {n : Nat} {Q : Exit → Act → World → Prop} {env : Env} {w : World} {ty : TypeId} {pos : String} {aft : Array Edge} {g : Option (Nat × Bool)} {S : List Seg} {K : Env → World → Prop} {i b : Nat} {dst : Option Tmp}
theorem Own.arr {W : Int → Int} {m : Nat} {T : TypeId} {t : Int} (hO : Own w S) (hi : S[i]? = some [(b, .cells (arrc W m) T (0, 0))]) (h0 : 0 ≤ t) (h1 : t < m) : w.cell? ⟨b, t.toNat, none⟩ = some (.int .i64 (W t)) := hO.cell hi (arrc_get h0 h1)
theorem OW.storeArr {W : Int → Int} {m : Nat} {T t : TypeId} {x y : Operand} {k v : Int} (hd : dst = none) (hO : Own w S) (hx : evo env x = some (.pointer (some ⟨b, k.toNat, none⟩))) (hi : S[i]? = some [(b, .cells (arrc W m) T (0, 0))]) (hy : evo env y = some (.int .i64 v)) (hm : ∀ w, (sizeOf t).run P w = .ok 1 w) (h0 : 0 ≤ k) (h1 : k < m)
    (h : ∀ w', Own w' (S.set i [(b, .cells (arrc (upd W k v) m) T (0, 0))]) → K env w') : OW P n Q ⟨dst, .store t x y, ty, pos, aft, g⟩ env w K := by
  refine OW.store hd hO hx hi hy rfl hm (by rw [size_arrc]; simp; omega) fun w' hO' => h w' ?_
  rwa [arrc_set h0] at hO'
end

/-! ### elements of a slice of one's own -/
theorem Grow.opened {α : Type} {E sz : Nat} {enc : α → List Value} {v : Value} {s : Seg} {xs : List α} (h : Grow E sz enc v s xs) (hne : 0 < xs.length) : ∃ b cap, v = .slice (some ⟨b, 0, none⟩) xs.length cap := by
  obtain ⟨b, cap, _, h1, _⟩ := h.got hne
  exact ⟨b, cap, h1⟩
theorem Grow.parts {α : Type} {E sz : Nat} {enc : α → List Value} {b len cap : Nat} {s : Seg} {xs : List α} (h : Grow E sz enc (.slice (some ⟨b, 0, none⟩) len cap) s xs) : ∃ rest, len = xs.length ∧ s = [(b, .cells ((xs.flatMap enc ++ rest).toArray) E (0, 0))] ∧ (xs.flatMap enc).length + rest.length = cap * sz ∧ xs.length ≤ cap := by
  rcases h with ⟨h, _⟩ | ⟨b', cap', rest, h, h1, h2, h3⟩
  · cases h
  · cases h
    exact ⟨rest, rfl, h1, h2, h3⟩
theorem Grow.cellAt {α : Type} {E sz : Nat} {enc : α → List Value} {b len cap i k j : Nat} {s : Seg} {S : List Seg} {xs : List α} {x : α} {u : Value} {w : World} (h : Grow E sz enc (.slice (some ⟨b, 0, none⟩) len cap) s xs) (hO : Own w S) (hi : S[i]? = some s) (hz : ∀ x ∈ xs, (enc x).length = sz) (hk : xs[k]? = some x) (hj : (enc x)[j]? = some u) : w.cell? ⟨b, k * sz + j, none⟩ = some u := by
  obtain ⟨rest, _, rfl, _⟩ := h.parts
  refine hO.cell hi ?_
  have h1 := flat_at hz hk hj
  have h2 := (List.getElem?_eq_some_iff.1 h1).1
  simp only [List.getElem?_toArray]
  rw [List.getElem?_append_left h2]; exact h1
theorem flat_set {α : Type} {enc : α → List Value} {sz : Nat} : ∀ {xs : List α} {k : Nat} {x x' : α}, (∀ x ∈ xs, (enc x).length = sz) → xs[k]? = some x → xs.flatMap enc = (xs.take k).flatMap enc ++ (enc x ++ (xs.drop (k + 1)).flatMap enc) ∧ (xs.set k x').flatMap enc = (xs.take k).flatMap enc ++ (enc x' ++ (xs.drop (k + 1)).flatMap enc) ∧ ((xs.take k).flatMap enc).length = k * sz
  | [], k, _, _, _, h => by simp at h
  | y :: ys, 0, x, x', hz, h => by
    simp only [List.getElem?_cons_zero, Option.some.injEq] at h
    subst h
    simp
  | y :: ys, k + 1, x, x', hz, h => by
    obtain ⟨h1, h2, h3⟩ := flat_set (x' := x') (fun z hz' => hz z (by simp [hz'])) (show ys[k]? = some x by simpa using h)
    have hy := hz y (by simp)
    refine ⟨?_, ?_, ?_⟩
    · simp only [List.flatMap_cons, List.take_succ_cons, List.drop_succ_cons]
      rw [h1]; simp
    · simp only [List.set_cons_succ, List.flatMap_cons, List.take_succ_cons, List.drop_succ_cons]
      rw [h2]; simp
    · simp only [List.take_succ_cons, List.flatMap_cons, List.length_append, h3, hy, Nat.succ_mul]; omega
/-- One element of a slice of one's own, from a place in it on, written anew. -/
theorem Grow.write {α : Type} {E sz : Nat} {enc : α → List Value} {b cap k o : Nat} {rest : List Value} {xs : List α} {x x' : α} {vs : List Value} (hz : ∀ x ∈ xs, (enc x).length = sz) (hk : xs[k]? = some x) (hx' : enc x' = (enc x).take o ++ vs ++ (enc x).drop (o + vs.length)) (ho : o + vs.length ≤ sz)
    (hl : (xs.flatMap enc).length + rest.length = cap * sz) (hle : xs.length ≤ cap) :
    Grow E sz enc (.slice (some ⟨b, 0, none⟩) xs.length cap) [(b, .cells (setCells ((xs.flatMap enc ++ rest).toArray) (k * sz + o) vs) E (0, 0))] (xs.set k x') := by
  obtain ⟨h1, h2, h3⟩ := flat_set (x' := x') hz hk
  have hx : (enc x).length = sz := hz x (List.mem_of_getElem? hk)
  have hx2 : (enc x').length = sz := by rw [hx']; simp only [List.length_append, List.length_take, List.length_drop, hx]; omega
  refine .inr ⟨b, cap, rest, by simp, ?_, ?_, by simpa using hle⟩
  · have e1 : xs.flatMap enc ++ rest = ((xs.take k).flatMap enc ++ (enc x).take o) ++ ((enc x).drop o).take vs.length ++ ((enc x).drop (o + vs.length) ++ (xs.drop (k + 1)).flatMap enc ++ rest) := by
      rw [h1]
      have : enc x = (enc x).take o ++ (((enc x).drop o).take vs.length ++ (enc x).drop (o + vs.length)) := by
        rw [← List.drop_drop, List.take_append_drop, List.take_append_drop]
      conv => lhs; rw [this]
      simp
    have e2 : k * sz + o = ((xs.take k).flatMap enc ++ (enc x).take o).length := by rw [List.length_append, h3, List.length_take, hx]; omega
    rw [e1, e2, setCells_list _ _ _ _ (by rw [List.length_take, List.length_drop, hx]; omega), h2, hx']
    simp
  · rw [h2]
    rw [h1] at hl
    simp only [List.length_append, hx, hx2] at hl ⊢
    exact hl
section
variable {P : Program} {n : Nat} {Q : Exit → Act → World → Prop} {env : Env} {w : World} {ty : TypeId} {pos : String} {aft : Array Edge} {g : Option (Nat × Bool)} {S : List Seg} {K : Env → World → Prop} {i b : Nat} {dst : Option Tmp}
theorem OW.storeElem {α : Type} {E sz len cap k o p : Nat} {t : TypeId} {enc : α → List Value} {s : Seg} {xs : List α} {q q' : α} {x y : Operand} {u : Value} {vs : List Value} (hd : dst = none) (hO : Own w S) (hi : S[i]? = some s) (hG : Grow E sz enc (.slice (some ⟨b, 0, none⟩) len cap) s xs) (hz : ∀ x ∈ xs, (enc x).length = sz) (hk : xs[k]? = some q)
    (hx : evo env x = some (.pointer (some ⟨b, p, none⟩))) (hp : p = k * sz + o) (hy : evo env y = some u) (hu : u.cells = vs.toArray) (hv : vs.all oneCell = true) (hm : ∀ w, (sizeOf t).run P w = .ok vs.length w) (hq : enc q' = (enc q).take o ++ vs ++ (enc q).drop (o + vs.length)) (ho : Nat.ble (o + vs.length) sz = true)
    (h : ∀ w' s', Grow E sz enc (.slice (some ⟨b, 0, none⟩) len cap) s' (xs.set k q') → Own w' (S.set i s') → K env w') : OW P n Q ⟨dst, .store t x y, ty, pos, aft, g⟩ env w K := by
  subst hd hp
  obtain ⟨rest, rfl, rfl, hl, hle⟩ := hG.parts
  have ho' : o + vs.length ≤ sz := by simpa using ho
  obtain ⟨h1, h2, h3⟩ := flat_set (x' := q') hz hk
  have hxl : (enc q).length = sz := hz q (List.mem_of_getElem? hk)
  obtain ⟨w', hr, hO'⟩ := run_storeCells (P := P) (i := i) (b := b) (T := E) (off := k * sz + o) vs w S ((xs.flatMap enc ++ rest).toArray) 0 hO hi (by simpa using hv) (by
    simp only [List.size_toArray, List.length_append]; rw [h1]; simp only [List.length_append, h3, hxl]; omega)
  refine OW.does (w1 := w') rfl (fun a ha => ?_) (h _ _ (Grow.write hz hk hq ho' hl hle) (by simpa using hO'))
  simp [execOp, ha.e hx, ha.e hy, Instr.storeAt, Instr.sureAddr, storeVar, hu, hm, hr]
end
/-- A slice of one's own, cut: what lay behind is still there, and may be written over. -/
theorem Grow.cut {α : Type} {E sz : Nat} {enc : α → List Value} {b len cap k : Nat} {s : Seg} {xs : List α} (h : Grow E sz enc (.slice (some ⟨b, 0, none⟩) len cap) s xs) (hk : k ≤ xs.length) : Grow E sz enc (.slice (some ⟨b, 0, none⟩) k cap) s (xs.take k) := by
  obtain ⟨rest, rfl, rfl, hl, hle⟩ := h.parts
  refine .inr ⟨b, cap, (xs.drop k).flatMap enc ++ rest, ?_, ?_, ?_, ?_⟩
  · rw [List.length_take, Nat.min_eq_left hk]
  · rw [← List.append_assoc, ← List.flatMap_append, List.take_append_drop]
  · rw [List.length_append, ← Nat.add_assoc, ← List.length_append, ← List.flatMap_append, List.take_append_drop]; exact hl
  · rw [List.length_take]; omega
section
variable {P : Program} {ρ : Operand → Value} {w : World} {dst : Option Tmp} {ty : TypeId} {pos : String} {aft : Array Edge} {g : Option (Nat × Bool)}
theorem R.indexAddr_v {t e : TypeId} {x ix : Operand} {v : Value} {b off len cap k sz : Nat} {i : Int} {q : IntKind} (hx : ρ x = v) (hv : v = .slice (some ⟨b, off, none⟩) len cap) (hi : ρ ix = .int q i) (ht : ∀ w, (underlying t).run P w = .ok (.slice e) w)
    (hz : ∀ w, (sizeOf e).run P w = .ok sz w) (h0 : 0 ≤ i) (h1 : i < len) (hk : off + i.toNat * sz = k) : (execOp ρ ⟨dst, .indexAddr t x ix, ty, pos, aft, g⟩).run P w = .ok (.value (.pointer (some ⟨b, k, none⟩))) w := R.indexAddr (hx.trans hv) hi ht hz h0 h1 hk
theorem R.len_slice_v {t : TypeId} {x : Operand} {v : Value} {e : TypeId} {a : Option Addr} {n c : Nat} (hx : ρ x = v) (hv : v = .slice a n c) (ht : ∀ w, (underlying t).run P w = .ok (.slice e) w) : (execOp ρ ⟨dst, .call ⟨.builtin .len, #[x], #[t]⟩, ty, pos, aft, g⟩).run P w = .ok (.value (.int .i64 n)) w := R.len_slice (hx.trans hv) ht
end
theorem get_set_self {α : Type} {xs : List α} {k : Nat} {x y : α} (h : xs[k]? = some x) : (xs.set k y)[k]? = some y := by
  have := (List.getElem?_eq_some_iff.1 h).1
  simp [this]
theorem Grow.slice {α : Type} {E sz : Nat} {enc : α → List Value} {v : Value} {s : Seg} {xs : List α} (h : Grow E sz enc v s xs) : ∃ a cap, v = .slice a xs.length cap := by
  rcases h with ⟨rfl, rfl, rfl⟩ | ⟨b, cap, rest, rfl, _⟩
  · exact ⟨_, _, rfl⟩
  · exact ⟨_, _, rfl⟩
theorem grow_made {α : Type} {E b n : Nat} {enc : α → List Value} {x : α} {u : Value} (h : enc x = [u]) : Grow E 1 enc (.slice (some ⟨b, 0, none⟩) n n) [(b, .cells (List.replicate n u).toArray E (0, 0))] (List.replicate n x) := by
  have : (List.replicate n x).flatMap enc = List.replicate n u := by
    induction n with
    | zero => rfl
    | succ n ih => rw [List.replicate_succ, List.flatMap_cons, ih, h]; rfl
  exact .inr ⟨b, n, [], by simp, by rw [this]; simp, by rw [this]; simp, by simp⟩
/-- Of the last segment a part alone. -/
theorem Own.shrink {w0 w : World} {A : List Seg} {b b' : Seg} (h0 : Own w0 (A ++ [b])) (hs : ∀ p ∈ b, p ∈ b') (h : Own w (A ++ [b'])) : Own w (A ++ [b]) := by
  refine ⟨h0.1, fun p hp => h.2 p ?_, h.3⟩
  simp only [List.flatten_append, List.mem_append, List.flatten_cons, List.flatten_nil, List.append_nil] at hp ⊢
  rcases hp with hp | hp
  · exact .inl hp
  · exact .inr (hs p hp)
theorem Own.shrink1 {w0 w : World} {a b b' : Seg} (h0 : Own w0 [a, b]) (hs : ∀ p ∈ b, p ∈ b') (h : Own w [a, b']) : Own w [a, b] := Own.shrink (A := [a]) h0 hs h
theorem Own.shrink2 {w0 w : World} {a a2 b b' : Seg} (h0 : Own w0 [a, a2, b]) (hs : ∀ p ∈ b, p ∈ b') (h : Own w [a, a2, b']) : Own w [a, a2, b] := Own.shrink (A := [a, a2]) h0 hs h
theorem Own.shrink0 {w0 w : World} {b b' : Seg} (h0 : Own w0 [b]) (hs : ∀ p ∈ b, p ∈ b') (h : Own w [b']) : Own w [b] := Own.shrink (A := []) h0 hs h
end Go.Sd
