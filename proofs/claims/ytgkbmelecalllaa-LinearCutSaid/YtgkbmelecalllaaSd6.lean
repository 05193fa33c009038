/-
  Go's maps at keys of the kind int: what one operation on them yields or does.
-/
import Derived.Test.YtgkbmelecalllaaSd5
import Derived.Maps.RangeRun
import Derived.Laws.Externs
set_option linter.unusedSectionVars false
set_option linter.unusedSimpArgs false
set_option linter.unusedVariables false
namespace Go.Sd
open Go
open Go.ChangeMaps (setBlock)
variable [Str]

/-- An entry: its key, its value, its stamp. -/
abbrev Ent := Int × Value × Nat
def ment (e : Ent) : MapEntry := { key := .int .i64 e.1, val := e.2.1, born := e.2.2 }
def mobj (E : List Ent) (c : Nat) : Obj := .map (E.map ment).toArray c

theorem find_no : ∀ (E : List Ent) (k : Int) (i : Nat), (∀ e ∈ E, e.1 ≠ k) → Instr.findNow (.int .i64) (.int .i64 k) (E.map ment) i = some none
  | [], _, _, _ => rfl
  | e :: E, k, i, h => by
    have h1 : ¬ k = e.1 := fun h2 => h e (by simp) h2.symm
    have h2 : (k == e.1) = false := by simp [h1]
    have := find_no E k (i + 1) (fun x hx => h x (by simp [hx]))
    simp only [List.map_cons, Instr.findNow, ment, Instr.sameNow, if_true, h2]
    exact this
theorem find_yes : ∀ (A : List Ent) (e : Ent) (B : List Ent) (i : Nat), (∀ a ∈ A, a.1 ≠ e.1) → Instr.findNow (.int .i64) (.int .i64 e.1) ((A ++ e :: B).map ment) i = some (some (i + A.length, e.2.1))
  | [], e, B, i, _ => by simp [Instr.findNow, ment, Instr.sameNow]
  | a :: A, e, B, i, h => by
    have h1 : ¬ e.1 = a.1 := fun h2 => h a (by simp) h2.symm
    have h2 : (e.1 == a.1) = false := by simp [h1]
    have := find_yes A e B (i + 1) (fun x hx => h x (by simp [hx]))
    simp only [List.cons_append, List.map_cons, Instr.findNow, ment, Instr.sameNow, if_true, h2, List.length_cons]
    rw [show i + (A.length + 1) = i + 1 + A.length from by omega]
    exact this

section
variable {P : Program} {n : Nat} {ops : Array Oper} {Q : Exit → Act → World → Prop} {env : Env} {w : World} {ty : TypeId} {pos : String} {aft : Array Edge} {g : Option (Nat × Bool)} {ρ : Operand → Value} {dst : Option Tmp}

theorem run_checkKey_int {K : TypeId} {k : Int} (hK : P.underlying K = some (.int .i64)) (e : Bool) (m : Nat) : (Instr.checkKey e (m + 1) K (.int .i64 k)).run P w = .ok () w := by
  simp [Instr.checkKey, run_underlying hK]

theorem R.lookup_no {t K V : TypeId} {x y : Operand} {b c : Nat} {E : List Ent} {k : Int} {z : Value} {ok : Bool} (hx : ρ x = .map (some b)) (hy : ρ y = .int .i64 k) (ht : P.underlying t = some (.map K V)) (hK : P.underlying K = some (.int .i64))
    (hz : ∀ w, (zeroValue V).run P w = .ok z w) (hb : w.heap[b]? = some (mobj E c)) (hn : ∀ e ∈ E, e.1 ≠ k) : (execOp ρ ⟨dst, .lookup t x y ok, ty, pos, aft, g⟩).run P w = .ok (.value (cond ok (.tuple #[z, .bool false]) z)) w := by
  have hf := find_no E k 0 hn
  have hg := MapKept.run_getObj_map (P := P) hb
  cases ok <;> simp [execOp, hx, hy, Instr.lookup, run_underlying ht, run_underlying hK, hg, run_checkKey_int hK, Instr.findKey, hf, hz]
theorem R.lookup_yes {β : Type} {f : β → Ent} {t K V : TypeId} {x y : Operand} {b c : Nat} {A B : List β} {e : β} {k : Int} {ok : Bool} (hx : ρ x = .map (some b)) (hy : ρ y = .int .i64 k) (ht : P.underlying t = some (.map K V)) (hK : P.underlying K = some (.int .i64))
    (hb : w.heap[b]? = some (mobj ((A ++ e :: B).map f) c)) (hk : (f e).1 = k) (hn : ∀ a ∈ A, (f a).1 ≠ k) : (execOp ρ ⟨dst, .lookup t x y ok, ty, pos, aft, g⟩).run P w = .ok (.value (cond ok (.tuple #[(f e).2.1, .bool true]) (f e).2.1)) w := by
  subst hk
  have hf := find_yes (A.map f) (f e) (B.map f) 0 (by simpa using hn)
  have hg := MapKept.run_getObj_map (P := P) hb
  rw [← List.map_cons, ← List.map_append] at hf
  simp only [execOp, hx, hy, Instr.lookup]
  cases ok <;> simp only [Sem.run_bind, run_underlying ht, Result.andThen_ok, hg, run_checkKey_int hK, Instr.findKey, run_underlying hK, hf, Sem.run_pure] <;> rfl
theorem R.lookup_yes2 {β : Type} {f : β → Ent} {t K V : TypeId} {x y : Operand} {b c : Nat} {A B : List β} {e : β} {k : Int} {v : Value} (hx : ρ x = .map (some b)) (hy : ρ y = .int .i64 k) (ht : P.underlying t = some (.map K V)) (hK : P.underlying K = some (.int .i64))
    (hb : w.heap[b]? = some (mobj ((A ++ e :: B).map f) c)) (hk : (f e).1 = k) (hn : ∀ a ∈ A, (f a).1 ≠ k) (hv : (f e).2.1 = v) : (execOp ρ ⟨dst, .lookup t x y true, ty, pos, aft, g⟩).run P w = .ok (.value (.tuple #[v, .bool true])) w := hv ▸ R.lookup_yes hx hy ht hK hb hk hn
theorem R.lookup_yes1 {β : Type} {f : β → Ent} {t K V : TypeId} {x y : Operand} {b c : Nat} {A B : List β} {e : β} {k : Int} {v : Value} (hx : ρ x = .map (some b)) (hy : ρ y = .int .i64 k) (ht : P.underlying t = some (.map K V)) (hK : P.underlying K = some (.int .i64))
    (hb : w.heap[b]? = some (mobj ((A ++ e :: B).map f) c)) (hk : (f e).1 = k) (hn : ∀ a ∈ A, (f a).1 ≠ k) (hv : (f e).2.1 = v) : (execOp ρ ⟨dst, .lookup t x y false, ty, pos, aft, g⟩).run P w = .ok (.value v) w := hv ▸ R.lookup_yes hx hy ht hK hb hk hn
theorem R.lookup_no2 {t K V : TypeId} {x y : Operand} {b c : Nat} {E : List Ent} {k : Int} {z : Value} (hx : ρ x = .map (some b)) (hy : ρ y = .int .i64 k) (ht : P.underlying t = some (.map K V)) (hK : P.underlying K = some (.int .i64))
    (hz : ∀ w, (zeroValue V).run P w = .ok z w) (hb : w.heap[b]? = some (mobj E c)) (hn : ∀ e ∈ E, e.1 ≠ k) : (execOp ρ ⟨dst, .lookup t x y true, ty, pos, aft, g⟩).run P w = .ok (.value (.tuple #[z, .bool false])) w := R.lookup_no hx hy ht hK hz hb hn
theorem R.lookup_no1 {t K V : TypeId} {x y : Operand} {b c : Nat} {E : List Ent} {k : Int} {z : Value} (hx : ρ x = .map (some b)) (hy : ρ y = .int .i64 k) (ht : P.underlying t = some (.map K V)) (hK : P.underlying K = some (.int .i64))
    (hz : ∀ w, (zeroValue V).run P w = .ok z w) (hb : w.heap[b]? = some (mobj E c)) (hn : ∀ e ∈ E, e.1 ≠ k) : (execOp ρ ⟨dst, .lookup t x y false, ty, pos, aft, g⟩).run P w = .ok (.value z) w := R.lookup_no hx hy ht hK hz hb hn
/-- At entries that are told as such. -/
theorem R.lookup_e2 {t K V : TypeId} {x y : Operand} {b c : Nat} {A B : List Ent} {e : Ent} {k : Int} (hx : ρ x = .map (some b)) (hy : ρ y = .int .i64 k) (ht : P.underlying t = some (.map K V)) (hK : P.underlying K = some (.int .i64))
    (hb : w.heap[b]? = some (mobj (A ++ e :: B) c)) (hk : e.1 = k) (hn : ∀ a ∈ A, a.1 ≠ k) : (execOp ρ ⟨dst, .lookup t x y true, ty, pos, aft, g⟩).run P w = .ok (.value (.tuple #[e.2.1, .bool true])) w :=
  R.lookup_yes2 (f := id) hx hy ht hK (by simpa using hb) hk (by simpa using hn) rfl
theorem R.shl {t t' : TypeId} {x y : Operand} {k yk : IntKind} {a b : Int} (hx : ρ x = .int k a) (hy : ρ y = .int yk b) (h0 : 0 ≤ b) : (execOp ρ ⟨dst, .binOp .shl t x y t', ty, pos, aft, g⟩).run P w = .ok (.value (.int k (k.wrap (a * 2 ^ (min b.toNat k.bits))))) w := by
  have : ¬ b < 0 := by omega
  simp [execOp, hx, hy, eqGuard, binOp, Op.shift, this]
theorem R.shr {t t' : TypeId} {x y : Operand} {k yk : IntKind} {a b : Int} (hx : ρ x = .int k a) (hy : ρ y = .int yk b) (h0 : 0 ≤ b) : (execOp ρ ⟨dst, .binOp .shr t x y t', ty, pos, aft, g⟩).run P w = .ok (.value (.int k (a.fdiv (2 ^ (min b.toNat k.bits))))) w := by
  have : ¬ b < 0 := by omega
  simp [execOp, hx, hy, eqGuard, binOp, Op.shift, this]
theorem R.or {t t' : TypeId} {x y : Operand} {k : IntKind} {a b : Int} (hx : ρ x = .int k a) (hy : ρ y = .int k b) : (execOp ρ ⟨dst, .binOp .or t x y t', ty, pos, aft, g⟩).run P w = .ok (.value (.int k (k.wrap (BitVec.ofInt k.bits a ||| BitVec.ofInt k.bits b).toNat))) w := by
  simp [execOp, hx, hy, eqGuard, binOp, Op.intBits]
theorem R.len_map {t K V : TypeId} {x : Operand} {b c : Nat} {E : List Ent} (hx : ρ x = .map (some b)) (ht : P.underlying t = some (.map K V)) (hb : w.heap[b]? = some (mobj E c)) : (execOp ρ ⟨dst, .call ⟨.builtin .len, #[x], #[t]⟩, ty, pos, aft, g⟩).run P w = .ok (.value (.int .i64 E.length)) w := by
  have hg := MapKept.run_getObj_map (P := P) hb
  simp [execOp, resolve, hx, invoke, builtin, Builtin.len_, run_underlying ht, hg, goInt]
theorem equalIn_nilMap (d : Nat) (t k e : TypeId) (p : Option Nat) (h : P.underlying t = some (.map k e)) : (Op.equalIn (d + 1) t (.map p) (.map none)).run P w = .ok p.isNone w := by
  cases p <;> simp [Op.equalIn, run_underlying h]
theorem equalIn_nilSlice (d : Nat) (t e : TypeId) (p : Option Addr) (a b : Nat) (h : P.underlying t = some (.slice e)) : (Op.equalIn (d + 1) t (.slice p a b) (.slice none 0 0)).run P w = .ok p.isNone w := by
  cases p <;> simp [Op.equalIn, run_underlying h]
theorem R.nilMap {t K V : TypeId} {x y : Operand} {p : Option Nat} {t' : TypeId} (hx : ρ x = .map p) (hy : ρ y = .map none) (ht : P.underlying t = some (.map K V)) : (execOp ρ ⟨dst, .binOp .eql t x y t', ty, pos, aft, g⟩).run P w = .ok (.value (.bool p.isNone)) w := by
  have h1 : (binOp .eql t (.map p) (.map none)).run P w = .ok (.bool p.isNone) w := by
    simp only [binOp]
    simp [show Op.equal t (.map p) (.map none) = Op.equalIn (9999 + 1) t (.map p) (.map none) from rfl, equalIn_nilMap 9999 t K V p ht]
  simp [execOp, hx, hy, eqGuard, h1]
theorem R.nilSlice {t E : TypeId} {x y : Operand} {p : Option Addr} {a b : Nat} {t' : TypeId} (hx : ρ x = .slice p a b) (hy : ρ y = .slice none 0 0) (ht : P.underlying t = some (.slice E)) : (execOp ρ ⟨dst, .binOp .eql t x y t', ty, pos, aft, g⟩).run P w = .ok (.value (.bool p.isNone)) w := by
  have h1 : (binOp .eql t (.slice p a b) (.slice none 0 0)).run P w = .ok (.bool p.isNone) w := by
    simp only [binOp]
    simp [show Op.equal t (.slice p a b) (.slice none 0 0) = Op.equalIn (9999 + 1) t (.slice p a b) (.slice none 0 0) from rfl, equalIn_nilSlice 9999 t E p a b ht]
  simp [execOp, hx, hy, eqGuard, h1]
theorem R.makeInterface {t : TypeId} {x : Operand} {v : Value} (hx : ρ x = v) (h : (Instr.makeInterface t v).run P w = .ok (.iface t v) w) : (execOp ρ ⟨dst, .makeInterface t x, ty, pos, aft, g⟩).run P w = .ok (.value (.iface t v)) w := by
  simp [execOp, hx, h]

section
variable {S : List Seg} {K : Env → World → Prop} {i j b c : Nat} {t KT VT : TypeId} {x y z : Operand} {d : Tmp}

theorem Own.turnMap {E : List Ent} {o' : Obj} (hO : Own w S) (hi : S[i]? = some [(b, mobj E c)]) : Own { w with heap := w.heap.setIfInBounds b o' } (S.set i [(b, o')]) := by
  have hg := hO.get hi
  have hl := (Array.getElem?_eq_some_iff.1 hg).1
  refine hO.turn hi (by simp [Array.getElem?_setIfInBounds, hl]) (fun k hk => ?_)
  simp only [Array.getElem?_setIfInBounds]
  rw [if_neg (fun e => hk e.symm)]

/-- m[k] = v at a key that is not there. -/
theorem OW.mapPush {E : List Ent} {k : Int} {v : Value} (hd : dst = none) (hO : Own w S) (hx : evo env x = some (.map (some b))) (hy : evo env y = some (.int .i64 k)) (hz : evo env z = some v) (ht : P.underlying t = some (.map KT VT)) (hK : P.underlying KT = some (.int .i64))
    (hi : S[i]? = some [(b, mobj E c)]) (hn : ∀ e ∈ E, e.1 ≠ k) (h : ∀ w', Own w' (S.set i [(b, mobj (E ++ [(k, v, c)]) (c + 1))]) → K env w') : OW P n Q ⟨dst, .mapUpdate t x y z, ty, pos, aft, g⟩ env w K := by
  subst hd
  refine OW.does rfl (fun a r => ?_) (h _ (hO.turnMap hi))
  have hf := find_no E k 0 hn
  have hb := hO.get hi
  have hg := MapKept.run_getObj_map (P := P) hb
  have hs := fun o => MapKept.run_setObj_map (P := P) o hb
  simp [execOp, r.e hx, r.e hy, r.e hz, Instr.mapUpdate, run_underlying ht, hg, run_checkKey_int hK, Instr.findKey, run_underlying hK, hf, hs, mobj, ment]
theorem erase_at {α : Type} (A : List α) (e : α) (B : List α) : ((A ++ e :: B).toArray.eraseIdxIfInBounds A.length) = (A ++ B).toArray := by
  apply Array.ext'
  unfold Array.eraseIdxIfInBounds
  rw [dif_pos (by simp)]
  simp [List.eraseIdx_append_of_length_le]
/-- delete(m, k) at a key that is there. -/
theorem OW.mapDrop {β : Type} {f : β → Ent} {A B : List β} {e : β} {k : Int} (hd : dst = none) (hO : Own w S) (hx : evo env x = some (.map (some b))) (hy : evo env y = some (.int .i64 k)) (ht : P.underlying t = some (.map KT VT)) (hK : P.underlying KT = some (.int .i64))
    (hi : S[i]? = some [(b, mobj ((A ++ e :: B).map f) c)]) (hk : (f e).1 = k) (hn : ∀ a ∈ A, (f a).1 ≠ k) (h : ∀ w', Own w' (S.set i [(b, mobj ((A ++ B).map f) c)]) → K env w') : OW P n Q ⟨dst, .call ⟨.builtin .delete, #[x, y], #[t, KT]⟩, ty, pos, aft, g⟩ env w K := by
  subst hd hk
  refine OW.new (v := .tuple #[]) rfl (fun a r => ?_) (h _ (hO.turnMap hi))
  have hf := find_yes (A.map f) (f e) (B.map f) 0 (by simpa using hn)
  rw [← List.map_cons, ← List.map_append] at hf
  have hb := hO.get hi
  have hg := MapKept.run_getObj_map (P := P) hb
  have hs := fun o => MapKept.run_setObj_map (P := P) o hb
  have he : (((A ++ e :: B).map f).map ment).toArray.eraseIdxIfInBounds A.length = (((A ++ B).map f).map ment).toArray := by
    have := erase_at ((A.map f).map ment) (ment (f e)) ((B.map f).map ment)
    simpa using this
  have hrun : (Builtin.delete_ #[t, KT] ty #[.map (some b), .int .i64 (f e).1]).run P w = .ok (.tuple #[]) { w with heap := w.heap.setIfInBounds b (mobj ((A ++ B).map f) c) } := by
    simp only [Builtin.delete_, List.getElem?_toArray, List.getElem?_cons_zero, List.getElem?_cons_succ, Sem.run_bind, run_underlying ht, Result.andThen_ok, hg, run_checkKey_int hK, Instr.findKey, run_underlying hK, hf, Sem.run_pure, Nat.zero_add, List.length_map, hs, he]
    rfl
  simp [execOp, resolve, r.e hx, r.e hy, invoke, builtin, hrun]
theorem OW.makeMap (hd : Nat.blt d n = true) (hO : Own w S) (h : ∀ b w', Own w' ([(b, mobj [] 0)] :: S) → K ((d, .map (some b)) :: env) w') : OW P n Q ⟨some d, .makeMap t none, ty, pos, aft, g⟩ env w K :=
  OW.new hd (fun _ _ => by simp [execOp, Instr.makeMap, newObj, Sem.run]; rfl) (h _ _ (hO.alloc _))

/-- An iterator that has handed out D, in this order. -/
def miter {β : Type} (f : β → Ent) (m c : Nat) (D : List β) : Obj := .mapIter (some m) c (D.map fun x => (f x).2.2).toArray c
theorem OW.range {β : Type} {f : β → Ent} {E : List Ent} (hd : Nat.blt d n = true) (hO : Own w S) (hx : evo env x = some (.map (some b))) (ht : P.underlying t = some (.map KT VT)) (hj : S[j]? = some [(b, mobj E c)])
    (h : ∀ r w', Own w' ([(r, miter f b c [])] :: S) → K ((d, .pointer (some ⟨r, 0, none⟩)) :: env) w') : OW P n Q ⟨some d, .range t x, ty, pos, aft, g⟩ env w K := by
  refine OW.new hd (fun a r => ?_) (h w.heap.size (w.alloc (.mapIter (some b) c #[] c)) (hO.alloc _))
  have := run_range_map (P := P) w t KT VT b _ c ht (hO.get hj)
  simp [execOp, r.e hx, this]
theorem nodup_inj {α γ : Type} {f : α → γ} : ∀ {l : List α}, (l.map f).Nodup → ∀ {x y : α}, x ∈ l → y ∈ l → f x = f y → x = y
  | [], _, _, _, hx, _, _ => by simp at hx
  | a :: l, h, x, y, hx, hy, e => by
    simp only [List.map_cons, List.nodup_cons] at h
    rcases List.mem_cons.1 hx with hx1 | hx1
    · rcases List.mem_cons.1 hy with hy1 | hy1
      · rw [hx1, hy1]
      · subst hx1; exact absurd (e ▸ List.mem_map_of_mem hy1) h.1
    · rcases List.mem_cons.1 hy with hy1 | hy1
      · subst hy1; exact absurd (e ▸ List.mem_map_of_mem hx1) h.1
      · exact nodup_inj h.2 hx1 hy1 e
theorem born_mem {β : Type} {f : β → Ent} {M D : List β} {x : β} (hnd : (M.map fun x => (f x).2.2).Nodup) (hD : ∀ x ∈ D, x ∈ M) (hx : x ∈ M) : (D.map fun x => (f x).2.2).toArray.contains (f x).2.2 = true ↔ x ∈ D := by
  simp only [List.contains_toArray, List.contains_iff_mem, List.mem_map]
  constructor
  · rintro ⟨y, hy, e⟩
    have := nodup_inj hnd (hD y hy) hx e
    exact this ▸ hy
  · intro h; exact ⟨x, h, rfl⟩
theorem OW.next {β : Type} {f : β → Ent} {M D : List β} {m r : Nat} (hd : Nat.blt d n = true) (hO : Own w S) (hx : evo env x = some (.pointer (some ⟨r, 0, none⟩))) (hi : S[i]? = some [(r, miter f m c D)]) (hj : S[j]? = some [(m, mobj (M.map f) c)])
    (hc : ∀ x ∈ M, (f x).2.2 < c) (hnd : (M.map fun x => (f x).2.2).Nodup) (hD : ∀ x ∈ D, x ∈ M)
    (h0 : (∀ x ∈ M, x ∈ D) → K ((d, .tuple #[.bool false]) :: env) w)
    (h1 : ∀ x w', x ∈ M → x ∉ D → Own w' (S.set i [(r, miter f m c (D ++ [x]))]) → K ((d, .tuple #[.bool true, .int .i64 (f x).1, (f x).2.1]) :: env) w') : OW P n Q ⟨some d, .next x false, ty, pos, aft, g⟩ env w K := by
  have hr := hO.get hi
  have hb := hO.get hj
  rcases run_next_at (P := P) w ty r m c c _ _ c hr hb (fun y hy => by
      simp only [List.mem_map] at hy
      obtain ⟨e, ⟨z, hz, rfl⟩, rfl⟩ := hy
      exact hc z hz) (Nat.le_refl _) with ⟨h2, hrun⟩ | ⟨e, he, w1, hw1, hrun⟩
  · refine OW.value hd (v := .tuple #[.bool false]) (fun a ra => by simp [execOp, ra.e hx, hrun]) (h0 fun y hy => ?_)
    have := all_seen _ _ h2 (ment (f y)) (by simp; exact ⟨y, hy, rfl⟩)
    exact (born_mem hnd hD hy).1 this
  · obtain ⟨h3, h4⟩ := mem_left he
    simp only [List.mem_map] at h3
    obtain ⟨e', ⟨y, hy, rfl⟩, rfl⟩ := h3
    have hyD : y ∉ D := fun h5 => by
      have := (born_mem (f := f) hnd hD hy).2 h5
      rw [show (ment (f y)).born = (f y).2.2 from rfl] at h4
      rw [h4] at this; cases this
    have hO1 : Own w1 S := by rcases hw1 with rfl | rfl; exact hO; exact hO.drew
    have hg1 := hO1.get hi
    have hl1 := (Array.getElem?_eq_some_iff.1 hg1).1
    have hO2 : Own (setBlock w1 r (miter f m c (D ++ [y]))) (S.set i [(r, miter f m c (D ++ [y]))]) := by
      refine hO1.turn hi ?_ (fun k hk => ?_)
      · simp [setBlock, Array.getElem?_setIfInBounds, hl1]
      · simp only [setBlock, Array.getElem?_setIfInBounds]
        rw [if_neg (fun e => hk e.symm)]
    have hm : (Obj.mapIter (some m) c ((D.map fun x => (f x).2.2).toArray.push (ment (f y)).born) c) = miter f m c (D ++ [y]) := by simp [miter, ment]
    rw [hm] at hrun
    exact OW.new hd (v := .tuple #[.bool true, .int .i64 (f y).1, (f y).2.1]) (fun a ra => by simp [execOp, ra.e hx, hrun, ment]) (h1 y _ hy hyD hO2)
end
theorem R.entry {β : Type} {f : β → Ent} {M D : List β} {e : β} {m r c : Nat} {x : Operand} (hx : ρ x = .pointer (some ⟨r, 0, none⟩)) (hr : w.heap[r]? = some (miter f m c (D ++ [e]))) (hb : w.heap[m]? = some (mobj (M.map f) c)) (he : e ∈ M) (hnd : (M.map fun x => (f x).2.2).Nodup) :
    (execOp ρ ⟨dst, .entry x, ty, pos, aft, g⟩).run P w = .ok (.value (.tuple #[.int .i64 (f e).1, (f e).2.1])) w := by
  have := run_entry_at (P := P) w r m c (D.map fun x => (f x).2.2).toArray _ c (ment (f e)) (by rw [hr]; simp [miter, ment]) hb (by simp; exact ⟨e, he, rfl⟩) (by simpa [ment, Function.comp_def] using hnd)
  simp [execOp, hx, this, ment]
end
section
variable {P : Program} {w : World} {ty : TypeId} {pos : String} {aft : Array Edge} {g : Option (Nat × Bool)} {ρ : Operand → Value} {dst : Option Tmp}
theorem R.entry1 {β : Type} {f : β → Ent} {M D : List β} {e : β} {m r c : Nat} {x : Operand} {k : Int} {v : Value} (hx : ρ x = .pointer (some ⟨r, 0, none⟩)) (hr : w.heap[r]? = some (miter f m c (D ++ [e]))) (hb : w.heap[m]? = some (mobj (M.map f) c)) (he : e ∈ M) (hnd : (M.map fun x => (f x).2.2).Nodup)
    (hk : (f e).1 = k) (hv : (f e).2.1 = v) : (execOp ρ ⟨dst, .entry x, ty, pos, aft, g⟩).run P w = .ok (.value (.tuple #[.int .i64 k, v])) w := by
  subst hk hv; exact R.entry hx hr hb he hnd
end
theorem wrap_u8 (n : Int) : IntKind.u8.wrap n = n % 256 := by
  simp [IntKind.wrap, IntKind.bits, IntKind.signed]
section
variable {P : Program} {n : Nat} {ops : Array Oper} {Q : Exit → Act → World → Prop} {env : Env} {w : World} {ty : TypeId} {pos : String} {aft : Array Edge} {g : Option (Nat × Bool)} {ρ : Operand → Value} {dst : Option Tmp}
/-- maps.clone: the model stands in. -/
theorem OW.mapsClone {f t b c d : Nat} {fn : Func} {x : Operand} {tys : Array TypeId} {E : List Ent} {S : List Seg} {i : Nat} {K : Env → World → Prop} (hd : Nat.blt d n = true) (hO : Own w S) (hx : evo env x = some (.iface t (.map (some b)))) (hf : P.funcs[f]? = some fn) (hname : (fn.name == "runtime.NumGoroutine") = false)
    (hb : fn.body.isNone = true) (hn : Extern.findNext fn = none) (he : Extern.find fn = some Extern.MapsClone.clone) (hi : S[i]? = some [(b, mobj E c)])
    (h : ∀ b' w', Own w' ([(b', mobj E c)] :: S) → K ((d, .iface t (.map (some b'))) :: env) w') : OW P n Q ⟨some d, .call ⟨.value (.func f), #[x], tys⟩, ty, pos, aft, g⟩ env w K := by
  have hr : (Extern.MapsClone.clone #[.iface t (.map (some b))]).run P w = .ok (.iface t (.map (some w.heap.size))) (w.alloc (mobj E c)) := by
    have e : Extern.MapsClone.clone #[.iface t (.map (some b))] = (getObj b >>= fun o => match o with
        | .map entries clock => (newObj (.map entries clock) >>= fun n => pure (.iface t (.map (some n))))
        | _ => stuck "maps.clone: a map expected") := rfl
    rw [e]
    simp [MapKept.run_getObj_map (hO.get hi), Result.andThen, go_sem, mobj]
  refine OW.new hd (fun a r => ?_) (h _ _ (hO.alloc _))
  have h2 := run_callFunc_extern hf hname hb hn he #[.iface t (.map (some b))] w
  have h0 : a.eval (.func f) = .func (.func f) #[] #[] := rfl
  simp [execOp, resolve, h0, Deferred.ofValue, invoke, h2, r.e hx, hr, Result.andThen]
theorem R.assertMap {t X K V : TypeId} {x : Operand} {v : Value} (hx : ρ x = .iface t v) (ht : P.underlying t = some (.map K V)) : (execOp ρ ⟨dst, .typeAssert x X t false, ty, pos, aft, g⟩).run P w = .ok (.value v) w := by
  have : (Instr.typeAssert (.iface t v) X t false).run P w = .ok v w := by simp [Instr.typeAssert, run_underlying ht, go_sem, Result.andThen]
  simp [execOp, hx, this]
end
end Go.Sd
