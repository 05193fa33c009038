/-
  The rules of the walk: operations in a row, operations in whatever order; calls; memory.
-/
import Derived.Test.YtgkbmelecalllaaSd2
set_option linter.unusedSectionVars false
set_option linter.unusedSimpArgs false
set_option linter.unusedVariables false
namespace Go.Sd
open Go
variable [Str]

/-- What a contract says of a call that comes back. -/
def Ret (R : Value → World → Prop) : Ending → World → Prop
  | .returned v, w => R v w
  | _, _ => False
theorem Ret.mono {P : Program} {f : FuncId} {args : Array Value} {w : World} {R R' : Value → World → Prop} (h : Calls P f args w (Ret R)) (hr : ∀ v w', R v w' → R' v w') : Calls P f args w (Ret R') :=
  h.mono fun e w' he => by cases e <;> first | exact hr _ _ he | exact he

def penv (dst : Option Tmp) (v : Value) (env : Env) : Env :=
  match dst with
  | some d => (d, v) :: env
  | none => env
def dstOk (n : Nat) : Option Tmp → Bool
  | some d => Nat.blt d n
  | none => true
theorem Real.penv {n : Nat} {env : Env} {a : Act} (h : Real n env a) {dst : Option Tmp} (hd : dstOk n dst = true) (v : Value) : Real n (penv dst v env) (a.put dst v) := by
  cases dst with
  | none => exact h
  | some d => exact h.put hd v

/-- Is an operation carried out? -/
inductive Want (ops : Array Oper) (env : Env) (o : Oper) : Bool → Prop
  | free (hg : o.guard = none) : Want ops env o true
  | yes {j : Nat} {t : Tmp} {b : Bool} (hg : o.guard = some (j, b)) (hj : (ops[j]?).bind (·.dst) = some t) (hv : elook env t = some (.bool b)) : Want ops env o true
  | no {j : Nat} {t : Tmp} {b : Bool} (hg : o.guard = some (j, b)) (hj : (ops[j]?).bind (·.dst) = some t) (hv : elook env t = some (.bool (!b))) : Want ops env o false
  | un {j : Nat} {t : Tmp} {b : Bool} (hg : o.guard = some (j, b)) (hj : (ops[j]?).bind (·.dst) = some t) (hv : elook env t = some undef) : Want ops env o false

theorem getElem?_of_getD {a : Array Value} {t : Nat} {b : Bool} (h : a.getD t undef = .bool b) : a[t]? = some (.bool b) := by
  rw [Array.getD_eq_getD_getElem?] at h
  cases e : a[t]? with
  | none => rw [e] at h; simp [undef] at h
  | some v => rw [e] at h; simp at h; rw [h]

theorem Want.eq {ops : Array Oper} {env : Env} {o : Oper} {b : Bool} {n : Nat} {a : Act} (h : Want ops env o b) (ha : Real n env a) : Region.wanted o (yielded ops a.tmps) = b := by
  cases h with
  | free hg => simp [Region.wanted, hg]
  | @yes j t b hg hj hv =>
    have := getElem?_of_getD (ha.g t _ hv)
    simp [Region.wanted, hg, yielded, hj, this]
  | @no j t b hg hj hv =>
    have := getElem?_of_getD (ha.g t _ hv)
    simp [Region.wanted, hg, yielded, hj, this]
  | @un j t b hg hj hv =>
    have h1 := ha.g t _ hv
    rw [Array.getD_eq_getD_getElem?] at h1
    cases e : a.tmps[t]? with
    | none => simp [Region.wanted, hg, yielded, hj, e]
    | some v =>
      rw [e] at h1
      simp only [Option.getD_some] at h1
      subst h1
      simp [Region.wanted, hg, yielded, hj, e, undef]

section
variable {P : Program} {n : Nat} {ops : Array Oper} {Q : Exit → Act → World → Prop} {env : Env} {w : World} {rest : List Oper} {o : Oper}

/-- What one operation comes to. -/
def OW (P : Program) (n : Nat) (Q : Exit → Act → World → Prop) (o : Oper) (env : Env) (w : World) (K : Env → World → Prop) : Prop :=
  ∀ a, Real n env a → o.wp P a w (fun a' w' => ∃ env', Real n env' a' ∧ K env' w') Q

theorem LW.op (hw : Want ops env o true) (h : OW P n Q o env w (fun env' w' => LW P n ops Q rest env' w')) : LW P n ops Q (o :: rest) env w := by
  intro a ha
  unfold wpList
  rw [if_pos (hw.eq ha)]
  exact .inl (Oper.wp_mono (fun a' w' ⟨env', hr, hk⟩ => hk a' hr) (h a ha))
theorem LW.value {v : Value} (hw : Want ops env o true) (hd : dstOk n o.dst = true) (hrun : ∀ a, Real n env a → (execOp a.eval o).run P w = .ok (.value v) w) (h : LW P n ops Q rest (penv o.dst v env) w) : LW P n ops Q (o :: rest) env w := by
  intro a ha
  unfold wpList
  rw [if_pos (hw.eq ha)]
  refine .inl ?_
  unfold Oper.wp
  rw [hrun a ha]
  exact h _ (ha.penv hd v)
theorem LW.off (hw : Want ops env o false) (hd : dstOk n o.dst = true) (h : LW P n ops Q rest (penv o.dst undef env) w) : LW P n ops Q (o :: rest) env w := by
  intro a ha
  unfold wpList
  rw [if_neg (by rw [hw.eq ha]; simp)]
  exact h _ (ha.penv hd undef)

theorem OW.value {v : Value} {K : Env → World → Prop} (hd : dstOk n o.dst = true) (hrun : ∀ a, Real n env a → (execOp a.eval o).run P w = .ok (.value v) w) (h : K (penv o.dst v env) w) : OW P n Q o env w K := by
  intro a ha
  unfold Oper.wp
  rw [hrun a ha]
  exact ⟨_, ha.penv hd v, h⟩
theorem OW.new {v : Value} {w1 : World} {K : Env → World → Prop} (hd : dstOk n o.dst = true) (hrun : ∀ a, Real n env a → (execOp a.eval o).run P w = .ok (.value v) w1) (h : K (penv o.dst v env) w1) : OW P n Q o env w K := by
  intro a ha
  unfold Oper.wp
  rw [hrun a ha]
  exact ⟨_, ha.penv hd v, h⟩
theorem OW.does {w1 : World} {K : Env → World → Prop} (hd : dstOk n o.dst = true) (hrun : ∀ a, Real n env a → (execOp a.eval o).run P w = .ok .skip w1) (h : K (penv o.dst undef env) w1) : OW P n Q o env w K := by
  intro a ha
  unfold Oper.wp
  rw [hrun a ha]
  exact ⟨_, ha.penv hd undef, h⟩
theorem OW.calls {f : FuncId} {vs : Array Value} {R : Value → World → Prop} {K : Env → World → Prop} (hd : dstOk n o.dst = true) (hrun : ∀ a, Real n env a → (execOp a.eval o).run P w = .ok (.enter f vs) w) (hc : Calls P f vs w (Ret R))
    (h : ∀ v w', R v w' → K (penv o.dst v env) w') : OW P n Q o env w K := by
  intro a ha
  unfold Oper.wp
  rw [hrun a ha]
  refine hc.mono fun e w' he => ?_
  cases e with
  | returned v => exact ⟨_, ha.penv hd v, h v w' he⟩
  | panicked c => exact he.elim
  | outgrown => exact he.elim
theorem OW.mono {K K' : Env → World → Prop} (h : OW P n Q o env w K) (hk : ∀ e w, K e w → K' e w) : OW P n Q o env w K' :=
  fun a ha => Oper.wp_mono (fun _ _ ⟨env', hr, h'⟩ => ⟨env', hr, hk _ _ h'⟩) (h a ha)

/-! ### memory, as it is owned -/
def setCells (cs : Array Value) (off : Nat) : List Value → Array Value
  | [] => cs
  | v :: vs => setCells (cs.setIfInBounds off v) (off + 1) vs
theorem size_setCells : ∀ (vs : List Value) (cs : Array Value) (off : Nat), (setCells cs off vs).size = cs.size
  | [], _, _ => rfl
  | v :: vs, cs, off => by simp [setCells, size_setCells vs]

theorem setCells_pre : ∀ (vs pre mid : List Value), mid.length = vs.length → setCells (pre ++ mid).toArray pre.length vs = (pre ++ vs).toArray
  | [], pre, mid, h => by
    obtain rfl : mid = [] := by simpa using h
    simp [setCells]
  | v :: vs, pre, [], h => by simp at h
  | v :: vs, pre, m :: mid, h => by
    simp only [setCells]
    have h1 : (pre ++ m :: mid).toArray.setIfInBounds pre.length v = ((pre ++ [v]) ++ mid).toArray := by simp
    rw [h1]
    have := setCells_pre vs (pre ++ [v]) mid (by simpa using h)
    simp only [List.length_append, List.length_singleton] at this
    rw [this]
    simp
/-- A whole block written. -/
theorem setCells_full {cs : Array Value} {vs : List Value} (h : cs.size = vs.length) : setCells cs 0 vs = vs.toArray := by
  have := setCells_pre vs [] cs.toList (by simpa using h)
  simpa using this
section
variable {S : List Seg} {K : Env → World → Prop} {i b off : Nat} {cs : Array Value} {T t : TypeId} {x y : Operand} {v : Value} {dst : Option Tmp} {ty : TypeId} {pos : String} {aft : Array Edge} {g : Option (Nat × Bool)}

theorem Own.frozen {k : Nat} (h : Own w S) (hi : S[i]? = some [(b, .cells cs T (0, 0))]) : w.frozen? ⟨b, k, none⟩ = false := by
  have := h.get hi
  simp [World.frozen?, this]

theorem OW.store (hd : dst = none) (hO : Own w S) (hx : evo env x = some (.pointer (some ⟨b, off, none⟩))) (hi : S[i]? = some [(b, .cells cs T (0, 0))]) (hy : evo env y = some v) (hv : oneCell v = true) (hm : ∀ w, (sizeOf t).run P w = .ok 1 w)
    (hlt : Nat.blt off cs.size = true) (h : ∀ w', Own w' (S.set i [(b, .cells (cs.setIfInBounds off v) T (0, 0))]) → K env w') : OW P n Q ⟨dst, .store t x y, ty, pos, aft, g⟩ env w K := by
  subst hd
  have hl : off < cs.size := by simpa [Nat.blt_eq] using hlt
  exact OW.does rfl (fun a ha => R.store1 (ha.e hx) (ha.e hy) hv hm (hO.cell (k := off) hi (Array.getElem?_eq_getElem hl)) (hO.frozen hi)) (h _ (hO.setCell hi v))

theorem run_storeCells : ∀ (vs : List Value) (w : World) (S : List Seg) (cs : Array Value) (j : Nat), Own w S → S[i]? = some [(b, .cells cs T (0, 0))] → (∀ v ∈ vs, oneCell v = true) → off + j + vs.length ≤ cs.size →
    ∃ w', (storeCells ⟨b, off, none⟩ vs j).run P w = .ok () w' ∧ Own w' (S.set i [(b, .cells (setCells cs (off + j) vs) T (0, 0))])
  | [], w, S, cs, j, hO, hi, _, _ => ⟨w, rfl, by
    simp only [setCells]
    obtain ⟨hlt, he⟩ := List.getElem?_eq_some_iff.1 hi
    have : S.set i [(b, .cells cs T (0, 0))] = S := by rw [← he]; exact List.set_getElem_self hlt
    rw [this]; exact hO⟩
  | v :: vs, w, S, cs, j, hO, hi, hv, hl => by
    simp only [List.length_cons] at hl
    have h1 := hv v (by simp)
    have hc := hO.cell (k := off + j) hi (Array.getElem?_eq_getElem (by omega))
    have hf := hO.frozen (k := off + j) hi
    have hs : (store ((⟨b, off, none⟩ : Addr).add j) v).run P w = .ok () (w.setCell ⟨b, off + j, none⟩ v) := by
      rw [addr_add]
      unfold store
      cases v <;> first | (simp [oneCell] at h1; done) | (simp only [Sem.run, hc, hf]; rfl)
    have hO' := hO.setCell (k := off + j) hi v
    have hlt : i < S.length := (List.getElem?_eq_some_iff.1 hi).1
    obtain ⟨w', hr, hO''⟩ := run_storeCells vs _ _ (cs.setIfInBounds (off + j) v) (j + 1) hO' (by simp [hlt]) (fun u hu => hv u (by simp [hu])) (by simp; omega)
    refine ⟨w', ?_, ?_⟩
    · simp only [storeCells, Sem.run_bind, hs, Result.andThen_ok, hr]
    · simpa [setCells, Nat.add_assoc] using hO''

theorem OW.storen {vs : List Value} (hd : dst = none) (hO : Own w S) (hx : evo env x = some (.pointer (some ⟨b, off, none⟩))) (hi : S[i]? = some [(b, .cells cs T (0, 0))]) (hy : evo env y = some (.agg vs.toArray)) (hv : vs.all oneCell = true) (hm : ∀ w, (sizeOf t).run P w = .ok vs.length w)
    (hlt : Nat.ble (off + vs.length) cs.size = true) (h : ∀ w', Own w' (S.set i [(b, .cells (setCells cs off vs) T (0, 0))]) → K env w') : OW P n Q ⟨dst, .store t x y, ty, pos, aft, g⟩ env w K := by
  subst hd
  have hl : off + vs.length ≤ cs.size := by simpa using hlt
  obtain ⟨w', hr, hO'⟩ := run_storeCells (P := P) vs w S cs 0 hO hi (by simpa using hv) (by simpa using hl)
  refine OW.does (w1 := w') rfl (fun a ha => ?_) (h _ (by simpa using hO'))
  simp [execOp, ha.e hx, ha.e hy, Instr.storeAt, Instr.sureAddr, storeVar, Value.cells, hm, hr]

/-- A whole block written. -/
theorem OW.storeall {vs : List Value} (hd : dst = none) (hO : Own w S) (hx : evo env x = some (.pointer (some ⟨b, 0, none⟩))) (hi : S[i]? = some [(b, .cells cs T (0, 0))]) (hy : evo env y = some (.agg vs.toArray)) (hv : vs.all oneCell = true) (hm : ∀ w, (sizeOf t).run P w = .ok vs.length w)
    (hlt : Nat.beq cs.size vs.length = true) (h : ∀ w', Own w' (S.set i [(b, .cells vs.toArray T (0, 0))]) → K env w') : OW P n Q ⟨dst, .store t x y, ty, pos, aft, g⟩ env w K := by
  have he : cs.size = vs.length := Nat.eq_of_beq_eq_true hlt
  refine OW.storen (off := 0) hd hO hx hi hy hv hm (by simp [he]) fun w' hO' => h w' ?_
  rwa [setCells_full he] at hO'

theorem OW.alloc {d : Tmp} {e : TypeId} {z : Value} (hd : Nat.blt d n = true) (hO : Own w S) (hz : ∀ w, (zeroValue e).run P w = .ok z w) (hc : z.cells = cs)
    (h : ∀ b w', Own w' ([(b, .cells cs e (0, 0))] :: S) → K ((d, .pointer (some ⟨b, 0, none⟩)) :: env) w') : OW P n Q ⟨some d, .alloc e, ty, pos, aft, g⟩ env w K := by
  subst hc
  exact OW.new hd (fun _ _ => R.alloc hz) (h _ _ (hO.alloc _))
theorem OW.box {d : Tmp} {e : TypeId} (hd : Nat.blt d n = true) (hO : Own w S) (hx : evo env x = some v) (hc : v.cells = cs)
    (h : ∀ b w', Own w' ([(b, .cells cs e (0, 0))] :: S) → K ((d, .pointer (some ⟨b, 0, none⟩)) :: env) w') : OW P n Q ⟨some d, .box e x, ty, pos, aft, g⟩ env w K := by
  subst hc
  exact OW.new hd (fun _ ha => R.box (ha.e hx)) (h _ _ (hO.alloc _))
end

/-- Cells of one block, one behind the other. -/
theorem Own.cells {S : List Seg} {i b off : Nat} {cs : Array Value} {T : TypeId} {fr : Nat × Nat} {vs : List Value} (h : Own w S) (hi : S[i]? = some [(b, .cells cs T fr)]) (hv : (cs.toList.drop off).take vs.length = vs) :
    ∀ j v, vs[j]? = some v → w.cell? ⟨b, off + j, none⟩ = some v := by
  intro j v hj
  refine h.cell hi ?_
  have hl : j < vs.length := (List.getElem?_eq_some_iff.1 hj).1
  rw [← hv] at hj
  simpa [List.getElem?_take, hl] using hj

/-! ### results -/
theorem Real.q {env : Env} {n : Nat} {a : Act} {t : Nat} {v : Value} (h : Real n env a) (ht : elook env t = some v) : a.tmps[t]?.getD undef = v := by
  rw [← Array.getD_eq_getD_getElem?]; exact h.g t v ht
theorem EW.ret1 {fn : Func} {t : Tmp} {v : Value} {R : Value → World → Prop} (hr : fn.results = #[.tmp t]) (ht : elook env t = some v) (h : R v w) : EW n (bodyPost P fn (Ret R)) .ret env w :=
  fun a ha => ⟨ha.d, _, results_tmp hr a.tmps P w, by rw [ha.g t v ht]; exact h⟩
theorem EW.ret2 {fn : Func} {t u : Tmp} {v1 v2 : Value} {R : Value → World → Prop} (hr : fn.results = #[.tmp t, .tmp u]) (ht : elook env t = some v1) (hu : elook env u = some v2) (h : R (.tuple #[v1, v2]) w) : EW n (bodyPost P fn (Ret R)) .ret env w :=
  fun a ha => ⟨ha.d, _, results_tmp2 hr a.tmps P w, by rw [ha.g t v1 ht, ha.g u v2 hu]; exact h⟩
theorem EW.ret3 {fn : Func} {t u s : Tmp} {v1 v2 v3 : Value} {R : Value → World → Prop} (hr : fn.results = #[.tmp t, .tmp u, .tmp s]) (ht : elook env t = some v1) (hu : elook env u = some v2) (hs : elook env s = some v3) (h : R (.tuple #[v1, v2, v3]) w) : EW n (bodyPost P fn (Ret R)) .ret env w :=
  fun a ha => ⟨ha.d, .tuple #[v1, v2, v3], by simp [results, hr, ha.q ht, ha.q hu, ha.q hs], h⟩
theorem EW.end0 {fn : Func} {R : Value → World → Prop} (hr : fn.results = #[]) (h : R (.tuple #[]) w) : EW n (bodyPost P fn (Ret R)) .normal env w :=
  fun a ha => ⟨ha.d, _, results_none hr a.tmps P w, h⟩
theorem EW.ret0 {fn : Func} {R : Value → World → Prop} (hr : fn.results = #[]) (h : R (.tuple #[]) w) : EW n (bodyPost P fn (Ret R)) .ret env w :=
  fun a ha => ⟨ha.d, _, results_none hr a.tmps P w, h⟩
theorem EW.retc {fn : Func} {t : Tmp} {T : TypeId} {b off : Nat} {vs : List Value} {R : Value → World → Prop} (hr : fn.results = #[.cell t T]) (ht : elook env t = some (.pointer (some ⟨b, off, none⟩))) (ha : ∀ w, (isAgg T).run P w = .ok true w) (hm : ∀ w, (sizeOf T).run P w = .ok vs.length w)
    (hc : ∀ j v, vs[j]? = some v → w.cell? ⟨b, off + j, none⟩ = some v) (h : R (.agg vs.toArray) w) : EW n (bodyPost P fn (Ret R)) .ret env w := fun a hr' => by
  have := run_loadCells_list (P := P) (w := w) ⟨b, off, none⟩ vs (fun j v h => by rw [addr_add]; exact hc j v h)
  exact ⟨hr'.d, .agg vs.toArray, by simp [results, hr, hr'.q ht, asAddr, loadVar, ha, hm, this], h⟩
theorem EW.retct {fn : Func} {t u : Tmp} {T : TypeId} {b off : Nat} {vs : List Value} {v2 : Value} {R : Value → World → Prop} (hr : fn.results = #[.cell t T, .tmp u]) (ht : elook env t = some (.pointer (some ⟨b, off, none⟩))) (hu : elook env u = some v2) (ha : ∀ w, (isAgg T).run P w = .ok true w) (hm : ∀ w, (sizeOf T).run P w = .ok vs.length w)
    (hc : ∀ j v, vs[j]? = some v → w.cell? ⟨b, off + j, none⟩ = some v) (h : R (.tuple #[.agg vs.toArray, v2]) w) : EW n (bodyPost P fn (Ret R)) .ret env w := fun a hr' => by
  have := run_loadCells_list (P := P) (w := w) ⟨b, off, none⟩ vs (fun j v h => by rw [addr_add]; exact hc j v h)
  exact ⟨hr'.d, .tuple #[.agg vs.toArray, v2], by simp [results, hr, hr'.q ht, hr'.q hu, asAddr, loadVar, ha, hm, this], h⟩

/-! ### operations in whatever order -/
inductive Plan
  | done
  | take (i : Nat) (p : Plan)
  | one (i : Nat) (p : Plan)
  | two (i j : Nat) (p q : Plan)
def Plan.ok (ops : Array Oper) : Array Bool → Plan → Bool
  | l, .done => (Region.ready .any ops l).isEmpty
  | l, .take i p => (Region.ready .any ops l).contains i && Region.free .any ops l i && Plan.ok ops (l.setIfInBounds i true) p
  | l, .one i p => (Region.ready .any ops l == [i]) && Plan.ok ops (l.setIfInBounds i true) p
  | l, .two i j p q => (Region.ready .any ops l == [i, j]) && Plan.ok ops (l.setIfInBounds i true) p && Plan.ok ops (l.setIfInBounds j true) q
def Plan.len : Plan → Nat
  | .done => 0
  | .take _ p | .one _ p => p.len + 1
  | .two _ _ p q => max p.len q.len + 1

/-- The region from here on, by a plan. -/
def HP (P : Program) (n : Nat) (ops : Array Oper) (Q : Exit → Act → World → Prop) (I : World → Prop) (p : Plan) (env : Env) (w : World) : Prop :=
  ∀ l fuel, Plan.ok ops l p = true → p.len ≤ fuel → Region.noSelect ops = true → (∀ c d v a w, Q (.panic c) (a.put d v) w → Q (.panic c) a w) → ∀ a, Real n env a → wpAnyH P .any ops Q I fuel l a w

theorem HP.start {id : Nat} {rd : Option Nat} {S0 : List Seg} {I : World → Prop} {l : List Oper} (p : Plan) (hm : P.follows .mixedOrders = true) (hQ : ∀ c d v a w, Q (.panic c) (a.put d v) w → Q (.panic c) a w) (hO : Own w S0)
    (hp : (Region.noSelect l.toArray && Plan.ok l.toArray (Array.replicate l.length false) p && Nat.ble p.len l.length) = true) (h : ∀ w', Own w' S0 → HP P n l.toArray Q I p env w') (hr : RdOk rd l.toArray Q := by first | exact .inl rfl | exact .inr ⟨by kernel_rfl, fun _ _ h => h⟩) : CW (rd := rd) P n (.region id l.toArray true) Q env w := by
  intro a ha
  simp only [Bool.and_eq_true] at hp
  have hH := h _ hO.drew _ _ (by simpa using hp.1.2) (by simpa using hp.2) hp.1.1 hQ a ha
  cases rd with
  | none => exact wp_region_held (S := I) hm hH
  | some r => exact wpIn_region_any hm (wpAny_in hr _ _ _ _ (wpAny_of_held _ _ _ _ hH))
theorem HP.done {I : World → Prop} (h : EW n Q .normal env w) : HP P n ops Q I .done env w := fun l fuel hp _ _ _ a ha =>
  wpAnyH_done (by simpa [Plan.ok] using hp) (h a ha) fuel

theorem HP.take {I : World → Prop} {i : Nat} {p : Plan} {v : Value} (hi : ops[i]? = some o) (hw : Want ops env o true) (hd : dstOk n o.dst = true) (hI : I w) (hrun : ∀ a, Real n env a → ∀ w, I w → (execOp a.eval o).run P w = .ok (.value v) w) (h : HP P n ops Q I p (penv o.dst v env) w) : HP P n ops Q I (.take i p) env w := by
  intro l fuel hp hf hs hQ a ha
  simp only [Plan.ok, Bool.and_eq_true, Plan.len] at hp hf
  obtain ⟨k, rfl⟩ : ∃ k, fuel = k + 1 := ⟨fuel - 1, by omega⟩
  exact wpAnyH_take hi hs hp.1.2 hp.1.1 (fun c a w => hQ c o.dst v a w) (.inl ⟨hw.eq ha, fun w hw' => hrun a ha w hw'⟩) hI (h _ _ hp.2 (by omega) hs hQ _ (ha.penv hd v))
theorem HP.takeOff {I : World → Prop} {i : Nat} {p : Plan} (hi : ops[i]? = some o) (hw : Want ops env o false) (hd : dstOk n o.dst = true) (hI : I w) (h : HP P n ops Q I p (penv o.dst undef env) w) : HP P n ops Q I (.take i p) env w := by
  intro l fuel hp hf hs hQ a ha
  simp only [Plan.ok, Bool.and_eq_true, Plan.len] at hp hf
  obtain ⟨k, rfl⟩ : ∃ k, fuel = k + 1 := ⟨fuel - 1, by omega⟩
  exact wpAnyH_take hi hs hp.1.2 hp.1.1 (fun c a w => hQ c o.dst undef a w) (.inr ⟨hw.eq ha, rfl⟩) hI (h _ _ hp.2 (by omega) hs hQ _ (ha.penv hd undef))
theorem HP.stepOf {I : World → Prop} {i k : Nat} {p : Plan} {l : Array Bool} (hi : ops[i]? = some o) (hw : Want ops env o true) (h : OW P n Q o env w (fun env' w' => I w' ∧ HP P n ops Q I p env' w')) (hp : Plan.ok ops (l.setIfInBounds i true) p = true) (hf : p.len ≤ k) (hs : Region.noSelect ops = true)
    (hQ : ∀ c d v a w, Q (.panic c) (a.put d v) w → Q (.panic c) a w) {a : Act} (ha : Real n env a) : wpOp P ops Q i (fun a' w' => I w' ∧ wpAnyH P .any ops Q I k (l.setIfInBounds i true) a' w') a w := by
  unfold wpOp
  simp only [hi]
  rw [if_pos (hw.eq ha)]
  exact .inl (Oper.wp_mono (fun a' w' ⟨env', hr, hI, hk⟩ => ⟨hI, hk _ _ hp hf hs hQ a' hr⟩) (h a ha))
theorem HP.one {I : World → Prop} {i : Nat} {p : Plan} (hi : ops[i]? = some o) (hw : Want ops env o true) (h : OW P n Q o env w (fun env' w' => I w' ∧ HP P n ops Q I p env' w')) : HP P n ops Q I (.one i p) env w := by
  intro l fuel hp hf hs hQ a ha
  simp only [Plan.ok, Bool.and_eq_true, Plan.len, beq_iff_eq] at hp hf
  obtain ⟨k, rfl⟩ : ∃ k, fuel = k + 1 := ⟨fuel - 1, by omega⟩
  refine wpAnyH_all hp.1 (by simp) fun j hj => ?_
  obtain rfl : j = i := by simpa using hj
  exact HP.stepOf hi hw h hp.2 (by omega) hs hQ ha
theorem HP.oneOff {I : World → Prop} {i : Nat} {p : Plan} (hi : ops[i]? = some o) (hw : Want ops env o false) (hd : dstOk n o.dst = true) (hI : I w) (h : HP P n ops Q I p (penv o.dst undef env) w) : HP P n ops Q I (.one i p) env w := by
  intro l fuel hp hf hs hQ a ha
  simp only [Plan.ok, Bool.and_eq_true, Plan.len, beq_iff_eq] at hp hf
  obtain ⟨k, rfl⟩ : ∃ k, fuel = k + 1 := ⟨fuel - 1, by omega⟩
  refine wpAnyH_all hp.1 (by simp) fun j hj => ?_
  obtain rfl : j = i := by simpa using hj
  unfold wpOp
  simp only [hi]
  rw [if_neg (by rw [hw.eq ha]; simp)]
  exact ⟨hI, h _ _ hp.2 (by omega) hs hQ _ (ha.penv hd undef)⟩
theorem HP.two {I : World → Prop} {i j : Nat} {p q : Plan} {o' : Oper} (hi : ops[i]? = some o) (hj : ops[j]? = some o') (hw : Want ops env o true) (hw' : Want ops env o' true) (h : OW P n Q o env w (fun env' w' => I w' ∧ HP P n ops Q I p env' w'))
    (h' : OW P n Q o' env w (fun env' w' => I w' ∧ HP P n ops Q I q env' w')) : HP P n ops Q I (.two i j p q) env w := by
  intro l fuel hp hf hs hQ a ha
  simp only [Plan.ok, Bool.and_eq_true, Plan.len, beq_iff_eq] at hp hf
  obtain ⟨k, rfl⟩ : ∃ k, fuel = k + 1 := ⟨fuel - 1, by omega⟩
  refine wpAnyH_all hp.1.1 (by simp) fun m hm => ?_
  simp only [List.mem_cons, List.not_mem_nil, or_false] at hm
  rcases hm with rfl | rfl
  · exact HP.stepOf hi hw h hp.1.2 (by omega) hs hQ ha
  · exact HP.stepOf hj hw' h' hp.2 (by omega) hs hQ ha
end
end Go.Sd
