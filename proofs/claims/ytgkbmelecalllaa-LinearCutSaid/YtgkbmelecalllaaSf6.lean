/-
  A range over a function: the statement, its rounds, the call of yield.
-/
import Derived.Test.YtgkbmelecalllaaSf5
import Derived.RangeFuncRecord
set_option linter.unusedSectionVars false
set_option linter.unusedSimpArgs false
set_option linter.unusedVariables false
namespace Go.Sd
open Go
variable [Str]

/-- A loop's record. -/
def lrec (fn : FuncId) (tmps : Array Value) (ps : Array Tmp) (assign body : Code) (D : Nat) (st : LoopState) : Obj := .loop { state := st, pending := none, fn, tmps, params := ps, assign, body, defers := D }
/-- The block for the rounds' deferred calls: none. -/
def dblk : Obj := .deferred (some [])
section
variable {P : Program} {n : Nat} {Q : Exit → Act → World → Prop} {env : Env} {w : World} {S : List Seg} {fn : FuncId} {tmps : Array Value} {ps : Array Tmp} {assign body : Code} {D l : Nat}

theorem Own.putObj {i b : Nat} {o o' : Obj} (hO : Own w S) (hi : S[i]? = some [(b, o)]) : Own (w.putObj b o') (S.set i [(b, o')]) := by
  have hg := hO.get hi
  exact hO.turn hi (World.putObj_heap_same (Array.getElem?_eq_some_iff.1 hg).1) (fun k hk => World.putObj_heap_other hk)

theorem enterM {f : FuncId} {fn : Func} {c : Code} {args : List Value} {R : Ending → World → Prop} (hf : P.funcs[f]? = some fn) (hb : fn.body = some c) (hn : fn.ntmps = n) (hs : Nat.ble args.length n = true)
    (h : CW (rd := none) P n c (bodyPostM Fence.wide 0 P fn R) (argsEnv args 0) w) : Calls P f args.toArray w R :=
  (callsIn_wide (n := 0)).1 (callsIn_of_wp_marks hf hb trivial (wpIn_wide.2 (by subst hn; exact h _ (real_start args _ hs))))

/-- The statement. -/
theorem CW.rangeFunc {g : Operand} {fi : FuncId} {cap : List Value} {K : World → Prop} (hO : Own w S) (hg : evo env g = some (.func (.func fi) #[] cap.toArray)) (hfi : ∀ args w, (callFunc fi args).run P w = .ok (.enter fi args) w)
    (hcall : ∀ (a : Act) (l D : Nat) (w2 : World) (fn : FuncId), Real n env a → Own w2 ([(l, lrec fn a.tmps ps assign body D .ready)] :: [(D, dblk)] :: S) →
      Calls P fi (.func (.yield l) #[] #[] :: cap).toArray w2 (Ret fun _ w' => ∃ S', Own w' ([(l, lrec fn a.tmps ps assign body D .ready)] :: [(D, dblk)] :: S') ∧ ∀ w'', Own w'' S' → K w''))
    (hend : ∀ (a : Act) (D : Nat) (w' : World), Real n env a → w'.heap[D]? = some dblk → K (w'.putObj D (.deferred none)) → Q .normal { a with defers := [{ target := .collected D, args := #[] }] } w') :
    CW (rd := none) P n (.rangeFunc g ps assign body) Q env w := by
  intro a ha
  refine wpIn_wide.1 (wpIn_rangeFunc (F := Fence.wide) (n := 0) fun fn _ => ?_)
  have he := run_enterLoop_outer (P := P) (w := w) fn a.tmps ps assign body
  have h1 : Own ((w.alloc dblk).alloc (lrec fn a.tmps ps assign body w.heap.size .ready)) ([((w.alloc dblk).heap.size, lrec fn a.tmps ps assign body w.heap.size .ready)] :: [(w.heap.size, dblk)] :: S) := (hO.alloc dblk).alloc _
  rw [World.size_alloc] at h1
  have hgv := ha.e hg
  refine ⟨w.heap.size + 1, _, (w.alloc dblk).alloc (lrec fn a.tmps ps assign body w.heap.size .ready), { target := .fn (.func fi) cap.toArray, args := #[.func (.yield (w.heap.size + 1)) #[] #[]] }, (w.alloc dblk).alloc (lrec fn a.tmps ps assign body w.heap.size .ready), fi, (.func (.yield (w.heap.size + 1)) #[] #[] :: cap).toArray, (w.alloc dblk).alloc (lrec fn a.tmps ps assign body w.heap.size .ready), he, ?_, fun _ _ => trivial, ?_, fun h => by simp [Fence.wide] at h, ?_⟩
  · have hc : a.eval (.const (.func (.yield (w.heap.size + 1)) #[] #[])) = .func (.yield (w.heap.size + 1)) #[] #[] := rfl
    simp [resolve, rangeCall, hgv, hc, Deferred.ofValue]
  · simp [invoke, hfi]
  · refine callsIn_wide.2 ((hcall a _ _ _ fn ha h1).mono fun e w' h => ?_)
    cases e with
    | returned v =>
      obtain ⟨S', hO', hK⟩ := h
      have hb : (LoopState.ready : LoopState) ≠ .busy := by decide
      refine ⟨none, _, run_endLoop (hO'.get (i := 0) rfl) hb, ?_⟩
      have h2 := hO'.putObj (o' := .loop { state := .exhausted, pending := none, fn := fn, tmps := a.tmps, params := ps, assign := assign, body := body, defers := w.heap.size }) (i := 0) rfl
      have h3 := h2.get (i := 1) rfl
      have h4 : Own _ S' := ((h2.putObj (o' := .deferred none) (i := 1) rfl).drop).drop
      have := hend a w.heap.size _ ha h3 (hK _ h4)
      rw [ha.d]
      exact this
    | panicked ch => exact h.elim
    | outgrown => exact h.elim

/-- One round, out of its walk. -/
theorem round_of {a : Act} {env' : Env} {J : World → Prop} (hr : Real n env' a)
    (h : CW (rd := some l) P n assign (Exit.then (fun a₁ w₁ => ∃ w₂, (Instr.beginRound l).run P w₁ = .ok () w₂ ∧ wpx (some l) P body (roundPost P l (fun e w' => e = .returned (.bool true) ∧ J w')) a₁ w₂) (fun _ _ _ => False)) env' w) :
    RoundIn Fence.wide 0 P l fn a.tmps assign body w (fun e w' => e = .returned (.bool true) ∧ J w') := by
  have h1 := h a hr
  have e : a = { tmps := a.tmps, defers := [] } := by have := hr.d; cases a; simp_all
  rw [e] at h1
  exact roundIn_of_wpIn trivial h1
/-- Behind the assignment the body begins. -/
theorem EW.begins {i : Nat} {R : Ending → World → Prop} (hO : Own w S) (hi : S[i]? = some [(l, lrec fn tmps ps assign body D .ready)]) (h : ∀ w', Own w' (S.set i [(l, lrec fn tmps ps assign body D .busy)]) → CW (rd := some l) P n body (roundPost P l R) env w') :
    EW n (Exit.then (fun a₁ w₁ => ∃ w₂, (Instr.beginRound l).run P w₁ = .ok () w₂ ∧ wpx (some l) P body (roundPost P l R) a₁ w₂) (fun _ _ _ => False)) .normal env w :=
  fun a ha => ⟨_, run_beginRound (hO.get hi) rfl, h _ (hO.putObj hi) a ha⟩
/-- The round's end. -/
theorem EW.endround {i : Nat} {J : World → Prop} (hO : Own w S) (hi : S[i]? = some [(l, lrec fn tmps ps assign body D .busy)]) (h : ∀ w', Own w' (S.set i [(l, lrec fn tmps ps assign body D .ready)]) → J w') :
    EW n (roundPost P l (fun e w' => e = .returned (.bool true) ∧ J w')) .normal env w :=
  fun a ha => ⟨.bool true, _, run_endRound none (hO.get hi), rfl, h _ (hO.putObj hi)⟩

/-! ### where yield is called -/
def LWI (P : Program) (n : Nat) (ops : Array Oper) (Q : Exit → Act → World → Prop) (rest : List Oper) (env : Env) (w : World) : Prop := ∀ a, Real n env a → wpListIn Fence.wide 0 P ops Q rest a w
theorem CW.regionI {id : Nat} {L : List Oper} (h : LWI P n L.toArray Q L env w) : CW (rd := none) P n (.region id L.toArray false) Q env w := fun a ha => wpIn_wide.1 (wpIn_region_lit (h a ha))
variable {ops : Array Oper} {rest : List Oper} {o : Oper}
theorem LWI.nil (h : EW n Q .normal env w) : LWI P n ops Q [] env w := fun a ha => h a ha
theorem LWI.value {v : Value} (hw : Want ops env o true) (hd : dstOk n o.dst = true) (hrun : ∀ a, Real n env a → (execOp a.eval o).run P w = .ok (.value v) w) (hnd : (match o.op with | .defer _ => false | _ => true) = true) (h : LWI P n ops Q rest (penv o.dst v env) w) : LWI P n ops Q (o :: rest) env w := by
  intro a ha
  unfold wpListIn
  rw [if_pos (hw.eq ha)]
  refine ⟨fun _ _ => trivial, ?_⟩
  have e : Oper.semAt Fence.wide.round a.eval o = execOp a.eval o := rfl
  rw [e, hrun a ha]
  exact h _ (ha.penv hd v)
theorem LWI.round {i : Nat} {x : Operand} {xs : Array Operand} {tys : Array TypeId} {vs : List Value} {J : World → Prop} {d : Tmp} {ty : TypeId} {pos : String} {aft : Array Edge} (hw : Want ops env ⟨some d, .call ⟨.value x, xs, tys⟩, ty, pos, aft, none⟩ true) (hd : Nat.blt d n = true) (hO : Own w S) (hi : S[i]? = some [(l, lrec fn tmps ps assign body D .ready)])
    (hx : evo env x = some (.func (.yield l) #[] #[])) (hv : ∀ a, Real n env a → Args a.eval xs.toList vs) (hs : vs.length = ps.size)
    (hround : RoundIn Fence.wide 0 P l fn ((ps.zip vs.toArray).foldl (fun tmps (t, a) => tmps.setIfInBounds t a) tmps) assign body w (fun e w' => e = .returned (.bool true) ∧ J w'))
    (h : ∀ w', J w' → LWI P n ops Q rest ((d, .bool true) :: env) w') : LWI P n ops Q (⟨some d, .call ⟨.value x, xs, tys⟩, ty, pos, aft, none⟩ :: rest) env w := by
  intro a ha
  unfold wpListIn
  rw [if_pos (hw.eq ha)]
  refine ⟨fun _ _ => trivial, ?_⟩
  have hxs := args_map (hv a ha)
  have hy := run_yield (P := P) (args := vs.toArray) (hO.get hi) (by simpa using hs)
  have e : (Oper.semAt Fence.wide.round a.eval ⟨some d, .call ⟨.value x, xs, tys⟩, ty, pos, aft, none⟩).run P w = .ok (.round l fn ((ps.zip vs.toArray).foldl (fun tmps (t, a) => tmps.setIfInBounds t a) tmps) assign body) w := by
    show (execOp a.eval ⟨some d, .call ⟨.value x, xs, tys⟩, ty, pos, aft, none⟩).run P w = _
    simp only [execOp, resolve, ha.e hx, Deferred.ofValue, invoke, hxs, Sem.run_bind, Sem.run_pure, Result.andThen_ok]
    simp [hy, invoke]
  rw [e]
  refine ⟨fun h => by simp [Fence.wide] at h, hround.mono fun e' w' h' => ?_⟩
  obtain ⟨rfl, hJ⟩ := h'
  exact h w' hJ _ (ha.put hd _)
end
/-- A function without results is left, with the loop's mark. -/
theorem leaves0 {P : Program} {fn : Func} {R : Value → World → Prop} {a : Act} {D : Nat} {w : World} (hr : fn.results = #[]) (h : w.heap[D]? = some dblk) (hR : R (.tuple #[]) (w.putObj D (.deferred none))) :
    LeavesInM Fence.wide 0 P fn a.tmps (Ret R) [{ target := .collected D, args := #[] }] .returning w :=
  ⟨by simp, .inl ⟨D, _, rfl, run_takeDeferred h, _, results_none hr a.tmps P _, hR⟩⟩
theorem Own.hide {w : World} {r d b : Seg} {R : List Seg} (h : Own w (r :: d :: b :: R)) : ∃ Z : Seg, Z = r ++ (d ++ b) ∧ Own w (Z :: R) := ⟨_, rfl, h.perm' (by simp)⟩
theorem Own.unhide {w : World} {r d b Z : Seg} {R : List Seg} (hZ : Z = r ++ (d ++ b)) (h : Own w (Z :: R)) : Own w (r :: d :: b :: R) := by subst hZ; exact h.perm' (by simp)
end Go.Sd
