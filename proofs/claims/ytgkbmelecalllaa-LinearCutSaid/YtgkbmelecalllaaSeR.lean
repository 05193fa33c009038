/-
  (*searcher).next, walked.
-/
import Derived.Test.YtgkbmelecalllaaSeO
set_option linter.unusedSimpArgs false
set_option linter.unusedVariables false
set_option linter.unusedSectionVars false
namespace Go.Sd
open Go Go.Proofs
variable [Str]
section
variable {P : Program} {ρ : Operand → Value} {w : World} {dst : Option Tmp} {ty t' : TypeId} {pos : String} {aft : Array Edge} {g : Option (Nat × Bool)} {x y : Operand} {a b : Cal}
theorem eqcal (hx : ρ x = .agg #[.int .i64 a.th, .int .i64 a.d, .int .i64 a.h, .int .i64 a.off, .int .i64 a.n, .int .i64 a.code, .int .i64 a.num, .bool a.done, .int .i64 a.frm, .int .i64 a.to_]) (hy : ρ y = .agg #[.int .i64 b.th, .int .i64 b.d, .int .i64 b.h, .int .i64 b.off, .int .i64 b.n, .int .i64 b.code, .int .i64 b.num, .bool b.done, .int .i64 b.frm, .int .i64 b.to_]) : (execOp ρ ⟨dst, .binOp .eql 73 x y t', ty, pos, aft, g⟩).run Try.prog w = .ok (.value (.bool (decide (a = b)))) w := by
  simp only [execOp, hx, hy]
  simp [go_sem]
  by_cases h : a = b
  · subst h; simp
  · rw [decide_eq_false h]
    repeat' split
    all_goals first | rfl | (exfalso; apply h; cases a; cases b; simp_all)
theorem R.makeFunc {f : FuncId} {caps : Array Operand} {vs : List Value} (hc : Args ρ caps.toList vs) : (execOp ρ ⟨dst, .makeFunc (.func f) #[] caps, ty, pos, aft, g⟩).run P w = .ok (.value (.func (.func f) #[] vs.toArray)) w := by
  have h := args_map hc
  simp [execOp, Instr.makeFunc, h]
end
theorem firstI {cs : List Cal} {i j : Nat} {c : Cal} (hu : cs.Nodup) (hi : cs[i]? = some c) (hj : cs[j]? = some c) : j = i := by
  obtain ⟨h1, e1⟩ := List.getElem?_eq_some_iff.1 hi
  obtain ⟨h2, e2⟩ := List.getElem?_eq_some_iff.1 hj
  exact (List.getElem_inj hu).1 (e2.trans e1.symm)

set_option maxRecDepth 100000 in
set_option maxHeartbeats 400000 in
theorem v_index (G F : Seg) (aC : Option Addr) (nC cC : Nat) (cs : List Cal) (hC : Sl G 10 encL aC nC cC cs) (hn : cs.length ≤ 1000) (hu : cs.Nodup) (i : Nat) (x : Cal) (hi : cs[i]? = some x) (w : World) (hO : Own w [G, F]) : Calls Try.prog 50 [.slice aC nC cC, .agg #[.int .i64 x.th, .int .i64 x.d, .int .i64 x.h, .int .i64 x.off, .int .i64 x.n, .int .i64 x.code, .int .i64 x.num, .bool x.done, .int .i64 x.frm, .int .i64 x.to_]].toArray w (Ret fun v w' => v = .int .i64 i ∧ Own w' [G, F]) := by
  have hlC := hC.hlen
  have hil := (List.getElem?_eq_some_iff.1 hi).1
  refine enter (n := 19) Try.func50 rfl rfl rfl ?_
  refine CW.seq ?_
  refine CW.region ?_
  refine LW.op (.free rfl) (OW.box (cs := #[.int .i64 x.th, .int .i64 x.d, .int .i64 x.h, .int .i64 x.off, .int .i64 x.n, .int .i64 x.code, .int .i64 x.num, .bool x.done, .int .i64 x.frm, .int .i64 x.to_]) rfl hO rfl rfl ?_)
  intro b1 w2 hO3
  refine LW.value (.free rfl) rfl (fun _ r => R.assign (r.e rfl)) ?_
  refine LW.nil (EW.then (?_))
  refine CW.seq ?_
  refine CW.seq ?_
  refine CW.region ?_
  refine LW.value (.free rfl) rfl (fun _ r => R.move (r.e rfl)) ?_
  refine LW.value (.free rfl) rfl (fun _ r => R.len_slice (r.e rfl) Try.runUnderlying53) ?_
  refine LW.value (.free rfl) rfl (fun _ r => R.move (r.e rfl)) ?_
  refine LW.nil (EW.then (?_))
  refine CW.block ?_
  refine CW.sub (env' := [(0, .slice aC nC cC), (3, .pointer (some ⟨b1, 0, none⟩)), (6, .slice aC nC cC), (7, .int .i64 (nC : Int)), (8, .int .i64 (0 : Int))]) ⟨rfl, rfl, rfl, rfl, rfl, trivial⟩ ?_
  refine CW.loop (α := Nat) (fun j env_ w_ => env_ = [(0, .slice aC nC cC), (3, .pointer (some ⟨b1, 0, none⟩)), (6, .slice aC nC cC), (7, .int .i64 (nC : Int)), (8, .int .i64 (j : Int))] ∧ Own w_ [[(b1, .cells #[.int .i64 x.th, .int .i64 x.d, .int .i64 x.h, .int .i64 x.off, .int .i64 x.n, .int .i64 x.code, .int .i64 x.num, .bool x.done, .int .i64 x.frm, .int .i64 x.to_] 73 (0, 0))], G, F] ∧ (j ≤ i)) (fun j => cs.length - j) 0 ⟨rfl, hO3, Nat.zero_le _⟩ ?_
  rintro j _ w4 ⟨rfl, hO5, hj⟩
  refine CW.seq ?_
  refine CW.region ?_
  refine LW.value (.free rfl) rfl (fun _ r => R.lss (r.e rfl) (r.e rfl)) ?_
  refine LW.nil (EW.then (?_))
  refine CW.seq ?_
  by_cases h6 : (j : Int) < (nC : Int)
  · -- (j : Int) < (nC : Int)
    refine CW.yes (kb (dT h6)) ?_
    refine CW.skip (EW.then (?_))
    refine CW.seq ?_
    refine CW.block ?_
    refine CW.seq ?_
    refine CW.region ?_
    refine LW.value (.free rfl) rfl (fun _ r => R.move (r.e rfl)) ?_
    refine LW.value (.free rfl) rfl (fun _ r => R.assign (r.e rfl)) ?_
    refine LW.nil (EW.then (?_))
    refine CW.seq ?_
    refine HP.start (I := fun w' => Own w' [[(b1, .cells #[.int .i64 x.th, .int .i64 x.d, .int .i64 x.h, .int .i64 x.off, .int .i64 x.n, .int .i64 x.code, .int .i64 x.num, .bool x.done, .int .i64 x.frm, .int .i64 x.to_] 73 (0, 0))], G]) (.take 0 (.take 1 (.take 2 (.take 3 (.take 4 (.take 5 (.done))))))) Try.mixed (by intro c d v a w h; cases d <;> exact h) hO5 (by kernel_rfl) ?_
    intro w8 hO9
    have hI10 := hO9.pick [0, 0] rfl
    refine HP.take rfl (.free rfl) rfl hI10 (fun _ r _ hI => R.loadn (vs := [.int .i64 x.th, .int .i64 x.d, .int .i64 x.h, .int .i64 x.off, .int .i64 x.n, .int .i64 x.code, .int .i64 x.num, .bool x.done, .int .i64 x.frm, .int .i64 x.to_]) (r.e rfl) Try.isAgg73 Try.sizeOf73 rfl (hI.cells (i := 0) rfl rfl)) ?_
    refine HP.take rfl (.free rfl) rfl hI10 (fun _ r _ hI => R.move (r.e rfl)) ?_
    refine HP.take rfl (.free rfl) rfl hI10 (fun _ r _ hI => R.move (r.e rfl)) ?_
    obtain ⟨x11, hxx11⟩ : ∃ t, (cs)[j]? = some t := ⟨_, List.getElem?_eq_getElem (by omega)⟩
    obtain ⟨blx11, olx11, hax11, hcx11⟩ := hC.at_ _ _ hxx11
    refine HP.take rfl (.free rfl) rfl hI10 (fun _ r _ hI => R.indexAddr_o (k := olx11 + j * 10) (r.e rfl) hax11 (r.e rfl) Try.runUnderlying53 Try.sizeOf73 (by omega) (by omega) (by simp)) ?_
    refine HP.take rfl (.free rfl) rfl hI10 (fun _ r _ hI => R.loadn (vs := [.int .i64 x11.th, .int .i64 x11.d, .int .i64 x11.h, .int .i64 x11.off, .int .i64 x11.n, .int .i64 x11.code, .int .i64 x11.num, .bool x11.done, .int .i64 x11.frm, .int .i64 x11.to_]) (r.e rfl) Try.isAgg73 Try.sizeOf73 rfl (fun j v hj => hI.pc (i := 1) rfl (hcx11 j v hj))) ?_
    refine HP.take rfl (.free rfl) rfl hI10 (fun _ r _ hI => eqcal (r.e rfl) (r.e rfl)) ?_
    refine HP.done (EW.then (?_))
    by_cases h12 : x = x11
    · -- x = x11
      refine CW.yes (kb (dT h12)) ?_
      refine CW.seq ?_
      refine CW.region ?_
      refine LW.value (.free rfl) rfl (fun _ r => R.move (r.e rfl)) ?_
      refine LW.value (.free rfl) rfl (fun _ r => R.assign (r.e rfl)) ?_
      refine LW.nil (EW.then (?_))
      refine CW.ret (EW.inB_ret (EW.then_ret (EW.then_ret (EW.inB_ret (EW.then_ret (?_))))))
      refine EW.ret1 rfl rfl ?_
      have e : j = i := firstI hu hi (by rw [hxx11]; exact congrArg some h12.symm)
      exact ⟨by rw [e], hO9.pick [1, 1] rfl⟩
    · -- not: x = x11
      refine CW.no (kb (dF h12)) ?_
      refine CW.skip (EW.inB_normal (EW.then (?_)))
      refine CW.region ?_
      refine LW.value (.free rfl) rfl (fun _ r => R.as (R.add (r.e rfl) (r.e rfl)) (congrArg (Value.int .i64) (wrap_i64 (by omega) (by omega)))) ?_
      refine LW.value (.free rfl) rfl (fun _ r => R.move (r.e rfl)) ?_
      refine LW.nil ?_
      exact EW.sub (env' := [(0, .slice aC nC cC), (3, .pointer (some ⟨b1, 0, none⟩)), (6, .slice aC nC cC), (7, .int .i64 (nC : Int)), (8, .int .i64 ((j + 1) : Int))]) ⟨rfl, rfl, rfl, rfl, rfl, trivial⟩ (EW.round (j + 1) ⟨rfl, hO9.pick [0, 0, 0] rfl, by
          by_cases e : j = i
          · subst e; rw [hi] at hxx11; cases hxx11; exact absurd rfl h12
          · omega⟩ (by omega))
  · -- not: (j : Int) < (nC : Int)
    refine CW.no (kb (dF h6)) ?_
    refine CW.exit (EW.then_exit (EW.then_exit (EW.inB_same (EW.then (?_)))))
    refine CW.seq ?_
    refine CW.region ?_
    refine LW.value (.free rfl) rfl (fun _ r => R.assign (r.e rfl)) ?_
    refine LW.nil (EW.then (?_))
    refine CW.ret ?_
    refine EW.ret1 rfl rfl ?_
    exfalso; omega

set_option maxRecDepth 100000 in
set_option maxHeartbeats 400000 in
theorem v_next1 (bA bB bC : Nat) (t : Int) (ps : Nat) (wv : Value) (aH : Option Addr) (nH cH : Nat) (G F : Seg) (aC : Option Addr) (nC cC : Nat) (cs : List Cal) (hC : Sl G 10 encL aC nC cC cs) (hn : cs.length ≤ 1000) (aL : Option Addr) (nL cL : Nat) (left : List Bool) (hL : Sl G 1 encB aL nL cL left) (hll : left.length = cs.length) (hu : cs.Nodup) (i : Nat) (x : Cal) (hi : cs[i]? = some x) (li : Bool) (hli : left[i]? = some li) (w : World) (hO : Own w [[(bA, .cells #[.int .i64 t] 3 (0, 0))], [(bB, .cells #[.slice aL nL cL] 50 (0, 0))], [(bC, .cells #[.pointer (some ⟨ps, 0, none⟩)] 56 (0, 0))], [(ps, .cells #[.slice aC nC cC, .slice aH nH cH, wv] 59 (0, 0))], G, F]) : Calls Try.prog 49 [.agg #[.int .i64 x.th, .int .i64 x.d, .int .i64 x.h, .int .i64 x.off, .int .i64 x.n, .int .i64 x.code, .int .i64 x.num, .bool x.done, .int .i64 x.frm, .int .i64 x.to_], .pointer (some ⟨bA, 0, none⟩), .pointer (some ⟨bB, 0, none⟩), .pointer (some ⟨bC, 0, none⟩)].toArray w (Ret fun v w' => v = .bool (decide (x.th = t) && li) ∧ Own w' [[(bA, .cells #[.int .i64 t] 3 (0, 0))], [(bB, .cells #[.slice aL nL cL] 50 (0, 0))], [(bC, .cells #[.pointer (some ⟨ps, 0, none⟩)] 56 (0, 0))], [(ps, .cells #[.slice aC nC cC, .slice aH nH cH, wv] 59 (0, 0))], G, F]) := by
  have hlC := hC.hlen
  have hlL := hL.hlen
  have hil := (List.getElem?_eq_some_iff.1 hi).1
  refine enter (n := 21) Try.func49 rfl rfl rfl ?_
  refine CW.seq ?_
  refine CW.region ?_
  refine LW.op (.free rfl) (OW.box (cs := #[.int .i64 x.th, .int .i64 x.d, .int .i64 x.h, .int .i64 x.off, .int .i64 x.n, .int .i64 x.code, .int .i64 x.num, .bool x.done, .int .i64 x.frm, .int .i64 x.to_]) rfl hO rfl rfl ?_)
  intro b1 w2 hO3
  refine LW.value (.free rfl) rfl (fun _ r => R.assign (r.e rfl)) ?_
  refine LW.nil (EW.then (?_))
  refine CW.seq ?_
  refine HP.start (I := fun w' => Own w' [[(b1, .cells #[.int .i64 x.th, .int .i64 x.d, .int .i64 x.h, .int .i64 x.off, .int .i64 x.n, .int .i64 x.code, .int .i64 x.num, .bool x.done, .int .i64 x.frm, .int .i64 x.to_] 73 (0, 0))], [(bA, .cells #[.int .i64 t] 3 (0, 0))], [(bB, .cells #[.slice aL nL cL] 50 (0, 0))], [(bC, .cells #[.pointer (some ⟨ps, 0, none⟩)] 56 (0, 0))], [(ps, .cells #[.slice aC nC cC, .slice aH nH cH, wv] 59 (0, 0))], G]) (.take 0 (.take 1 (.take 2 (.take 3 (.take 4 (.take 5 (.take 6 (.take 7 (.take 8 (.take 9 (.take 10 (.one 11 (.take 12 (.take 13 (.take 14 (.take 15 (.done))))))))))))))))) Try.mixed (by intro c d v a w h; cases d <;> exact h) hO3 (by kernel_rfl) ?_
  intro w4 hO5
  have hI6 := hO5.pick [0, 0, 0, 0, 0, 0] rfl
  refine HP.take rfl (.free rfl) rfl hI6 (fun _ r _ hI => R.fieldAddr (k := 0) (r.e rfl) Try.runUnderlying73 rfl Try.sizeOf3 rfl) ?_
  refine HP.take rfl (.free rfl) rfl hI6 (fun _ r _ hI => R.load1 (r.e rfl) Try.isAgg3 (hI.cell (i := 0) rfl rfl)) ?_
  refine HP.take rfl (.free rfl) rfl hI6 (fun _ r _ hI => R.load1 (r.e rfl) Try.isAgg3 (hI.cell (i := 1) rfl rfl)) ?_
  refine HP.take rfl (.free rfl) rfl hI6 (fun _ r _ hI => R.eql (r.e rfl) (r.e rfl)) ?_
  refine HP.take rfl (.free rfl) rfl hI6 (fun _ r _ hI => R.move (r.e rfl)) ?_
  by_cases h7 : x.th = t
  · -- x.th = t
    refine HP.take rfl (.yes rfl rfl (kb (dT h7))) rfl hI6 (fun _ r _ hI => R.load1 (r.e rfl) Try.isAgg50 (hI.cell (i := 2) rfl rfl)) ?_
    refine HP.take rfl (.yes rfl rfl (kb (dT h7))) rfl hI6 (fun _ r _ hI => R.load1 (r.e rfl) Try.isAgg56 (hI.cell (i := 3) rfl rfl)) ?_
    refine HP.take rfl (.yes rfl rfl (kb (dT h7))) rfl hI6 (fun _ r _ hI => R.nilCheck (r.e rfl)) ?_
    refine HP.take rfl (.yes rfl rfl (kb (dT h7))) rfl hI6 (fun _ r _ hI => R.fieldAddr (k := 0) (r.e rfl) Try.runUnderlying59 rfl Try.sizeOf53 rfl) ?_
    refine HP.take rfl (.yes rfl rfl (kb (dT h7))) rfl hI6 (fun _ r _ hI => R.load1 (r.e rfl) Try.isAgg53 (hI.cell (i := 4) rfl rfl)) ?_
    refine HP.take rfl (.yes rfl rfl (kb (dT h7))) rfl hI6 (fun _ r _ hI => R.loadn (vs := [.int .i64 x.th, .int .i64 x.d, .int .i64 x.h, .int .i64 x.off, .int .i64 x.n, .int .i64 x.code, .int .i64 x.num, .bool x.done, .int .i64 x.frm, .int .i64 x.to_]) (r.e rfl) Try.isAgg73 Try.sizeOf73 rfl (hI.cells (i := 0) rfl rfl)) ?_
    refine HP.one rfl (.yes rfl rfl (kb (dT h7))) (OW.calls rfl (fun _ r => R.call (vs := [.slice aC nC cC, .agg #[.int .i64 x.th, .int .i64 x.d, .int .i64 x.h, .int .i64 x.off, .int .i64 x.n, .int .i64 x.code, .int .i64 x.num, .bool x.done, .int .i64 x.frm, .int .i64 x.to_]]) Try.call50 rfl ⟨r.e rfl, r.e rfl, trivial⟩) (v_index _ _ _ _ _ cs hC hn hu i x hi _ (hO5.frame [5] rfl)) ?_)
    rintro _ w8 ⟨rfl, hO9⟩
    replace hO9 := hO9.unframe1
    have hI10 := hO9.pick [1, 1, 1, 1, 1, 0] rfl
    refine ⟨hI10, ?_⟩
    obtain ⟨blli_11, olli_11, hali_11, hcli_11⟩ := hL.at_ _ _ hli
    refine HP.take rfl (.yes rfl rfl (kb (dT h7))) rfl hI10 (fun _ r _ hI => R.indexAddr_o (k := olli_11 + i * 1) (r.e rfl) hali_11 (r.e rfl) Try.runUnderlying50 Try.sizeOf4 (by omega) (by omega) (by simp)) ?_
    refine HP.take rfl (.yes rfl rfl (kb (dT h7))) rfl hI10 (fun _ r _ hI => R.load1 (r.e rfl) Try.isAgg4 (hI.pc (i := 5) rfl (hcli_11 0 _ rfl))) ?_
    refine HP.take rfl (.free rfl) rfl hI10 (fun _ r _ hI => R.pick_yes (r.e (kb (dT h7))) (r.e rfl)) ?_
    refine HP.take rfl (.free rfl) rfl hI10 (fun _ r _ hI => R.assign (r.e rfl)) ?_
    refine HP.done (EW.then (?_))
    refine CW.ret ?_
    refine EW.ret1 rfl rfl ?_
    exact ⟨by simp [hli, h7], hO9.pick [2, 2, 2, 2, 0, 1] rfl⟩
  · -- not: x.th = t
    refine HP.takeOff rfl (.no rfl rfl (kb (dF h7))) rfl hI6 ?_
    refine HP.takeOff rfl (.no rfl rfl (kb (dF h7))) rfl hI6 ?_
    refine HP.takeOff rfl (.no rfl rfl (kb (dF h7))) rfl hI6 ?_
    refine HP.takeOff rfl (.no rfl rfl (kb (dF h7))) rfl hI6 ?_
    refine HP.takeOff rfl (.no rfl rfl (kb (dF h7))) rfl hI6 ?_
    refine HP.takeOff rfl (.no rfl rfl (kb (dF h7))) rfl hI6 ?_
    refine HP.oneOff rfl (.no rfl rfl (kb (dF h7))) rfl hI6 ?_
    refine HP.takeOff rfl (.no rfl rfl (kb (dF h7))) rfl hI6 ?_
    refine HP.takeOff rfl (.no rfl rfl (kb (dF h7))) rfl hI6 ?_
    refine HP.take rfl (.free rfl) rfl hI6 (fun _ r _ hI => R.pick_no (r.e (kb (dF h7))) (r.e rfl)) ?_
    refine HP.take rfl (.free rfl) rfl hI6 (fun _ r _ hI => R.assign (r.e rfl)) ?_
    refine HP.done (EW.then (?_))
    refine CW.ret ?_
    refine EW.ret1 rfl rfl ?_
    exact ⟨by simp [hli, h7], hO5.pick [1, 1, 1, 1, 1, 1] rfl⟩

set_option maxRecDepth 100000 in
set_option maxHeartbeats 400000 in
theorem v_indexf (bA bB bC : Nat) (t : Int) (ps : Nat) (wv : Value) (aH : Option Addr) (nH cH : Nat) (G F : Seg) (aC : Option Addr) (nC cC : Nat) (cs : List Cal) (hC : Sl G 10 encL aC nC cC cs) (hn : cs.length ≤ 1000) (aL : Option Addr) (nL cL : Nat) (left : List Bool) (hL : Sl G 1 encB aL nL cL left) (hll : left.length = cs.length) (hu : cs.Nodup) (w : World) (hO : Own w [[(bA, .cells #[.int .i64 t] 3 (0, 0))], [(bB, .cells #[.slice aL nL cL] 50 (0, 0))], [(bC, .cells #[.pointer (some ⟨ps, 0, none⟩)] 56 (0, 0))], [(ps, .cells #[.slice aC nC cC, .slice aH nH cH, wv] 59 (0, 0))], G, F]) : Calls Try.prog 48 [.slice aC nC cC, .func (.func 49) #[] #[.pointer (some ⟨bA, 0, none⟩), .pointer (some ⟨bB, 0, none⟩), .pointer (some ⟨bC, 0, none⟩)]].toArray w (Ret fun v w' => (v = .int .i64 (-1) ∧ firstAt cs left t 0 = none ∧ Own w' [[(bA, .cells #[.int .i64 t] 3 (0, 0))], [(bB, .cells #[.slice aL nL cL] 50 (0, 0))], [(bC, .cells #[.pointer (some ⟨ps, 0, none⟩)] 56 (0, 0))], [(ps, .cells #[.slice aC nC cC, .slice aH nH cH, wv] 59 (0, 0))], G, F]) ∨ (∃ k : Nat, v = .int .i64 k ∧ firstAt cs left t 0 = some k ∧ Own w' [[(bA, .cells #[.int .i64 t] 3 (0, 0))], [(bB, .cells #[.slice aL nL cL] 50 (0, 0))], [(bC, .cells #[.pointer (some ⟨ps, 0, none⟩)] 56 (0, 0))], [(ps, .cells #[.slice aC nC cC, .slice aH nH cH, wv] 59 (0, 0))], G, F])) := by
  have hlC := hC.hlen
  have hlL := hL.hlen
  refine enter (n := 19) Try.func48 rfl rfl rfl ?_
  refine CW.seq ?_
  refine CW.region ?_
  refine LW.value (.free rfl) rfl (fun _ r => R.assign (r.e rfl)) ?_
  refine LW.nil (EW.then (?_))
  refine CW.seq ?_
  refine CW.seq ?_
  refine CW.region ?_
  refine LW.value (.free rfl) rfl (fun _ r => R.move (r.e rfl)) ?_
  refine LW.value (.free rfl) rfl (fun _ r => R.len_slice (r.e rfl) Try.runUnderlying53) ?_
  refine LW.value (.free rfl) rfl (fun _ r => R.move (r.e rfl)) ?_
  refine LW.nil (EW.then (?_))
  refine CW.block ?_
  refine CW.sub (env' := [(0, .slice aC nC cC), (1, .func (.func 49) #[] #[.pointer (some ⟨bA, 0, none⟩), .pointer (some ⟨bB, 0, none⟩), .pointer (some ⟨bC, 0, none⟩)]), (6, .slice aC nC cC), (7, .int .i64 (nC : Int)), (8, .int .i64 (0 : Int))]) ⟨rfl, rfl, rfl, rfl, rfl, trivial⟩ ?_
  refine CW.loop (α := Nat) (fun i env_ w_ => env_ = [(0, .slice aC nC cC), (1, .func (.func 49) #[] #[.pointer (some ⟨bA, 0, none⟩), .pointer (some ⟨bB, 0, none⟩), .pointer (some ⟨bC, 0, none⟩)]), (6, .slice aC nC cC), (7, .int .i64 (nC : Int)), (8, .int .i64 (i : Int))] ∧ Own w_ [[(bA, .cells #[.int .i64 t] 3 (0, 0))], [(bB, .cells #[.slice aL nL cL] 50 (0, 0))], [(bC, .cells #[.pointer (some ⟨ps, 0, none⟩)] 56 (0, 0))], [(ps, .cells #[.slice aC nC cC, .slice aH nH cH, wv] 59 (0, 0))], G, F] ∧ (i ≤ cs.length) ∧ (firstAt cs left t 0 = firstAt cs left t i)) (fun i => cs.length - i) 0 ⟨rfl, hO, Nat.zero_le _, rfl⟩ ?_
  rintro i _ w1 ⟨rfl, hO2, hi, hf⟩
  refine CW.seq ?_
  refine CW.region ?_
  refine LW.value (.free rfl) rfl (fun _ r => R.lss (r.e rfl) (r.e rfl)) ?_
  refine LW.nil (EW.then (?_))
  refine CW.seq ?_
  by_cases h3 : (i : Int) < (nC : Int)
  · -- (i : Int) < (nC : Int)
    refine CW.yes (kb (dT h3)) ?_
    refine CW.skip (EW.then (?_))
    refine CW.seq ?_
    refine CW.block ?_
    refine CW.seq ?_
    refine CW.region ?_
    refine LW.value (.free rfl) rfl (fun _ r => R.move (r.e rfl)) ?_
    refine LW.value (.free rfl) rfl (fun _ r => R.assign (r.e rfl)) ?_
    refine LW.nil (EW.then (?_))
    refine CW.seq ?_
    refine CW.region ?_
    refine LW.value (.free rfl) rfl (fun _ r => R.move (r.e rfl)) ?_
    refine LW.value (.free rfl) rfl (fun _ r => R.move (r.e rfl)) ?_
    refine LW.value (.free rfl) rfl (fun _ r => R.move (r.e rfl)) ?_
    obtain ⟨x4, hxx4⟩ : ∃ t, (cs)[i]? = some t := ⟨_, List.getElem?_eq_getElem (by omega)⟩
    obtain ⟨blx4, olx4, hax4, hcx4⟩ := hC.at_ _ _ hxx4
    refine LW.value (.free rfl) rfl (fun _ r => R.indexAddr_o (k := olx4 + i * 10) (r.e rfl) hax4 (r.e rfl) Try.runUnderlying53 Try.sizeOf73 (by omega) (by omega) (by simp)) ?_
    refine LW.value (.free rfl) rfl (fun _ r => R.loadn (vs := [.int .i64 x4.th, .int .i64 x4.d, .int .i64 x4.h, .int .i64 x4.off, .int .i64 x4.n, .int .i64 x4.code, .int .i64 x4.num, .bool x4.done, .int .i64 x4.frm, .int .i64 x4.to_]) (r.e rfl) Try.isAgg73 Try.sizeOf73 rfl (fun j v hj => hO2.pc (i := 4) rfl (hcx4 j v hj))) ?_
    obtain ⟨x5, hx6⟩ : ∃ t, (left)[i]? = some t := ⟨_, List.getElem?_eq_getElem (by omega)⟩
    refine LW.op (.free rfl) (OW.calls rfl (fun _ r => R.callv (cap := [.pointer (some ⟨bA, 0, none⟩), .pointer (some ⟨bB, 0, none⟩), .pointer (some ⟨bC, 0, none⟩)]) (vs := [.agg #[.int .i64 x4.th, .int .i64 x4.d, .int .i64 x4.h, .int .i64 x4.off, .int .i64 x4.n, .int .i64 x4.code, .int .i64 x4.num, .bool x4.done, .int .i64 x4.frm, .int .i64 x4.to_]]) (r.e rfl) Try.call49 ⟨r.e rfl, trivial⟩) (v_next1 bA bB bC t ps wv _ _ _ _ _ _ _ _ cs hC hn _ _ _ left hL hll hu i x4 hxx4 x5 hx6 _ (hO2.frame [0, 0, 0, 0, 0] rfl)) ?_)
    rintro _ w7 ⟨rfl, hO8⟩
    replace hO8 : Own _ [[(bA, .cells #[.int .i64 t] 3 (0, 0))], [(bB, .cells #[.slice aL nL cL] 50 (0, 0))], [(bC, .cells #[.pointer (some ⟨ps, 0, none⟩)] 56 (0, 0))], [(ps, .cells #[.slice aC nC cC, .slice aH nH cH, wv] 59 (0, 0))], G, F] := hO8.perm' (by simp)
    refine LW.nil (EW.then (?_))
    rcases Bool.eq_false_or_eq_true (decide (x4.th = t) && x5) with h9 | h9
    · -- (decide (x4.th = t) && x5)
      refine CW.yes (kb h9) ?_
      refine CW.seq ?_
      refine CW.region ?_
      refine LW.value (.free rfl) rfl (fun _ r => R.move (r.e rfl)) ?_
      refine LW.value (.free rfl) rfl (fun _ r => R.assign (r.e rfl)) ?_
      refine LW.nil (EW.then (?_))
      refine CW.ret (EW.inB_ret (EW.then_ret (EW.then_ret (EW.inB_ret (EW.then_ret (?_))))))
      refine EW.ret1 rfl rfl ?_
      simp only [Bool.and_eq_true, decide_eq_true_eq] at h9
      exact .inr ⟨i, rfl, by rw [hf]; exact firstAt_here hxx4 (by rw [hx6, h9.2]) h9.1, hO8.pick [0, 0, 0, 0, 0, 0] rfl⟩
    · -- not: (decide (x4.th = t) && x5)
      refine CW.no (kb h9) ?_
      refine CW.skip (EW.inB_normal (EW.then (?_)))
      refine CW.region ?_
      refine LW.value (.free rfl) rfl (fun _ r => R.as (R.add (r.e rfl) (r.e rfl)) (congrArg (Value.int .i64) (wrap_i64 (by omega) (by omega)))) ?_
      refine LW.value (.free rfl) rfl (fun _ r => R.move (r.e rfl)) ?_
      refine LW.nil ?_
      exact EW.sub (env' := [(0, .slice aC nC cC), (1, .func (.func 49) #[] #[.pointer (some ⟨bA, 0, none⟩), .pointer (some ⟨bB, 0, none⟩), .pointer (some ⟨bC, 0, none⟩)]), (6, .slice aC nC cC), (7, .int .i64 (nC : Int)), (8, .int .i64 ((i + 1) : Int))]) ⟨rfl, rfl, rfl, rfl, rfl, trivial⟩ (EW.round (i + 1) ⟨rfl, hO8.pick [0, 0, 0, 0, 0, 0] rfl, by omega, by rw [hf, firstAt_on hxx4 (by rw [hx6]; cases he : x5 <;> simp_all)]⟩ (by omega))
  · -- not: (i : Int) < (nC : Int)
    refine CW.no (kb (dF h3)) ?_
    refine CW.exit (EW.then_exit (EW.then_exit (EW.inB_same (EW.then (?_)))))
    refine CW.seq ?_
    refine CW.region ?_
    refine LW.value (.free rfl) rfl (fun _ r => R.assign (r.e rfl)) ?_
    refine LW.nil (EW.then (?_))
    refine CW.ret ?_
    refine EW.ret1 rfl rfl ?_
    exact .inl ⟨rfl, by rw [hf, firstAt_end (by omega)], hO2.pick [0, 0, 0, 0, 0, 0] rfl⟩

set_option maxRecDepth 100000 in
set_option maxHeartbeats 400000 in
theorem v_next (ps : Nat) (wv : Value) (aH : Option Addr) (nH cH : Nat) (G F : Seg) (aC : Option Addr) (nC cC : Nat) (cs : List Cal) (hC : Sl G 10 encL aC nC cC cs) (hn : cs.length ≤ 1000) (aL : Option Addr) (nL cL : Nat) (left : List Bool) (hL : Sl G 1 encB aL nL cL left) (hll : left.length = cs.length) (hu : cs.Nodup) (t : Int) (w : World) (hO : Own w [[(ps, .cells #[.slice aC nC cC, .slice aH nH cH, wv] 59 (0, 0))], G, F]) : Calls Try.prog 27 [.pointer (some ⟨ps, 0, none⟩), .slice aL nL cL, .int .i64 t].toArray w (Ret fun v w' => (v = .int .i64 (-1) ∧ firstAt cs left t 0 = none ∧ Own w' [[(ps, .cells #[.slice aC nC cC, .slice aH nH cH, wv] 59 (0, 0))], G, F]) ∨ (∃ k : Nat, v = .int .i64 k ∧ firstAt cs left t 0 = some k ∧ Own w' [[(ps, .cells #[.slice aC nC cC, .slice aH nH cH, wv] 59 (0, 0))], G, F])) := by
  have hlC := hC.hlen
  have hlL := hL.hlen
  refine enter (n := 13) Try.func27 rfl rfl rfl ?_
  refine CW.seq ?_
  refine CW.region ?_
  refine LW.op (.free rfl) (OW.box (cs := #[.pointer (some ⟨ps, 0, none⟩)]) rfl hO rfl rfl ?_)
  intro b1 w2 hO3
  refine LW.op (.free rfl) (OW.box (cs := #[.slice aL nL cL]) rfl hO3 rfl rfl ?_)
  intro b4 w5 hO6
  refine LW.op (.free rfl) (OW.box (cs := #[.int .i64 t]) rfl hO6 rfl rfl ?_)
  intro b7 w8 hO9
  refine LW.value (.free rfl) rfl (fun _ r => R.assign (r.e rfl)) ?_
  refine LW.nil (EW.then (?_))
  refine CW.seq ?_
  refine CW.region ?_
  refine LW.value (.free rfl) rfl (fun _ r => R.load1 (r.e rfl) Try.isAgg56 (hO9.cell (i := 2) rfl rfl)) ?_
  refine LW.value (.free rfl) rfl (fun _ r => R.nilCheck (r.e rfl)) ?_
  refine LW.value (.free rfl) rfl (fun _ r => R.fieldAddr (k := 0) (r.e rfl) Try.runUnderlying59 rfl Try.sizeOf53 rfl) ?_
  refine LW.value (.free rfl) rfl (fun _ r => R.load1 (r.e rfl) Try.isAgg53 (hO9.cell (i := 3) rfl rfl)) ?_
  refine LW.value (.free rfl) rfl (fun _ r => R.makeFunc (vs := [.pointer (some ⟨b7, 0, none⟩), .pointer (some ⟨b4, 0, none⟩), .pointer (some ⟨b1, 0, none⟩)]) ⟨r.e rfl, r.e rfl, r.e rfl, trivial⟩) ?_
  refine LW.op (.free rfl) (OW.calls rfl (fun _ r => R.call (vs := [.slice aC nC cC, .func (.func 49) #[] #[.pointer (some ⟨b7, 0, none⟩), .pointer (some ⟨b4, 0, none⟩), .pointer (some ⟨b1, 0, none⟩)]]) Try.call48 rfl ⟨r.e rfl, r.e rfl, trivial⟩) (v_indexf b7 b4 b1 t ps wv _ _ _ _ _ _ _ _ cs hC hn _ _ _ left hL hll hu _ (hO9.frame [0, 0, 0, 0, 0] rfl)) ?_)
  rintro _ w10 (⟨rfl, hf11, hO12⟩ | ⟨k13, rfl, hf14, hO15⟩)
  ·
    replace hO12 : Own _ [[(b7, .cells #[.int .i64 t] 3 (0, 0))], [(b4, .cells #[.slice aL nL cL] 50 (0, 0))], [(b1, .cells #[.pointer (some ⟨ps, 0, none⟩)] 56 (0, 0))], [(ps, .cells #[.slice aC nC cC, .slice aH nH cH, wv] 59 (0, 0))], G, F] := hO12.perm' (by simp)
    refine LW.value (.free rfl) rfl (fun _ r => R.assign (r.e rfl)) ?_
    refine LW.nil (EW.then (?_))
    refine CW.ret ?_
    refine EW.ret1 rfl rfl ?_
    exact .inl ⟨rfl, hf11, hO12.pick [3, 3, 3] rfl⟩
  ·
    replace hO15 : Own _ [[(b7, .cells #[.int .i64 t] 3 (0, 0))], [(b4, .cells #[.slice aL nL cL] 50 (0, 0))], [(b1, .cells #[.pointer (some ⟨ps, 0, none⟩)] 56 (0, 0))], [(ps, .cells #[.slice aC nC cC, .slice aH nH cH, wv] 59 (0, 0))], G, F] := hO15.perm' (by simp)
    refine LW.value (.free rfl) rfl (fun _ r => R.assign (r.e rfl)) ?_
    refine LW.nil (EW.then (?_))
    refine CW.ret ?_
    refine EW.ret1 rfl rfl ?_
    exact .inr ⟨k13, rfl, hf14, hO15.pick [3, 3, 3] rfl⟩

end Go.Sd
