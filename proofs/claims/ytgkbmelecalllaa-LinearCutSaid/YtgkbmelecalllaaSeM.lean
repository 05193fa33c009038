/-
  Layer 9's reference, walked: Holds.
-/
import Derived.Test.YtgkbmelecalllaaSeL
set_option linter.unusedSimpArgs false
set_option linter.unusedVariables false
set_option linter.unusedSectionVars false
namespace Go.Sd
open Go Go.Proofs
variable [Str]
set_option maxRecDepth 100000 in
set_option maxHeartbeats 400000 in
theorem e_is (c : Cal) (o : Ev) (F : Seg) (w : World) (hO : Own w [F]) : Calls Try.prog 46 [.agg #[.int .i64 c.th, .int .i64 c.d, .int .i64 c.h, .int .i64 c.off, .int .i64 c.n, .int .i64 c.code, .int .i64 c.num, .bool c.done, .int .i64 c.frm, .int .i64 c.to_], .agg #[.int .i64 o.th, .bool o.back, .int .i64 o.d, .int .i64 o.h, .int .i64 o.off, .int .i64 o.n, .int .i64 o.code, .int .i64 o.num]].toArray w (Ret fun v w' => v = .bool (isP c o) ∧ Own w' [F]) := by
  refine enter (n := 34) Try.func46 rfl rfl rfl ?_
  refine CW.seq ?_
  refine CW.region ?_
  refine LW.op (.free rfl) (OW.box (cs := #[.int .i64 c.th, .int .i64 c.d, .int .i64 c.h, .int .i64 c.off, .int .i64 c.n, .int .i64 c.code, .int .i64 c.num, .bool c.done, .int .i64 c.frm, .int .i64 c.to_]) rfl hO rfl rfl ?_)
  intro b1 w2 hO3
  refine LW.op (.free rfl) (OW.box (cs := #[.int .i64 o.th, .bool o.back, .int .i64 o.d, .int .i64 o.h, .int .i64 o.off, .int .i64 o.n, .int .i64 o.code, .int .i64 o.num]) rfl hO3 rfl rfl ?_)
  intro b4 w5 hO6
  refine LW.value (.free rfl) rfl (fun _ r => R.assign (r.e rfl)) ?_
  refine LW.nil (EW.then (?_))
  refine CW.seq ?_
  refine CW.region ?_
  refine LW.value (.free rfl) rfl (fun _ r => R.fieldAddr (k := 0) (r.e rfl) Try.runUnderlying70 rfl Try.sizeOf3 rfl) ?_
  refine LW.value (.free rfl) rfl (fun _ r => R.load1 (r.e rfl) Try.isAgg3 (hO6.cell (i := 1) rfl rfl)) ?_
  refine LW.value (.free rfl) rfl (fun _ r => R.fieldAddr (k := 0) (r.e rfl) Try.runUnderlying41 rfl Try.sizeOf3 rfl) ?_
  refine LW.value (.free rfl) rfl (fun _ r => R.load1 (r.e rfl) Try.isAgg3 (hO6.cell (i := 0) rfl rfl)) ?_
  refine LW.value (.free rfl) rfl (fun _ r => R.eql (r.e rfl) (r.e rfl)) ?_
  refine LW.value (.free rfl) rfl (fun _ r => R.move (r.e rfl)) ?_
  by_cases h7 : c.th = o.th
  · -- c.th = o.th
    refine LW.value (.yes rfl rfl (kb (dT h7))) rfl (fun _ r => R.fieldAddr (k := 1) (r.e rfl) Try.runUnderlying70 rfl Try.sizeOf36 rfl) ?_
    refine LW.value (.yes rfl rfl (kb (dT h7))) rfl (fun _ r => R.loadn (vs := [.int .i64 c.d, .int .i64 c.h, .int .i64 c.off, .int .i64 c.n]) (r.e rfl) Try.isAgg36 Try.sizeOf36 rfl (hO6.cells (i := 1) rfl rfl)) ?_
    refine LW.value (.yes rfl rfl (kb (dT h7))) rfl (fun _ r => R.fieldAddr (k := 2) (r.e rfl) Try.runUnderlying41 rfl Try.sizeOf36 rfl) ?_
    refine LW.value (.yes rfl rfl (kb (dT h7))) rfl (fun _ r => R.loadn (vs := [.int .i64 o.d, .int .i64 o.h, .int .i64 o.off, .int .i64 o.n]) (r.e rfl) Try.isAgg36 Try.sizeOf36 rfl (hO6.cells (i := 0) rfl rfl)) ?_
    refine LW.value (.yes rfl rfl (kb (dT h7))) rfl (fun _ r => eq36_eql (r.e rfl) (r.e rfl)) ?_
    refine LW.value (.free rfl) rfl (fun _ r => R.pick_yes (r.e (kb (dT h7))) (r.e rfl)) ?_
    refine LW.value (.free rfl) rfl (fun _ r => R.move (r.e rfl)) ?_
    by_cases h8 : c.d = o.d ∧ c.h = o.h ∧ c.off = o.off ∧ c.n = o.n
    · -- c.d = o.d ∧ c.h = o.h ∧ c.off = o.off ∧ c.n = o.n
      refine LW.value (.yes rfl rfl (kb (dT h8))) rfl (fun _ r => R.fieldAddr (k := 1) (r.e rfl) Try.runUnderlying41 rfl Try.sizeOf4 rfl) ?_
      refine LW.value (.yes rfl rfl (kb (dT h8))) rfl (fun _ r => R.load1 (r.e rfl) Try.isAgg4 (hO6.cell (i := 0) rfl rfl)) ?_
      refine LW.value (.yes rfl rfl (kb (dT h8))) rfl (fun _ r => R.not (r.e rfl)) ?_
      refine LW.value (.free rfl) rfl (fun _ r => R.pick_yes (r.e (kb (dT h8))) (r.e rfl)) ?_
      refine LW.value (.free rfl) rfl (fun _ r => R.move (r.e rfl)) ?_
      rcases Bool.eq_false_or_eq_true o.back with h9 | h9
      · -- o.back
        refine LW.off (.no rfl rfl (kb (bN h9))) rfl ?_
        refine LW.off (.no rfl rfl (kb (bN h9))) rfl ?_
        refine LW.off (.no rfl rfl (kb (bN h9))) rfl ?_
        refine LW.off (.no rfl rfl (kb (bN h9))) rfl ?_
        refine LW.off (.un rfl rfl rfl) rfl ?_
        refine LW.off (.un rfl rfl rfl) rfl ?_
        refine LW.off (.un rfl rfl rfl) rfl ?_
        refine LW.off (.un rfl rfl rfl) rfl ?_
        refine LW.off (.un rfl rfl rfl) rfl ?_
        refine LW.off (.no rfl rfl (kb (bN h9))) rfl ?_
        refine LW.value (.free rfl) rfl (fun _ r => R.pick_no (r.e (kb (bN h9))) (r.e rfl)) ?_
        refine LW.value (.free rfl) rfl (fun _ r => R.assign (r.e rfl)) ?_
        refine LW.nil (EW.then (?_))
        refine CW.ret ?_
        refine EW.ret1 rfl rfl ?_
        exact ⟨by simp [isP, h7, h8, h9], hO6.pick [2] rfl⟩
      · -- not: o.back
        refine LW.value (.yes rfl rfl (kb (bN h9))) rfl (fun _ r => R.fieldAddr (k := 7) (r.e rfl) Try.runUnderlying70 rfl Try.sizeOf4 rfl) ?_
        refine LW.value (.yes rfl rfl (kb (bN h9))) rfl (fun _ r => R.load1 (r.e rfl) Try.isAgg4 (hO6.cell (i := 1) rfl rfl)) ?_
        refine LW.value (.yes rfl rfl (kb (bN h9))) rfl (fun _ r => R.not (r.e rfl)) ?_
        refine LW.value (.yes rfl rfl (kb (bN h9))) rfl (fun _ r => R.move (r.e rfl)) ?_
        rcases Bool.eq_false_or_eq_true c.done with h10 | h10
        · -- c.done
          refine LW.value (.yes rfl rfl (kb (bN h10))) rfl (fun _ r => R.fieldAddr (k := 5) (r.e rfl) Try.runUnderlying70 rfl Try.sizeOf39 rfl) ?_
          refine LW.value (.yes rfl rfl (kb (bN h10))) rfl (fun _ r => R.loadn (vs := [.int .i64 c.code, .int .i64 c.num]) (r.e rfl) Try.isAgg39 Try.sizeOf39 rfl (hO6.cells (i := 1) rfl rfl)) ?_
          refine LW.value (.yes rfl rfl (kb (bN h10))) rfl (fun _ r => R.fieldAddr (k := 6) (r.e rfl) Try.runUnderlying41 rfl Try.sizeOf39 rfl) ?_
          refine LW.value (.yes rfl rfl (kb (bN h10))) rfl (fun _ r => R.loadn (vs := [.int .i64 o.code, .int .i64 o.num]) (r.e rfl) Try.isAgg39 Try.sizeOf39 rfl (hO6.cells (i := 0) rfl rfl)) ?_
          refine LW.value (.yes rfl rfl (kb (bN h10))) rfl (fun _ r => eq39_eql (r.e rfl) (r.e rfl)) ?_
          refine LW.value (.yes rfl rfl (kb (bN h9))) rfl (fun _ r => R.pick_no (r.e (kb (bN h10))) (r.e rfl)) ?_
          refine LW.value (.free rfl) rfl (fun _ r => R.pick_yes (r.e (kb (bN h9))) (r.e rfl)) ?_
          refine LW.value (.free rfl) rfl (fun _ r => R.assign (r.e rfl)) ?_
          refine LW.nil (EW.then (?_))
          refine CW.ret ?_
          refine EW.ret1 rfl rfl ?_
          exact ⟨by simp [isP, h7, h8, h9, h10], hO6.pick [2] rfl⟩
        · -- not: c.done
          refine LW.off (.no rfl rfl (kb (bN h10))) rfl ?_
          refine LW.off (.no rfl rfl (kb (bN h10))) rfl ?_
          refine LW.off (.no rfl rfl (kb (bN h10))) rfl ?_
          refine LW.off (.no rfl rfl (kb (bN h10))) rfl ?_
          refine LW.off (.no rfl rfl (kb (bN h10))) rfl ?_
          refine LW.value (.yes rfl rfl (kb (bN h9))) rfl (fun _ r => R.pick_yes (r.e (kb (bN h10))) (r.e rfl)) ?_
          refine LW.value (.free rfl) rfl (fun _ r => R.pick_yes (r.e (kb (bN h9))) (r.e rfl)) ?_
          refine LW.value (.free rfl) rfl (fun _ r => R.assign (r.e rfl)) ?_
          refine LW.nil (EW.then (?_))
          refine CW.ret ?_
          refine EW.ret1 rfl rfl ?_
          exact ⟨by simp [isP, h7, h8, h9, h10], hO6.pick [2] rfl⟩
    · -- not: c.d = o.d ∧ c.h = o.h ∧ c.off = o.off ∧ c.n = o.n
      refine LW.off (.no rfl rfl (kb (dF h8))) rfl ?_
      refine LW.off (.no rfl rfl (kb (dF h8))) rfl ?_
      refine LW.off (.no rfl rfl (kb (dF h8))) rfl ?_
      refine LW.value (.free rfl) rfl (fun _ r => R.pick_no (r.e (kb (dF h8))) (r.e rfl)) ?_
      refine LW.value (.free rfl) rfl (fun _ r => R.move (r.e rfl)) ?_
      refine LW.off (.no rfl rfl rfl) rfl ?_
      refine LW.off (.no rfl rfl rfl) rfl ?_
      refine LW.off (.no rfl rfl rfl) rfl ?_
      refine LW.off (.no rfl rfl rfl) rfl ?_
      refine LW.off (.un rfl rfl rfl) rfl ?_
      refine LW.off (.un rfl rfl rfl) rfl ?_
      refine LW.off (.un rfl rfl rfl) rfl ?_
      refine LW.off (.un rfl rfl rfl) rfl ?_
      refine LW.off (.un rfl rfl rfl) rfl ?_
      refine LW.off (.no rfl rfl rfl) rfl ?_
      refine LW.value (.free rfl) rfl (fun _ r => R.pick_no (r.e rfl) (r.e rfl)) ?_
      refine LW.value (.free rfl) rfl (fun _ r => R.assign (r.e rfl)) ?_
      refine LW.nil (EW.then (?_))
      refine CW.ret ?_
      refine EW.ret1 rfl rfl ?_
      exact ⟨by simp [isP, h7, h8], hO6.pick [2] rfl⟩
  · -- not: c.th = o.th
    refine LW.off (.no rfl rfl (kb (dF h7))) rfl ?_
    refine LW.off (.no rfl rfl (kb (dF h7))) rfl ?_
    refine LW.off (.no rfl rfl (kb (dF h7))) rfl ?_
    refine LW.off (.no rfl rfl (kb (dF h7))) rfl ?_
    refine LW.off (.no rfl rfl (kb (dF h7))) rfl ?_
    refine LW.value (.free rfl) rfl (fun _ r => R.pick_no (r.e (kb (dF h7))) (r.e rfl)) ?_
    refine LW.value (.free rfl) rfl (fun _ r => R.move (r.e rfl)) ?_
    refine LW.off (.no rfl rfl rfl) rfl ?_
    refine LW.off (.no rfl rfl rfl) rfl ?_
    refine LW.off (.no rfl rfl rfl) rfl ?_
    refine LW.value (.free rfl) rfl (fun _ r => R.pick_no (r.e rfl) (r.e rfl)) ?_
    refine LW.value (.free rfl) rfl (fun _ r => R.move (r.e rfl)) ?_
    refine LW.off (.no rfl rfl rfl) rfl ?_
    refine LW.off (.no rfl rfl rfl) rfl ?_
    refine LW.off (.no rfl rfl rfl) rfl ?_
    refine LW.off (.no rfl rfl rfl) rfl ?_
    refine LW.off (.un rfl rfl rfl) rfl ?_
    refine LW.off (.un rfl rfl rfl) rfl ?_
    refine LW.off (.un rfl rfl rfl) rfl ?_
    refine LW.off (.un rfl rfl rfl) rfl ?_
    refine LW.off (.un rfl rfl rfl) rfl ?_
    refine LW.off (.no rfl rfl rfl) rfl ?_
    refine LW.value (.free rfl) rfl (fun _ r => R.pick_no (r.e rfl) (r.e rfl)) ?_
    refine LW.value (.free rfl) rfl (fun _ r => R.assign (r.e rfl)) ?_
    refine LW.nil (EW.then (?_))
    refine CW.ret ?_
    refine EW.ret1 rfl rfl ?_
    exact ⟨by simp [isP, h7], hO6.pick [2] rfl⟩

set_option maxRecDepth 100000 in
set_option maxHeartbeats 400000 in
theorem e_place (G F : Seg) (aC : Option Addr) (nC cC : Nat) (cs : List Cal) (hC : Sl G 10 encL aC nC cC cs) (hn : cs.length ≤ 1000) (aL : Option Addr) (nL cL : Nat) (left : List Bool) (hL : Sl G 1 encB aL nL cL left) (hll : left.length = cs.length) (o : Ev) (w : World) (hO : Own w [G, F]) : Calls Try.prog 25 [.slice aC nC cC, .slice aL nL cL, .agg #[.int .i64 o.th, .bool o.back, .int .i64 o.d, .int .i64 o.h, .int .i64 o.off, .int .i64 o.n, .int .i64 o.code, .int .i64 o.num]].toArray w (Ret fun v w' => (v = .int .i64 (-1) ∧ (∀ X T, hStep cs (left, X, T) o = none) ∧ Own w' [G, F]) ∨ (∃ (k : Nat) (c : Cal), v = .int .i64 k ∧ firstAt cs left o.th 0 = some k ∧ cs[k]? = some c ∧ isP c o = true ∧ Own w' [G, F])) := by
  have hlC := hC.hlen
  have hlL := hL.hlen
  refine enter (n := 35) Try.func25 rfl rfl rfl ?_
  refine CW.seq ?_
  refine CW.region ?_
  refine LW.op (.free rfl) (OW.box (cs := #[.int .i64 o.th, .bool o.back, .int .i64 o.d, .int .i64 o.h, .int .i64 o.off, .int .i64 o.n, .int .i64 o.code, .int .i64 o.num]) rfl hO rfl rfl ?_)
  intro b1 w2 hO3
  refine LW.value (.free rfl) rfl (fun _ r => R.assign (r.e rfl)) ?_
  refine LW.nil (EW.then (?_))
  refine CW.seq ?_
  refine CW.seq ?_
  refine CW.region ?_
  refine LW.value (.free rfl) rfl (fun _ r => R.assign (r.e rfl)) ?_
  refine LW.nil (EW.then (?_))
  refine CW.block ?_
  refine CW.sub (env' := [(0, .slice aC nC cC), (1, .slice aL nL cL), (5, .pointer (some ⟨b1, 0, none⟩)), (7, .int .i64 (0 : Int))]) ⟨rfl, rfl, rfl, rfl, trivial⟩ ?_
  refine CW.loop (α := Nat) (fun i env_ w_ => env_ = [(0, .slice aC nC cC), (1, .slice aL nL cL), (5, .pointer (some ⟨b1, 0, none⟩)), (7, .int .i64 (i : Int))] ∧ Own w_ [[(b1, .cells #[.int .i64 o.th, .bool o.back, .int .i64 o.d, .int .i64 o.h, .int .i64 o.off, .int .i64 o.n, .int .i64 o.code, .int .i64 o.num] 41 (0, 0))], G, F] ∧ (i ≤ cs.length) ∧ (firstAt cs left o.th 0 = firstAt cs left o.th i)) (fun i => cs.length - i) 0 ⟨rfl, hO3, Nat.zero_le _, rfl⟩ ?_
  rintro i _ w4 ⟨rfl, hO5, hi, hf⟩
  refine CW.seq ?_
  refine CW.seq ?_
  refine CW.region ?_
  refine LW.value (.free rfl) rfl (fun _ r => R.move (r.e rfl)) ?_
  refine LW.value (.free rfl) rfl (fun _ r => R.move (r.e rfl)) ?_
  refine LW.value (.free rfl) rfl (fun _ r => R.len_slice (r.e rfl) Try.runUnderlying47) ?_
  refine LW.value (.free rfl) rfl (fun _ r => R.lss (r.e rfl) (r.e rfl)) ?_
  refine LW.nil (EW.then (?_))
  by_cases h6 : (i : Int) < (nC : Int)
  · -- (i : Int) < (nC : Int)
    refine CW.yes (kb (dT h6)) ?_
    refine CW.skip (EW.then (?_))
    refine CW.seq ?_
    refine CW.block ?_
    refine CW.seq ?_
    refine HP.start (I := fun w' => Own w' [[(b1, .cells #[.int .i64 o.th, .bool o.back, .int .i64 o.d, .int .i64 o.h, .int .i64 o.off, .int .i64 o.n, .int .i64 o.code, .int .i64 o.num] 41 (0, 0))], G]) (.take 0 (.take 1 (.take 2 (.take 3 (.take 4 (.take 5 (.take 6 (.take 7 (.take 8 (.take 9 (.take 10 (.take 11 (.take 12 (.take 13 (.done))))))))))))))) Try.mixed (by intro c d v a w h; cases d <;> exact h) hO5 (by kernel_rfl) ?_
    intro w9 hO10
    have hI11 := hO10.pick [0, 0] rfl
    refine HP.take rfl (.free rfl) rfl hI11 (fun _ r _ hI => R.move (r.e rfl)) ?_
    refine HP.take rfl (.free rfl) rfl hI11 (fun _ r _ hI => R.move (r.e rfl)) ?_
    obtain ⟨x12, hxx12⟩ : ∃ t, (left)[i]? = some t := ⟨_, List.getElem?_eq_getElem (by omega)⟩
    obtain ⟨blx12, olx12, hax12, hcx12⟩ := hL.at_ _ _ hxx12
    refine HP.take rfl (.free rfl) rfl hI11 (fun _ r _ hI => R.indexAddr_o (k := olx12 + i * 1) (r.e rfl) hax12 (r.e rfl) Try.runUnderlying50 Try.sizeOf4 (by omega) (by omega) (by simp)) ?_
    refine HP.take rfl (.free rfl) rfl hI11 (fun _ r _ hI => R.load1 (r.e rfl) Try.isAgg4 (hI.pc (i := 1) rfl (hcx12 0 _ rfl))) ?_
    refine HP.take rfl (.free rfl) rfl hI11 (fun _ r _ hI => R.move (r.e rfl)) ?_
    rcases Bool.eq_false_or_eq_true x12 with h13 | h13
    · -- x12
      refine HP.take rfl (.yes rfl rfl (kb h13)) rfl hI11 (fun _ r _ hI => R.move (r.e rfl)) ?_
      refine HP.take rfl (.yes rfl rfl (kb h13)) rfl hI11 (fun _ r _ hI => R.move (r.e rfl)) ?_
      obtain ⟨x14, hxx14⟩ : ∃ t, (cs)[i]? = some t := ⟨_, List.getElem?_eq_getElem (by omega)⟩
      obtain ⟨blx14, olx14, hax14, hcx14⟩ := hC.at_ _ _ hxx14
      refine HP.take rfl (.yes rfl rfl (kb h13)) rfl hI11 (fun _ r _ hI => R.indexAddr_o (k := olx14 + i * 10) (r.e rfl) hax14 (r.e rfl) Try.runUnderlying47 Try.sizeOf70 (by omega) (by omega) (by simp)) ?_
      refine HP.take rfl (.yes rfl rfl (kb h13)) rfl hI11 (fun _ r _ hI => R.fieldAddr (k := olx14 + i * 10) (r.e rfl) Try.runUnderlying70 rfl Try.sizeOf3 rfl) ?_
      refine HP.take rfl (.yes rfl rfl (kb h13)) rfl hI11 (fun _ r _ hI => R.load1 (r.e rfl) Try.isAgg3 (hI.pc (i := 1) rfl (hcx14 0 _ rfl))) ?_
      refine HP.take rfl (.yes rfl rfl (kb h13)) rfl hI11 (fun _ r _ hI => R.fieldAddr (k := 0) (r.e rfl) Try.runUnderlying41 rfl Try.sizeOf3 rfl) ?_
      refine HP.take rfl (.yes rfl rfl (kb h13)) rfl hI11 (fun _ r _ hI => R.load1 (r.e rfl) Try.isAgg3 (hI.cell (i := 0) rfl rfl)) ?_
      refine HP.take rfl (.yes rfl rfl (kb h13)) rfl hI11 (fun _ r _ hI => R.eql (r.e rfl) (r.e rfl)) ?_
      refine HP.take rfl (.free rfl) rfl hI11 (fun _ r _ hI => R.pick_yes (r.e (kb h13)) (r.e rfl)) ?_
      refine HP.done (EW.then (?_))
      by_cases h15 : x14.th = o.th
      · -- x14.th = o.th
        refine CW.yes (kb (dT h15)) ?_
        refine CW.seq ?_
        refine CW.seq ?_
        refine HP.start (I := fun w' => Own w' [[(b1, .cells #[.int .i64 o.th, .bool o.back, .int .i64 o.d, .int .i64 o.h, .int .i64 o.off, .int .i64 o.n, .int .i64 o.code, .int .i64 o.num] 41 (0, 0))], G]) (.take 0 (.take 1 (.take 2 (.take 3 (.take 4 (.one 5 (.done))))))) Try.mixed (by intro c d v a w h; cases d <;> exact h) hO10 (by kernel_rfl) ?_
        intro w17 hO18
        have hI19 := hO18.pick [0, 0] rfl
        refine HP.take rfl (.free rfl) rfl hI19 (fun _ r _ hI => R.move (r.e rfl)) ?_
        refine HP.take rfl (.free rfl) rfl hI19 (fun _ r _ hI => R.move (r.e rfl)) ?_
        obtain ⟨blx14_20, olx14_20, hax14_20, hcx14_20⟩ := hC.at_ _ _ hxx14
        refine HP.take rfl (.free rfl) rfl hI19 (fun _ r _ hI => R.indexAddr_o (k := olx14_20 + i * 10) (r.e rfl) hax14_20 (r.e rfl) Try.runUnderlying47 Try.sizeOf70 (by omega) (by omega) (by simp)) ?_
        refine HP.take rfl (.free rfl) rfl hI19 (fun _ r _ hI => R.loadn (vs := [.int .i64 x14.th, .int .i64 x14.d, .int .i64 x14.h, .int .i64 x14.off, .int .i64 x14.n, .int .i64 x14.code, .int .i64 x14.num, .bool x14.done, .int .i64 x14.frm, .int .i64 x14.to_]) (r.e rfl) Try.isAgg70 Try.sizeOf70 rfl (fun j v hj => hI.pc (i := 1) rfl (hcx14_20 j v hj))) ?_
        refine HP.take rfl (.free rfl) rfl hI19 (fun _ r _ hI => R.loadn (vs := [.int .i64 o.th, .bool o.back, .int .i64 o.d, .int .i64 o.h, .int .i64 o.off, .int .i64 o.n, .int .i64 o.code, .int .i64 o.num]) (r.e rfl) Try.isAgg41 Try.sizeOf41 rfl (hI.cells (i := 0) rfl rfl)) ?_
        refine HP.one rfl (.free rfl) (OW.calls rfl (fun _ r => R.call (vs := [.agg #[.int .i64 x14.th, .int .i64 x14.d, .int .i64 x14.h, .int .i64 x14.off, .int .i64 x14.n, .int .i64 x14.code, .int .i64 x14.num, .bool x14.done, .int .i64 x14.frm, .int .i64 x14.to_], .agg #[.int .i64 o.th, .bool o.back, .int .i64 o.d, .int .i64 o.h, .int .i64 o.off, .int .i64 o.n, .int .i64 o.code, .int .i64 o.num]]) Try.call46 rfl ⟨r.e rfl, r.e rfl, trivial⟩) (e_is x14 o _ _ (hO18.frame [] rfl)) ?_)
        rintro _ w21 ⟨rfl, hO22⟩
        replace hO22 := hO22.unframe0
        have hI23 := hO22.pick [0, 0] rfl
        refine ⟨hI23, ?_⟩
        refine HP.done (EW.then (?_))
        rcases Bool.eq_false_or_eq_true (isP x14 o) with h24 | h24
        · -- (isP x14 o)
          refine CW.yes (kb h24) ?_
          refine CW.seq ?_
          refine CW.region ?_
          refine LW.value (.free rfl) rfl (fun _ r => R.move (r.e rfl)) ?_
          refine LW.value (.free rfl) rfl (fun _ r => R.assign (r.e rfl)) ?_
          refine LW.nil (EW.then (?_))
          refine CW.ret (EW.then_ret (EW.inB_ret (EW.then_ret (EW.then_ret (EW.inB_ret (EW.then_ret (?_)))))))
          refine EW.ret1 rfl rfl ?_
          have hF : firstAt cs left o.th 0 = some i := by rw [hf]; exact firstAt_here hxx14 (by rw [hxx12, h13]) h15
          exact .inr ⟨i, x14, rfl, hF, hxx14, h24, hO22.pick [1, 1] rfl⟩
        · -- not: (isP x14 o)
          refine CW.no (kb h24) ?_
          refine CW.skip (EW.then (?_))
          refine CW.seq ?_
          refine CW.region ?_
          refine LW.value (.free rfl) rfl (fun _ r => R.assign (r.e rfl)) ?_
          refine LW.nil (EW.then (?_))
          refine CW.ret (EW.inB_ret (EW.then_ret (EW.then_ret (EW.inB_ret (EW.then_ret (?_))))))
          refine EW.ret1 rfl rfl ?_
          have hF : firstAt cs left o.th 0 = some i := by rw [hf]; exact firstAt_here hxx14 (by rw [hxx12, h13]) h15
          exact .inl ⟨rfl, fun X T => hStep_is hF hxx14 h24, hO22.pick [1, 1] rfl⟩
      · -- not: x14.th = o.th
        refine CW.no (kb (dF h15)) ?_
        refine CW.skip (EW.inB_normal (EW.then (?_)))
        refine CW.region ?_
        refine LW.value (.free rfl) rfl (fun _ r => R.move (r.e rfl)) ?_
        refine LW.value (.free rfl) rfl (fun _ r => R.as (R.add (r.e rfl) (r.e rfl)) (congrArg (Value.int .i64) (wrap_i64 (by omega) (by omega)))) ?_
        refine LW.value (.free rfl) rfl (fun _ r => R.assign (r.e rfl)) ?_
        refine LW.nil ?_
        exact EW.sub (env' := [(0, .slice aC nC cC), (1, .slice aL nL cL), (5, .pointer (some ⟨b1, 0, none⟩)), (7, .int .i64 ((i + 1) : Int))]) ⟨rfl, rfl, rfl, rfl, trivial⟩ (EW.round (i + 1) ⟨rfl, hO10, by omega, by rw [hf, firstAt_on hxx14 (.inr h15)]⟩ (by omega))
    · -- not: x12
      refine HP.takeOff rfl (.no rfl rfl (kb h13)) rfl hI11 ?_
      refine HP.takeOff rfl (.no rfl rfl (kb h13)) rfl hI11 ?_
      refine HP.takeOff rfl (.no rfl rfl (kb h13)) rfl hI11 ?_
      refine HP.takeOff rfl (.no rfl rfl (kb h13)) rfl hI11 ?_
      refine HP.takeOff rfl (.no rfl rfl (kb h13)) rfl hI11 ?_
      refine HP.takeOff rfl (.no rfl rfl (kb h13)) rfl hI11 ?_
      refine HP.takeOff rfl (.no rfl rfl (kb h13)) rfl hI11 ?_
      refine HP.takeOff rfl (.no rfl rfl (kb h13)) rfl hI11 ?_
      refine HP.take rfl (.free rfl) rfl hI11 (fun _ r _ hI => R.pick_no (r.e (kb h13)) (r.e rfl)) ?_
      refine HP.done (EW.then (?_))
      refine CW.no rfl ?_
      refine CW.skip (EW.inB_normal (EW.then (?_)))
      refine CW.region ?_
      refine LW.value (.free rfl) rfl (fun _ r => R.move (r.e rfl)) ?_
      refine LW.value (.free rfl) rfl (fun _ r => R.as (R.add (r.e rfl) (r.e rfl)) (congrArg (Value.int .i64) (wrap_i64 (by omega) (by omega)))) ?_
      refine LW.value (.free rfl) rfl (fun _ r => R.assign (r.e rfl)) ?_
      refine LW.nil ?_
      obtain ⟨x25, hx26⟩ : ∃ t, (cs)[i]? = some t := ⟨_, List.getElem?_eq_getElem (by omega)⟩
      exact EW.sub (env' := [(0, .slice aC nC cC), (1, .slice aL nL cL), (5, .pointer (some ⟨b1, 0, none⟩)), (7, .int .i64 ((i + 1) : Int))]) ⟨rfl, rfl, rfl, rfl, trivial⟩ (EW.round (i + 1) ⟨rfl, hO10, by omega, by rw [hf, firstAt_on hx26 (.inl (by rw [hxx12, h13]))]⟩ (by omega))
  · -- not: (i : Int) < (nC : Int)
    refine CW.no (kb (dF h6)) ?_
    refine CW.exit (EW.then_exit (EW.then_exit (EW.inB_same (EW.then (?_)))))
    refine CW.seq ?_
    refine CW.region ?_
    refine LW.value (.free rfl) rfl (fun _ r => R.assign (r.e rfl)) ?_
    refine LW.nil (EW.then (?_))
    refine CW.ret ?_
    refine EW.ret1 rfl rfl ?_
    exact .inl ⟨rfl, fun X T => hStep_none (by rw [hf, firstAt_end (by omega)]), hO5.pick [1, 1] rfl⟩

set_option maxRecDepth 100000 in
set_option maxHeartbeats 4000000 in
theorem r_holds (G F : Seg) (a : Option Addr) (n c : Nat) (l : List Ev) (hs : Sl G 8 encE a n c l) (hn : l.length ≤ 1000) (a2 : Option Addr) (n2 c2 : Nat) (order : List Ev) (hs2 : Sl G 8 encE a2 n2 c2 order) (hn2 : order.length ≤ 1000) (w : World) (hO : Own w [G, F]) : Calls Try.prog 12 [.slice a n c, .slice a2 n2 c2].toArray w (Ret fun v w' => v = .bool (decide (HoldsP l order)) ∧ Own w' [G, F]) := by
  have hl := hs.hlen
  have hl2 := hs2.hlen
  refine enter (n := 89) Try.func12 rfl rfl rfl ?_
  refine CW.seq ?_
  refine CW.region ?_
  refine LW.value (.free rfl) rfl (fun _ r => R.assign (r.e rfl)) ?_
  refine LW.nil (EW.then (?_))
  refine CW.seq ?_
  refine CW.region ?_
  refine LW.value (.free rfl) rfl (fun _ r => R.move (r.e rfl)) ?_
  refine LW.op (.free rfl) (OW.calls rfl (fun _ r => R.call (vs := [.slice a n c]) Try.call16 rfl ⟨r.e rfl, trivial⟩) (e_calls _ _ _ _ _ l hs (by omega) _ (hO.frame [0] rfl)) ?_)
  rintro _ w4 ⟨v1, s2, rfl, hg3, hO5⟩
  replace hO5 := hO5.unframe2
  refine LW.value (.free rfl) rfl (fun _ r => R.move (r.e rfl)) ?_
  refine LW.value (.free rfl) rfl (fun _ r => R.extract (r.e rfl) rfl) ?_
  refine LW.value (.free rfl) rfl (fun _ r => R.extract (r.e rfl) rfl) ?_
  refine LW.value (.free rfl) rfl (fun _ r => R.assign (r.e rfl)) ?_
  refine LW.value (.free rfl) rfl (fun _ r => R.assign (r.e rfl)) ?_
  refine LW.nil (EW.then (?_))
  refine CW.seq ?_
  refine CW.seq ?_
  refine CW.region ?_
  refine LW.value (.free rfl) rfl (fun _ r => R.move (r.e rfl)) ?_
  refine LW.value (.free rfl) rfl (fun _ r => R.neq (r.e rfl) (r.e rfl)) ?_
  refine LW.nil (EW.then (?_))
  by_cases h6 : (checkL l) = 0
  · -- (checkL l) = 0
    refine CW.no (kb (bN (dT h6))) ?_
    refine CW.skip (EW.then (?_))
    refine CW.seq ?_
    rw [if_pos h6] at hg3
    have hcl := callsI_len l l.length
    obtain ⟨cs, hcs⟩ : ∃ z, z = callsI l l.length := ⟨_, rfl⟩
    rw [← hcs] at hg3 hcl
    obtain ⟨a7, n8, c9, ev10, hsl11⟩ := Grow.shut hg3 (fun _ _ => rfl)
    subst ev10
    obtain ⟨G12, hG13⟩ : ∃ g : Seg, g = (s2 : Seg) ++ G := ⟨_, rfl⟩
    have hO14 : Own _ [G12, F] := (hO5.pick [0, 0, 0] rfl).perm' (List.Perm.of_eq (by simp [hG13]))
    have hs15 : ∀ p ∈ G, p ∈ G12 := by rw [hG13]; intro p hp; simp [hp]
    have hC := hsl11.mono (G' := G12) (by rw [hG13]; intro p hp; simp [hp])
    have hlhC := hC.hlen
    have hsub0 := hs15
    have hs0 := hs.mono hs15
    have hs20 := hs2.mono hs15
    refine CW.region ?_
    refine LW.value (.free rfl) rfl (fun _ r => R.move (r.e rfl)) ?_
    refine LW.value (.free rfl) rfl (fun _ r => R.len_slice (r.e rfl) Try.runUnderlying47) ?_
    refine LW.op (.free rfl) (OW.makeSlice (u := .bool false) rfl hO14 elemBool rfl rfl (by omega) (by omega) (by omega) ?_)
    intro b16 w17 hO18
    have hg19 := grow_made (enc := encB) (x := false) (b := b16) (E := 4) (n := ((n8 : Int)).toNat) rfl
    refine LW.value (.free rfl) rfl (fun _ r => R.assign (r.e rfl)) ?_
    refine LW.nil (EW.then (?_))
    refine CW.seq ?_
    refine CW.seq ?_
    refine CW.region ?_
    refine LW.value (.free rfl) rfl (fun _ r => R.assign (r.e rfl)) ?_
    refine LW.nil (EW.then (?_))
    refine CW.block ?_
    refine CW.sub (env' := [(1, .slice a2 n2 c2), (5, .slice a7 n8 c9), (7, (.slice (some ⟨b16, 0, none⟩) (n8 : Int).toNat (n8 : Int).toNat)), (8, .int .i64 (0 : Int))]) ⟨rfl, rfl, rfl, rfl, trivial⟩ ?_
    refine CW.loop (α := Nat × Value × Seg) (fun (x_ : Nat × Value × Seg) env_ w_ => ∃ i0 v s, x_ = (i0, v, s) ∧ env_ = [(1, .slice a2 n2 c2), (5, .slice a7 n8 c9), (7, v), (8, .int .i64 (i0 : Int))] ∧ Own w_ [s, G12, F] ∧ (i0 ≤ cs.length) ∧ (Grow 4 1 encB v s (fillB cs.length i0))) (fun (x_ : Nat × Value × Seg) => cs.length - x_.1) (0, .slice (some ⟨b16, 0, none⟩) (n8 : Int).toNat (n8 : Int).toNat, [(b16, .cells (List.replicate (n8 : Int).toNat (.bool false)).toArray 4 (0, 0))]) ⟨0, .slice (some ⟨b16, 0, none⟩) (n8 : Int).toNat (n8 : Int).toNat, [(b16, .cells (List.replicate (n8 : Int).toNat (.bool false)).toArray 4 (0, 0))], rfl, rfl, hO18.pick [0, 0, 0] rfl, Nat.zero_le _, by rw [fillB_0]; simpa [hlhC] using hg19⟩ ?_
    rintro _ _ w20 ⟨i0, v, s, rfl, rfl, hO21, hi0, hg⟩
    have hfl := fillB_len hi0
    refine CW.seq ?_
    refine CW.seq ?_
    refine CW.region ?_
    refine LW.value (.free rfl) rfl (fun _ r => R.move (r.e rfl)) ?_
    refine LW.value (.free rfl) rfl (fun _ r => R.move (r.e rfl)) ?_
    obtain ⟨a22, cap23, rfl⟩ := Grow.slice hg
    refine LW.value (.free rfl) rfl (fun _ r => R.len_slice (r.e rfl) Try.runUnderlying50) ?_
    refine LW.value (.free rfl) rfl (fun _ r => R.lss (r.e rfl) (r.e rfl)) ?_
    refine LW.nil (EW.then (?_))
    by_cases h24 : (i0 : Int) < (((fillB cs.length i0)).length : Int)
    · -- (i0 : Int) < (((fillB cs.length i0)).length : Int)
      refine CW.yes (kb (dT h24)) ?_
      refine CW.skip (EW.then (?_))
      refine CW.seq ?_
      refine CW.block ?_
      refine CW.region ?_
      refine LW.value (.free rfl) rfl (fun _ r => R.move (r.e rfl)) ?_
      refine LW.value (.free rfl) rfl (fun _ r => R.move (r.e rfl)) ?_
      have hl25 : i0 < ((fillB cs.length i0)).length := by (try simp only [List.length_append, List.length_set, List.length_singleton]); omega
      obtain ⟨b26, cap27, ev28⟩ := Grow.opened hg (by omega)
      injection ev28 with ev28a ev28b ev28c
      subst ev28a ev28c
      obtain ⟨q29, hq30⟩ : ∃ t, ((fillB cs.length i0))[i0]? = some t := ⟨_, List.getElem?_eq_getElem hl25⟩
      refine LW.value (.free rfl) rfl (fun _ r => R.indexAddr (k := i0 * 1) (r.e rfl) (r.e rfl) Try.runUnderlying50 Try.sizeOf4 (by omega) (by omega) (by simp)) ?_
      refine LW.op (.free rfl) (OW.storeElem (i := 0) (o := 0) (q' := true) (vs := [.bool true]) rfl hO21 rfl hg (fun _ _ => rfl) hq30 rfl rfl rfl rfl rfl Try.sizeOf4 rfl rfl ?_)
      intro w31 s33 hg34 hO32
      have hq35 := get_set_self (y := true) hq30
      refine LW.nil (EW.inB_normal (EW.then (?_)))
      refine CW.region ?_
      refine LW.value (.free rfl) rfl (fun _ r => R.move (r.e rfl)) ?_
      refine LW.value (.free rfl) rfl (fun _ r => R.as (R.add (r.e rfl) (r.e rfl)) (congrArg (Value.int .i64) (wrap_i64 (by omega) (by omega)))) ?_
      refine LW.value (.free rfl) rfl (fun _ r => R.assign (r.e rfl)) ?_
      refine LW.nil ?_
      exact EW.sub (env' := [(1, .slice a2 n2 c2), (5, .slice a7 n8 c9), (7, (.slice (some ⟨b26, 0, none⟩) ((fillB cs.length i0)).length cap23)), (8, .int .i64 ((i0 + 1) : Int))]) ⟨rfl, rfl, rfl, rfl, trivial⟩ (EW.round (i0 + 1, .slice (some ⟨b26, 0, none⟩) ((fillB cs.length i0)).length cap23, s33) ⟨i0 + 1, .slice (some ⟨b26, 0, none⟩) ((fillB cs.length i0)).length cap23, s33, rfl, rfl, hO32.pick [0, 0, 0] rfl, by omega, by have h := hg34; rw [fillB_set (by omega)] at h; exact h⟩ (by dsimp only; omega))
    · -- not: (i0 : Int) < (((fillB cs.length i0)).length : Int)
      refine CW.no (kb (dF h24)) ?_
      refine CW.exit (EW.then_exit (EW.then_exit (EW.inB_same (EW.then (?_)))))
      refine CW.seq ?_
      refine CW.region ?_
      refine LW.value (.free rfl) rfl (fun _ r => R.build (v := .agg #[.slice none 0 0, .slice none 0 0]) (vs := []) trivial (by simp [go_sem])) ?_
      refine LW.op (.free rfl) (OW.box (cs := #[.slice none 0 0, .slice none 0 0]) rfl hO21 rfl rfl ?_)
      intro b36 w37 hO38
      have hO39 := hO38.nil
      refine LW.value (.free rfl) rfl (fun _ r => R.assign (r.e rfl)) ?_
      refine LW.nil (EW.then (?_))
      refine CW.seq ?_
      refine CW.seq ?_
      refine CW.region ?_
      refine LW.value (.free rfl) rfl (fun _ r => R.assign (r.e rfl)) ?_
      refine LW.nil (EW.then (?_))
      refine CW.block ?_
      have hg40 : Grow 4 1 encB (.slice a22 ((fillB cs.length i0)).length cap23) s (List.replicate cs.length true) := by rw [show List.replicate cs.length true = fillB cs.length i0 from by rw [show i0 = cs.length from by omega, fillB_all]]; exact hg
      refine CW.sub (env' := [(1, .slice a2 n2 c2), (5, .slice a7 n8 c9), (7, (.slice a22 ((fillB cs.length i0)).length cap23)), (9, .pointer (some ⟨b36, 0, none⟩)), (10, .int .i64 (0 : Int))]) ⟨rfl, rfl, rfl, rfl, rfl, trivial⟩ ?_
      refine CW.loop (α := Nat × List Bool × Value × Seg × Array Value × List PT × List Int × Seg) (fun (x_ : Nat × List Bool × Value × Seg × Array Value × List PT × List Int × Seg) env_ w_ => ∃ i lf v s ks X T G1, x_ = (i, lf, v, s, ks, X, T, G1) ∧ env_ = [(1, .slice a2 n2 c2), (5, .slice a7 n8 c9), (7, v), (9, .pointer (some ⟨b36, 0, none⟩)), (10, .int .i64 (i : Int))] ∧ Own w_ [s, [(b36, .cells ks 34 (0, 0))], G1, F] ∧ (i ≤ order.length) ∧ (holdI cs order i = some (lf, X, T)) ∧ (Grow 4 1 encB v s lf) ∧ (KRef G1 ks X T) ∧ (∀ p ∈ G12, p ∈ G1)) (fun (x_ : Nat × List Bool × Value × Seg × Array Value × List PT × List Int × Seg) => order.length - x_.1) (0, (List.replicate cs.length true), .slice a22 ((fillB cs.length i0)).length cap23, s, #[.slice none 0 0, .slice none 0 0], [], [], G12) ⟨0, (List.replicate cs.length true), .slice a22 ((fillB cs.length i0)).length cap23, s, #[.slice none 0 0, .slice none 0 0], [], [], G12, rfl, rfl, hO39.pick [2, 1, 1, 1] rfl, Nat.zero_le _, rfl, hg40, KRef.mono KRef.empty (by intro p hp; simp at hp), fun p hp => hp⟩ ?_
      rintro _ _ w41 ⟨i, lf, v, s, ks, X, T, G1, rfl, rfl, hO42, hi, hst, hg, hK, hG1⟩
      have hln := holdI_len hst; dsimp only at hln
      refine CW.seq ?_
      refine CW.seq ?_
      refine CW.region ?_
      refine LW.value (.free rfl) rfl (fun _ r => R.move (r.e rfl)) ?_
      refine LW.value (.free rfl) rfl (fun _ r => R.move (r.e rfl)) ?_
      refine LW.value (.free rfl) rfl (fun _ r => R.len_slice (r.e rfl) Try.runUnderlying22) ?_
      refine LW.value (.free rfl) rfl (fun _ r => R.lss (r.e rfl) (r.e rfl)) ?_
      refine LW.nil (EW.then (?_))
      by_cases h43 : (i : Int) < (n2 : Int)
      · -- (i : Int) < (n2 : Int)
        refine CW.yes (kb (dT h43)) ?_
        refine CW.skip (EW.then (?_))
        refine CW.seq ?_
        refine CW.block ?_
        refine CW.seq ?_
        refine CW.region ?_
        refine LW.value (.free rfl) rfl (fun _ r => R.move (r.e rfl)) ?_
        refine LW.value (.free rfl) rfl (fun _ r => R.move (r.e rfl)) ?_
        refine LW.value (.free rfl) rfl (fun _ r => R.move (r.e rfl)) ?_
        refine LW.value (.free rfl) rfl (fun _ r => R.move (r.e rfl)) ?_
        obtain ⟨x44, hxx44⟩ : ∃ t, (order)[i]? = some t := ⟨_, List.getElem?_eq_getElem (by omega)⟩
        obtain ⟨blx44, olx44, hax44, hcx44⟩ := (hs20.mono hG1).at_ _ _ hxx44
        refine LW.value (.free rfl) rfl (fun _ r => R.indexAddr_o (k := olx44 + i * 8) (r.e rfl) hax44 (r.e rfl) Try.runUnderlying22 Try.sizeOf41 (by omega) (by omega) (by simp)) ?_
        refine LW.value (.free rfl) rfl (fun _ r => R.loadn (vs := [.int .i64 x44.th, .bool x44.back, .int .i64 x44.d, .int .i64 x44.h, .int .i64 x44.off, .int .i64 x44.n, .int .i64 x44.code, .int .i64 x44.num]) (r.e rfl) Try.isAgg41 Try.sizeOf41 rfl (fun j v hj => hO42.pc (i := 2) rfl (hcx44 j v hj))) ?_
        obtain ⟨a45, cap46, rfl⟩ := Grow.slice hg
        have hsl47 := Grow.sl hg (fun _ _ => rfl)
        have hO48 := (hO42.move [0, 1] rfl).join
        refine LW.op (.free rfl) (OW.calls rfl (fun _ r => R.call (vs := [.slice a7 n8 c9, (.slice a45 (lf).length cap46), .agg #[.int .i64 x44.th, .bool x44.back, .int .i64 x44.d, .int .i64 x44.h, .int .i64 x44.off, .int .i64 x44.n, .int .i64 x44.code, .int .i64 x44.num]]) Try.call25 rfl ⟨r.e rfl, r.e rfl, r.e rfl, trivial⟩) (e_place _ _ _ _ _ cs (hC.mono (fun p hp => List.mem_append_right _ (hG1 p hp))) (by omega) _ _ _ lf (hsl47.mono (fun p hp => List.mem_append_left _ hp)) (by omega) x44 _ (hO48.frame [0] rfl)) ?_)
        rintro _ w49 (⟨rfl, hno50, hO51⟩ | ⟨k52, q53, rfl, hF54, hq55, his56, hO57⟩)
        ·
          replace hO51 := hO51.unframe1.split
          refine LW.value (.free rfl) rfl (fun _ r => R.assign (r.e rfl)) ?_
          refine LW.nil (EW.then (?_))
          refine CW.seq ?_
          refine CW.seq ?_
          refine CW.region ?_
          refine LW.value (.free rfl) rfl (fun _ r => R.move (r.e rfl)) ?_
          refine LW.value (.free rfl) rfl (fun _ r => R.as (R.lss (r.e rfl) (r.e rfl)) rfl) ?_
          refine LW.nil (EW.then (?_))
          refine CW.yes rfl ?_
          refine CW.seq ?_
          refine CW.region ?_
          refine LW.value (.free rfl) rfl (fun _ r => R.assign (r.e rfl)) ?_
          refine LW.nil (EW.then (?_))
          refine CW.ret (EW.then_ret (EW.inB_ret (EW.then_ret (EW.then_ret (EW.inB_ret (EW.then_ret (?_)))))))
          refine EW.ret1 rfl rfl ?_
          subst hcs
          exact ⟨congrArg Value.bool (decide_eq_false (holds_no (i := i + 1) (by rw [holdI_succ hst hxx44]; exact hno50 X T) (by omega))).symm, (Own.shrink1 (hO.pick [1, 0] rfl) (fun p hp => hG1 p (hsub0 p hp)) (hO51.pick [3, 1] rfl)).pick [1, 0] rfl⟩
        ·
          replace hO57 := hO57.unframe1.split
          have hkk52 := firstAt_some _ _ _ (Nat.le_refl _) hF54
          refine LW.value (.free rfl) rfl (fun _ r => R.assign (r.e rfl)) ?_
          refine LW.nil (EW.then (?_))
          refine CW.seq ?_
          refine CW.seq ?_
          refine CW.region ?_
          refine LW.value (.free rfl) rfl (fun _ r => R.move (r.e rfl)) ?_
          refine LW.value (.free rfl) rfl (fun _ r => R.lss (r.e rfl) (r.e rfl)) ?_
          refine LW.nil (EW.then (?_))
          refine CW.no (kb (dF (by omega))) ?_
          refine CW.skip (EW.then (?_))
          refine CW.seq ?_
          refine CW.seq ?_
          refine HP.start (I := fun w' => Own w' [G1]) (.take 0 (.take 1 (.take 2 (.one 3 (.take 4 (.take 5 (.take 6 (.take 7 (.take 8 (.take 9 (.take 10 (.take 11 (.take 12 (.take 13 (.take 14 (.take 15 (.take 16 (.one 17 (.take 18 (.take 19 (.done))))))))))))))))))))) Try.mixed (by intro c d v a w h; cases d <;> exact h) hO57 (by kernel_rfl) ?_
          intro w60 hO61
          have hI62 := hO61.pick [1] rfl
          refine HP.take rfl (.free rfl) rfl hI62 (fun _ r _ hI => R.move (r.e rfl)) ?_
          refine HP.take rfl (.free rfl) rfl hI62 (fun _ r _ hI => R.move (r.e rfl)) ?_
          refine HP.take rfl (.free rfl) rfl hI62 (fun _ r _ hI => R.move (r.e rfl)) ?_
          have hsl63 := Grow.sl hg (fun _ _ => rfl)
          have hO64 := (hO61.move [0, 0] rfl).join
          refine HP.one rfl (.free rfl) (OW.calls rfl (fun _ r => R.call (vs := [.slice a7 n8 c9, .slice a45 (lf).length cap46, .int .i64 (k52 : Int)]) Try.call26 rfl ⟨r.e rfl, r.e rfl, r.e rfl, trivial⟩) (e_next _ _ _ _ _ cs (hC.mono (fun p hp => List.mem_append_right _ (hG1 p hp))) (by omega) _ _ _ lf (hsl63.mono (fun p hp => List.mem_append_left _ hp)) (by omega) k52 (by omega) _ (hO64.frame [0] rfl)) ?_)
          rintro _ w65 ⟨rfl, hO66⟩
          replace hO66 := hO66.unframe1.split
          have hI67 := hO66.pick [1] rfl
          refine ⟨hI67, ?_⟩
          refine HP.take rfl (.free rfl) rfl hI67 (fun _ r _ hI => R.not (r.e rfl)) ?_
          refine HP.take rfl (.free rfl) rfl hI67 (fun _ r _ hI => R.move (r.e rfl)) ?_
          by_cases h68 : May cs lf k52
          · -- May cs lf k52
            refine HP.take rfl (.yes rfl rfl (kb (bN (dT h68)))) rfl hI67 (fun _ r _ hI => R.move (r.e rfl)) ?_
            refine HP.take rfl (.yes rfl rfl (kb (bN (dT h68)))) rfl hI67 (fun _ r _ hI => R.move (r.e rfl)) ?_
            refine HP.take rfl (.yes rfl rfl (kb (bN (dT h68)))) rfl hI67 (fun _ r _ hI => R.move (r.e rfl)) ?_
            obtain ⟨blx44_69, olx44_69, hax44_69, hcx44_69⟩ := (hs20.mono hG1).at_ _ _ hxx44
            refine HP.take rfl (.yes rfl rfl (kb (bN (dT h68)))) rfl hI67 (fun _ r _ hI => R.indexAddr_o (k := olx44_69 + i * 8) (r.e rfl) hax44_69 (r.e rfl) Try.runUnderlying22 Try.sizeOf41 (by omega) (by omega) (by simp)) ?_
            refine HP.take rfl (.yes rfl rfl (kb (bN (dT h68)))) rfl hI67 (fun _ r _ hI => R.fieldAddr (k := olx44_69 + i * 8 + 2) (r.e rfl) Try.runUnderlying41 rfl Try.sizeOf36 rfl) ?_
            refine HP.take rfl (.yes rfl rfl (kb (bN (dT h68)))) rfl hI67 (fun _ r _ hI => R.loadn (vs := [.int .i64 x44.d, .int .i64 x44.h, .int .i64 x44.off, .int .i64 x44.n]) (r.e rfl) Try.isAgg36 Try.sizeOf36 rfl (fun j v hj => hI.pc (i := 0) rfl (by have h := hcx44_69 (2 + j) v (take_get (o := 2) (m := 4) hj); simpa [Nat.add_assoc] using h))) ?_
            refine HP.take rfl (.yes rfl rfl (kb (bN (dT h68)))) rfl hI67 (fun _ r _ hI => R.move (r.e rfl)) ?_
            refine HP.take rfl (.yes rfl rfl (kb (bN (dT h68)))) rfl hI67 (fun _ r _ hI => R.move (r.e rfl)) ?_
            obtain ⟨blx44_70, olx44_70, hax44_70, hcx44_70⟩ := (hs20.mono hG1).at_ _ _ hxx44
            refine HP.take rfl (.yes rfl rfl (kb (bN (dT h68)))) rfl hI67 (fun _ r _ hI => R.indexAddr_o (k := olx44_70 + i * 8) (r.e rfl) hax44_70 (r.e rfl) Try.runUnderlying22 Try.sizeOf41 (by omega) (by omega) (by simp)) ?_
            refine HP.take rfl (.yes rfl rfl (kb (bN (dT h68)))) rfl hI67 (fun _ r _ hI => R.fieldAddr (k := olx44_70 + i * 8 + 6) (r.e rfl) Try.runUnderlying41 rfl Try.sizeOf39 rfl) ?_
            refine HP.take rfl (.yes rfl rfl (kb (bN (dT h68)))) rfl hI67 (fun _ r _ hI => R.loadn (vs := [.int .i64 x44.code, .int .i64 x44.num]) (r.e rfl) Try.isAgg39 Try.sizeOf39 rfl (fun j v hj => hI.pc (i := 0) rfl (by have h := hcx44_70 (6 + j) v (take_get (o := 6) (m := 2) hj); simpa [Nat.add_assoc] using h))) ?_
            obtain ⟨b71, X72, T73, hr74⟩ : ∃ b X' T', tryP (X, T) x44.d x44.h x44.off x44.n x44.code x44.num = (b, X', T') := ⟨_, _, _, rfl⟩
            have hlhr74 := try_len hr74
            have hxhr74 := try_lenX hr74
            refine HP.one rfl (.yes rfl rfl (kb (bN (dT h68)))) (OW.calls rfl (fun _ r => R.call (vs := [.pointer (some ⟨b36, 0, none⟩), .agg #[.int .i64 x44.d, .int .i64 x44.h, .int .i64 x44.off, .int .i64 x44.n], .agg #[.int .i64 x44.code, .int .i64 x44.num]]) Try.call14 rfl ⟨r.e rfl, r.e rfl, r.e rfl, trivial⟩) (r_try hK (by omega) (by omega) hr74 (hO66.frame [2, 1] rfl)) ?_)
            rintro _ w75 ⟨G77, cs78, rfl, hs79, hK80, hO76⟩
            replace hO76 := hO76.unframe2
            have hsub81 : ∀ p ∈ G12, p ∈ G77 := fun p hp => hs79 p (hG1 p hp)
            have hrp82 : ∀ p ∈ G1, p ∈ G77 := fun p hp => hs79 p hp
            have hI83 := Own.shrink0 hI67 hrp82 (hO76.pick [1] rfl)
            refine ⟨hI83, ?_⟩
            refine HP.take rfl (.yes rfl rfl (kb (bN (dT h68)))) rfl hI83 (fun _ r _ hI => R.not (r.e rfl)) ?_
            refine HP.take rfl (.free rfl) rfl hI83 (fun _ r _ hI => R.pick_no (r.e (kb (bN (dT h68)))) (r.e rfl)) ?_
            refine HP.done (EW.then (?_))
            rcases Bool.eq_false_or_eq_true b71 with h84 | h84
            · -- b71
              refine CW.no (kb (bN h84)) ?_
              refine CW.skip (EW.then (?_))
              refine CW.region ?_
              refine LW.value (.free rfl) rfl (fun _ r => R.move (r.e rfl)) ?_
              refine LW.value (.free rfl) rfl (fun _ r => R.move (r.e rfl)) ?_
              have hl85 : k52 < (lf).length := by (try simp only [List.length_append, List.length_set, List.length_singleton]); omega
              obtain ⟨b86, cap87, ev88⟩ := Grow.opened hg (by omega)
              injection ev88 with ev88a ev88b ev88c
              subst ev88a ev88c
              obtain ⟨q89, hq90⟩ : ∃ t, (lf)[k52]? = some t := ⟨_, List.getElem?_eq_getElem hl85⟩
              refine LW.value (.free rfl) rfl (fun _ r => R.indexAddr (k := k52 * 1) (r.e rfl) (r.e rfl) Try.runUnderlying50 Try.sizeOf4 (by omega) (by omega) (by simp)) ?_
              refine LW.op (.free rfl) (OW.storeElem (i := 2) (o := 0) (q' := false) (vs := [.bool false]) rfl hO76 rfl hg (fun _ _ => rfl) hq90 rfl rfl rfl rfl rfl Try.sizeOf4 rfl rfl ?_)
              intro w91 s93 hg94 hO92
              have hq95 := get_set_self (y := false) hq90
              refine LW.nil (EW.inB_normal (EW.then (?_)))
              refine CW.region ?_
              refine LW.value (.free rfl) rfl (fun _ r => R.move (r.e rfl)) ?_
              refine LW.value (.free rfl) rfl (fun _ r => R.as (R.add (r.e rfl) (r.e rfl)) (congrArg (Value.int .i64) (wrap_i64 (by omega) (by omega)))) ?_
              refine LW.value (.free rfl) rfl (fun _ r => R.assign (r.e rfl)) ?_
              refine LW.nil ?_
              exact EW.sub (env' := [(1, .slice a2 n2 c2), (5, .slice a7 n8 c9), (7, (.slice (some ⟨b86, 0, none⟩) (lf).length cap46)), (9, .pointer (some ⟨b36, 0, none⟩)), (10, .int .i64 ((i + 1) : Int))]) ⟨rfl, rfl, rfl, rfl, rfl, trivial⟩ (EW.round (i + 1, (lf.set k52 false), .slice (some ⟨b86, 0, none⟩) (lf).length cap46, s93, cs78, X72, T73, G77) ⟨i + 1, (lf.set k52 false), .slice (some ⟨b86, 0, none⟩) (lf).length cap46, s93, cs78, X72, T73, G77, rfl, rfl, hO92.pick [2, 0, 0, 0] rfl, by omega, by rw [holdI_succ hst hxx44, hStep_yes hF54 hq55 his56 h68 (hr74.trans (by rw [h84]))], hg94, hK80, hsub81⟩ (by dsimp only; omega))
            · -- not: b71
              refine CW.yes (kb (bN h84)) ?_
              refine CW.seq ?_
              refine CW.region ?_
              refine LW.value (.free rfl) rfl (fun _ r => R.assign (r.e rfl)) ?_
              refine LW.nil (EW.then (?_))
              refine CW.ret (EW.then_ret (EW.inB_ret (EW.then_ret (EW.then_ret (EW.inB_ret (EW.then_ret (?_)))))))
              refine EW.ret1 rfl rfl ?_
              subst hcs
              exact ⟨congrArg Value.bool (decide_eq_false (holds_no (i := i + 1) (by rw [holdI_succ hst hxx44]; exact hStep_try hF54 (hr74.trans (by rw [h84]))) (by omega))).symm, (Own.shrink1 (hO.pick [1, 0] rfl) (fun p hp => hsub81 p (hsub0 p hp)) (hO76.pick [3, 1] rfl)).pick [1, 0] rfl⟩
          · -- not: May cs lf k52
            refine HP.takeOff rfl (.no rfl rfl (kb (bN (dF h68)))) rfl hI67 ?_
            refine HP.takeOff rfl (.no rfl rfl (kb (bN (dF h68)))) rfl hI67 ?_
            refine HP.takeOff rfl (.no rfl rfl (kb (bN (dF h68)))) rfl hI67 ?_
            refine HP.takeOff rfl (.no rfl rfl (kb (bN (dF h68)))) rfl hI67 ?_
            refine HP.takeOff rfl (.no rfl rfl (kb (bN (dF h68)))) rfl hI67 ?_
            refine HP.takeOff rfl (.no rfl rfl (kb (bN (dF h68)))) rfl hI67 ?_
            refine HP.takeOff rfl (.no rfl rfl (kb (bN (dF h68)))) rfl hI67 ?_
            refine HP.takeOff rfl (.no rfl rfl (kb (bN (dF h68)))) rfl hI67 ?_
            refine HP.takeOff rfl (.no rfl rfl (kb (bN (dF h68)))) rfl hI67 ?_
            refine HP.takeOff rfl (.no rfl rfl (kb (bN (dF h68)))) rfl hI67 ?_
            refine HP.takeOff rfl (.no rfl rfl (kb (bN (dF h68)))) rfl hI67 ?_
            refine HP.oneOff rfl (.no rfl rfl (kb (bN (dF h68)))) rfl hI67 ?_
            refine HP.takeOff rfl (.no rfl rfl (kb (bN (dF h68)))) rfl hI67 ?_
            refine HP.take rfl (.free rfl) rfl hI67 (fun _ r _ hI => R.pick_yes (r.e (kb (bN (dF h68)))) (r.e rfl)) ?_
            refine HP.done (EW.then (?_))
            refine CW.yes rfl ?_
            refine CW.seq ?_
            refine CW.region ?_
            refine LW.value (.free rfl) rfl (fun _ r => R.assign (r.e rfl)) ?_
            refine LW.nil (EW.then (?_))
            refine CW.ret (EW.then_ret (EW.inB_ret (EW.then_ret (EW.then_ret (EW.inB_ret (EW.then_ret (?_)))))))
            refine EW.ret1 rfl rfl ?_
            subst hcs
            exact ⟨congrArg Value.bool (decide_eq_false (holds_no (i := i + 1) (by rw [holdI_succ hst hxx44]; exact hStep_may hF54 h68) (by omega))).symm, (Own.shrink1 (hO.pick [1, 0] rfl) (fun p hp => hG1 p (hsub0 p hp)) (hO66.pick [3, 1] rfl)).pick [1, 0] rfl⟩
      · -- not: (i : Int) < (n2 : Int)
        refine CW.no (kb (dF h43)) ?_
        refine CW.exit (EW.then_exit (EW.then_exit (EW.inB_same (EW.then (?_)))))
        refine CW.seq ?_
        refine CW.seq ?_
        refine CW.region ?_
        refine LW.value (.free rfl) rfl (fun _ r => R.assign (r.e rfl)) ?_
        refine LW.nil (EW.then (?_))
        refine CW.block ?_
        refine CW.sub (env' := [(5, .slice a7 n8 c9), (7, v), (12, .int .i64 (0 : Int))]) ⟨rfl, rfl, rfl, trivial⟩ ?_
        refine CW.loop (α := Nat) (fun m env_ w_ => env_ = [(5, .slice a7 n8 c9), (7, v), (12, .int .i64 (m : Int))] ∧ Own w_ [s, G1, F] ∧ (m ≤ cs.length) ∧ (DoneTo cs lf m)) (fun m => cs.length - m) 0 ⟨rfl, hO42.pick [0, 1, 1] rfl, Nat.zero_le _, fun k c hk => by omega⟩ ?_
        rintro m _ w96 ⟨rfl, hO97, hmm, hd⟩
        refine CW.seq ?_
        refine CW.seq ?_
        refine CW.region ?_
        refine LW.value (.free rfl) rfl (fun _ r => R.move (r.e rfl)) ?_
        refine LW.value (.free rfl) rfl (fun _ r => R.move (r.e rfl)) ?_
        obtain ⟨a98, cap99, hv100⟩ := Grow.slice hg
        refine LW.value (.free rfl) rfl (fun _ r => R.len_slice_v (r.e rfl) hv100 Try.runUnderlying50) ?_
        refine LW.value (.free rfl) rfl (fun _ r => R.lss (r.e rfl) (r.e rfl)) ?_
        refine LW.nil (EW.then (?_))
        by_cases h101 : (m : Int) < ((lf).length : Int)
        · -- (m : Int) < ((lf).length : Int)
          refine CW.yes (kb (dT h101)) ?_
          refine CW.skip (EW.then (?_))
          refine CW.seq ?_
          refine CW.block ?_
          refine CW.seq ?_
          refine CW.region ?_
          refine LW.value (.free rfl) rfl (fun _ r => R.move (r.e rfl)) ?_
          refine LW.value (.free rfl) rfl (fun _ r => R.move (r.e rfl)) ?_
          have hl102 : m < (lf).length := by (try simp only [List.length_append, List.length_set, List.length_singleton]); omega
          obtain ⟨b103, cap104, hv105⟩ := Grow.opened hg (by omega)
          have hg106 := hg
          rw [hv105] at hg106
          obtain ⟨q107, hq108⟩ : ∃ t, (lf)[m]? = some t := ⟨_, List.getElem?_eq_getElem hl102⟩
          refine LW.value (.free rfl) rfl (fun _ r => R.indexAddr_v (k := m * 1) (r.e rfl) hv105 (r.e rfl) Try.runUnderlying50 Try.sizeOf4 (by omega) (by omega) (by simp)) ?_
          refine LW.value (.free rfl) rfl (fun _ r => R.load1 (r.e rfl) Try.isAgg4 (hg106.cellAt hO97 (i := 0) (j := 0) rfl (fun _ _ => rfl) hq108 rfl)) ?_
          refine LW.value (.free rfl) rfl (fun _ r => R.move (r.e rfl)) ?_
          rcases Bool.eq_false_or_eq_true q107 with h109 | h109
          · -- q107
            refine LW.value (.yes rfl rfl (kb h109)) rfl (fun _ r => R.move (r.e rfl)) ?_
            refine LW.value (.yes rfl rfl (kb h109)) rfl (fun _ r => R.move (r.e rfl)) ?_
            obtain ⟨x110, hxx110⟩ : ∃ t, (cs)[m]? = some t := ⟨_, List.getElem?_eq_getElem (by omega)⟩
            obtain ⟨blx110, olx110, hax110, hcx110⟩ := (hC.mono hG1).at_ _ _ hxx110
            refine LW.value (.yes rfl rfl (kb h109)) rfl (fun _ r => R.indexAddr_o (k := olx110 + m * 10) (r.e rfl) hax110 (r.e rfl) Try.runUnderlying47 Try.sizeOf70 (by omega) (by omega) (by simp)) ?_
            refine LW.value (.yes rfl rfl (kb h109)) rfl (fun _ r => R.fieldAddr (k := olx110 + m * 10 + 7) (r.e rfl) Try.runUnderlying70 rfl Try.sizeOf4 rfl) ?_
            refine LW.value (.yes rfl rfl (kb h109)) rfl (fun _ r => R.load1 (r.e rfl) Try.isAgg4 (hO97.pc (i := 1) rfl (hcx110 7 _ rfl))) ?_
            refine LW.value (.free rfl) rfl (fun _ r => R.pick_yes (r.e (kb h109)) (r.e rfl)) ?_
            refine LW.nil (EW.then (?_))
            rcases Bool.eq_false_or_eq_true x110.done with h111 | h111
            · -- x110.done
              refine CW.yes (kb h111) ?_
              refine CW.seq ?_
              refine CW.region ?_
              refine LW.value (.free rfl) rfl (fun _ r => R.assign (r.e rfl)) ?_
              refine LW.nil (EW.then (?_))
              refine CW.ret (EW.inB_ret (EW.then_ret (EW.then_ret (EW.inB_ret (EW.then_ret (?_))))))
              refine EW.ret1 rfl rfl ?_
              subst hcs
              exact ⟨congrArg Value.bool (decide_eq_false (holds_not hst (by omega) (done_no hxx110 (by rw [hq108, h109]) h111))).symm, (Own.shrink1 (hO.pick [1, 0] rfl) (fun p hp => hG1 p (hsub0 p hp)) (hO97.pick [2, 1] rfl)).pick [1, 0] rfl⟩
            · -- not: x110.done
              refine CW.no (kb h111) ?_
              refine CW.skip (EW.inB_normal (EW.then (?_)))
              refine CW.region ?_
              refine LW.value (.free rfl) rfl (fun _ r => R.move (r.e rfl)) ?_
              refine LW.value (.free rfl) rfl (fun _ r => R.as (R.add (r.e rfl) (r.e rfl)) (congrArg (Value.int .i64) (wrap_i64 (by omega) (by omega)))) ?_
              refine LW.value (.free rfl) rfl (fun _ r => R.assign (r.e rfl)) ?_
              refine LW.nil ?_
              exact EW.sub (env' := [(5, .slice a7 n8 c9), (7, v), (12, .int .i64 ((m + 1) : Int))]) ⟨rfl, rfl, rfl, trivial⟩ (EW.round (m + 1) ⟨rfl, hO97, by omega, doneTo_next hd hxx110 hq108 (fun _ => h111)⟩ (by omega))
          · -- not: q107
            refine LW.off (.no rfl rfl (kb h109)) rfl ?_
            refine LW.off (.no rfl rfl (kb h109)) rfl ?_
            refine LW.off (.no rfl rfl (kb h109)) rfl ?_
            refine LW.off (.no rfl rfl (kb h109)) rfl ?_
            refine LW.off (.no rfl rfl (kb h109)) rfl ?_
            refine LW.value (.free rfl) rfl (fun _ r => R.pick_no (r.e (kb h109)) (r.e rfl)) ?_
            refine LW.nil (EW.then (?_))
            refine CW.no rfl ?_
            refine CW.skip (EW.inB_normal (EW.then (?_)))
            refine CW.region ?_
            refine LW.value (.free rfl) rfl (fun _ r => R.move (r.e rfl)) ?_
            refine LW.value (.free rfl) rfl (fun _ r => R.as (R.add (r.e rfl) (r.e rfl)) (congrArg (Value.int .i64) (wrap_i64 (by omega) (by omega)))) ?_
            refine LW.value (.free rfl) rfl (fun _ r => R.assign (r.e rfl)) ?_
            refine LW.nil ?_
            obtain ⟨x112, hx113⟩ : ∃ t, (cs)[m]? = some t := ⟨_, List.getElem?_eq_getElem (by omega)⟩
            exact EW.sub (env' := [(5, .slice a7 n8 c9), (7, v), (12, .int .i64 ((m + 1) : Int))]) ⟨rfl, rfl, rfl, trivial⟩ (EW.round (m + 1) ⟨rfl, hO97, by omega, doneTo_next hd hx113 hq108 (fun h => by rw [h109] at h; cases h)⟩ (by omega))
        · -- not: (m : Int) < ((lf).length : Int)
          refine CW.no (kb (dF h101)) ?_
          refine CW.exit (EW.then_exit (EW.then_exit (EW.inB_same (EW.then (?_)))))
          refine CW.seq ?_
          refine CW.region ?_
          refine LW.value (.free rfl) rfl (fun _ r => R.assign (r.e rfl)) ?_
          refine LW.nil (EW.then (?_))
          refine CW.ret ?_
          refine EW.ret1 rfl rfl ?_
          subst hcs
          exact ⟨congrArg Value.bool (decide_eq_true (holds_yes h6 hst (by omega) (by rw [show m = (callsI l l.length).length from by omega] at hd; exact hd))).symm, (Own.shrink1 (hO.pick [1, 0] rfl) (fun p hp => hG1 p (hsub0 p hp)) (hO97.pick [2, 1] rfl)).pick [1, 0] rfl⟩
  · -- not: (checkL l) = 0
    refine CW.yes (kb (bN (dF h6))) ?_
    refine CW.seq ?_
    refine CW.region ?_
    refine LW.value (.free rfl) rfl (fun _ r => R.assign (r.e rfl)) ?_
    refine LW.nil (EW.then (?_))
    refine CW.ret (EW.then_ret (?_))
    refine EW.ret1 rfl rfl ?_
    exact ⟨congrArg Value.bool (decide_eq_false (fun h => h6 h.1)).symm, hO5.pick [1, 1] rfl⟩

end Go.Sd
