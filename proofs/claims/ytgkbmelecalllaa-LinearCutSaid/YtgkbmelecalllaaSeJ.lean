/-
  Layer 9's reference, walked: its parts.
-/
import Derived.Test.YtgkbmelecalllaaSeI
import Derived.Test.YtgkbmelecalllaaSf2
set_option linter.unusedSimpArgs false
set_option linter.unusedVariables false
set_option linter.unusedSectionVars false
namespace Go.Sd
open Go Go.Proofs
variable [Str]
theorem elemBool : ElemT Try.prog 50 4 1 1 (.bool false) := ⟨Try.underlying50, ⟨Try.t4, by kernel_rfl, rfl, rfl, rfl⟩, by decide, rfl⟩
theorem elemRes : ElemT Try.prog 29 39 2 16 (.agg #[.int .i64 0, .int .i64 0]) := ⟨Try.underlying29, ⟨Try.t39, by kernel_rfl, rfl, rfl, rfl⟩, by decide, rfl⟩
set_option maxRecDepth 100000 in
set_option maxHeartbeats 400000 in
theorem e_before (a b : Cal) (F : Seg) (w : World) (hO : Own w [F]) : Calls Try.prog 47 [.agg #[.int .i64 a.th, .int .i64 a.d, .int .i64 a.h, .int .i64 a.off, .int .i64 a.n, .int .i64 a.code, .int .i64 a.num, .bool a.done, .int .i64 a.frm, .int .i64 a.to_], .agg #[.int .i64 b.th, .int .i64 b.d, .int .i64 b.h, .int .i64 b.off, .int .i64 b.n, .int .i64 b.code, .int .i64 b.num, .bool b.done, .int .i64 b.frm, .int .i64 b.to_]].toArray w (Ret fun v w' => v = .bool (a.done && decide (a.to_ < b.frm)) ∧ Own w' [F]) := by
  refine enter (n := 14) Try.func47 rfl rfl rfl ?_
  refine CW.seq ?_
  refine CW.region ?_
  refine LW.op (.free rfl) (OW.box (cs := #[.int .i64 a.th, .int .i64 a.d, .int .i64 a.h, .int .i64 a.off, .int .i64 a.n, .int .i64 a.code, .int .i64 a.num, .bool a.done, .int .i64 a.frm, .int .i64 a.to_]) rfl hO rfl rfl ?_)
  intro b1 w2 hO3
  refine LW.op (.free rfl) (OW.box (cs := #[.int .i64 b.th, .int .i64 b.d, .int .i64 b.h, .int .i64 b.off, .int .i64 b.n, .int .i64 b.code, .int .i64 b.num, .bool b.done, .int .i64 b.frm, .int .i64 b.to_]) rfl hO3 rfl rfl ?_)
  intro b4 w5 hO6
  refine LW.value (.free rfl) rfl (fun _ r => R.assign (r.e rfl)) ?_
  refine LW.nil (EW.then (?_))
  refine CW.seq ?_
  refine CW.region ?_
  refine LW.value (.free rfl) rfl (fun _ r => R.fieldAddr (k := 7) (r.e rfl) Try.runUnderlying70 rfl Try.sizeOf4 rfl) ?_
  refine LW.value (.free rfl) rfl (fun _ r => R.load1 (r.e rfl) Try.isAgg4 (hO6.cell (i := 1) rfl rfl)) ?_
  refine LW.value (.free rfl) rfl (fun _ r => R.move (r.e rfl)) ?_
  rcases Bool.eq_false_or_eq_true a.done with h7 | h7
  · -- a.done
    refine LW.value (.yes rfl rfl (kb h7)) rfl (fun _ r => R.fieldAddr (k := 9) (r.e rfl) Try.runUnderlying70 rfl Try.sizeOf3 rfl) ?_
    refine LW.value (.yes rfl rfl (kb h7)) rfl (fun _ r => R.load1 (r.e rfl) Try.isAgg3 (hO6.cell (i := 1) rfl rfl)) ?_
    refine LW.value (.yes rfl rfl (kb h7)) rfl (fun _ r => R.fieldAddr (k := 8) (r.e rfl) Try.runUnderlying70 rfl Try.sizeOf3 rfl) ?_
    refine LW.value (.yes rfl rfl (kb h7)) rfl (fun _ r => R.load1 (r.e rfl) Try.isAgg3 (hO6.cell (i := 0) rfl rfl)) ?_
    refine LW.value (.yes rfl rfl (kb h7)) rfl (fun _ r => R.lss (r.e rfl) (r.e rfl)) ?_
    refine LW.value (.free rfl) rfl (fun _ r => R.pick_yes (r.e (kb h7)) (r.e rfl)) ?_
    refine LW.value (.free rfl) rfl (fun _ r => R.assign (r.e rfl)) ?_
    refine LW.nil (EW.then (?_))
    refine CW.ret ?_
    refine EW.ret1 rfl rfl ?_
    exact ⟨by simp [h7], hO6.pick [2] rfl⟩
  · -- not: a.done
    refine LW.off (.no rfl rfl (kb h7)) rfl ?_
    refine LW.off (.no rfl rfl (kb h7)) rfl ?_
    refine LW.off (.no rfl rfl (kb h7)) rfl ?_
    refine LW.off (.no rfl rfl (kb h7)) rfl ?_
    refine LW.off (.no rfl rfl (kb h7)) rfl ?_
    refine LW.value (.free rfl) rfl (fun _ r => R.pick_no (r.e (kb h7)) (r.e rfl)) ?_
    refine LW.value (.free rfl) rfl (fun _ r => R.assign (r.e rfl)) ?_
    refine LW.nil (EW.then (?_))
    refine CW.ret ?_
    refine EW.ret1 rfl rfl ?_
    exact ⟨by simp [h7], hO6.pick [2] rfl⟩

set_option maxRecDepth 100000 in
set_option maxHeartbeats 400000 in
theorem e_next (G F : Seg) (aC : Option Addr) (nC cC : Nat) (cs : List Cal) (hC : Sl G 10 encL aC nC cC cs) (hn : cs.length ≤ 1000) (aL : Option Addr) (nL cL : Nat) (left : List Bool) (hL : Sl G 1 encB aL nL cL left) (hll : left.length = cs.length) (i : Nat) (hi : i < cs.length) (w : World) (hO : Own w [G, F]) : Calls Try.prog 26 [.slice aC nC cC, .slice aL nL cL, .int .i64 (i : Int)].toArray w (Ret fun v w' => v = .bool (decide (May cs left i)) ∧ Own w' [G, F]) := by
  have hlC := hC.hlen
  have hlL := hL.hlen
  obtain ⟨li, hli⟩ : ∃ t, left[i]? = some t := ⟨_, List.getElem?_eq_getElem (by omega)⟩
  refine enter (n := 57) Try.func26 rfl rfl rfl ?_
  refine CW.seq ?_
  refine CW.region ?_
  refine LW.value (.free rfl) rfl (fun _ r => R.assign (r.e rfl)) ?_
  refine LW.nil (EW.then (?_))
  refine CW.seq ?_
  refine CW.seq ?_
  refine CW.region ?_
  refine LW.value (.free rfl) rfl (fun _ r => R.move (r.e rfl)) ?_
  refine LW.value (.free rfl) rfl (fun _ r => R.move (r.e rfl)) ?_
  obtain ⟨blli_1, olli_1, hali_1, hcli_1⟩ := hL.at_ _ _ hli
  refine LW.value (.free rfl) rfl (fun _ r => R.indexAddr_o (k := olli_1 + i * 1) (r.e rfl) hali_1 (r.e rfl) Try.runUnderlying50 Try.sizeOf4 (by omega) (by omega) (by simp)) ?_
  refine LW.value (.free rfl) rfl (fun _ r => R.load1 (r.e rfl) Try.isAgg4 (hO.pc (i := 0) rfl (hcli_1 0 _ rfl))) ?_
  refine LW.value (.free rfl) rfl (fun _ r => R.not (r.e rfl)) ?_
  refine LW.nil (EW.then (?_))
  rcases Bool.eq_false_or_eq_true li with h2 | h2
  · -- li
    refine CW.no (kb (bN h2)) ?_
    refine CW.skip (EW.then (?_))
    refine CW.seq ?_
    refine CW.seq ?_
    refine CW.region ?_
    refine LW.value (.free rfl) rfl (fun _ r => R.assign (r.e rfl)) ?_
    refine LW.nil (EW.then (?_))
    refine CW.block ?_
    refine CW.sub (env' := [(0, .slice aC nC cC), (1, .slice aL nL cL), (2, .int .i64 (i : Int)), (7, .int .i64 (0 : Int))]) ⟨rfl, rfl, rfl, rfl, trivial⟩ ?_
    refine CW.loop (α := Nat) (fun k env_ w_ => env_ = [(0, .slice aC nC cC), (1, .slice aL nL cL), (2, .int .i64 (i : Int)), (7, .int .i64 (k : Int))] ∧ Own w_ [G, F] ∧ (k ≤ cs.length) ∧ (MayTo cs left i k)) (fun k => cs.length - k) 0 ⟨rfl, hO, Nat.zero_le _, fun k c x hk => by omega⟩ ?_
    rintro k _ w3 ⟨rfl, hO4, hk, hb⟩
    refine CW.seq ?_
    refine CW.seq ?_
    refine CW.region ?_
    refine LW.value (.free rfl) rfl (fun _ r => R.move (r.e rfl)) ?_
    refine LW.value (.free rfl) rfl (fun _ r => R.move (r.e rfl)) ?_
    refine LW.value (.free rfl) rfl (fun _ r => R.len_slice (r.e rfl) Try.runUnderlying47) ?_
    refine LW.value (.free rfl) rfl (fun _ r => R.lss (r.e rfl) (r.e rfl)) ?_
    refine LW.nil (EW.then (?_))
    by_cases h5 : (k : Int) < (nC : Int)
    · -- (k : Int) < (nC : Int)
      refine CW.yes (kb (dT h5)) ?_
      refine CW.skip (EW.then (?_))
      refine CW.seq ?_
      refine CW.block ?_
      refine CW.seq ?_
      refine HP.start (I := fun w' => Own w' [G, F]) (.take 0 (.take 1 (.take 2 (.take 3 (.take 4 (.take 5 (.take 6 (.take 7 (.take 8 (.take 9 (.take 10 (.take 11 (.take 12 (.take 13 (.take 14 (.take 15 (.take 16 (.take 17 (.one 18 (.take 19 (.take 20 (.take 21 (.take 22 (.take 23 (.take 24 (.take 25 (.take 26 (.take 27 (.take 28 (.take 29 (.take 30 (.take 31 (.take 32 (.take 33 (.take 34 (.take 35 (.take 36 (.take 37 (.done))))))))))))))))))))))))))))))))))))))) Try.mixed (by intro c d v a w h; cases d <;> exact h) hO4 (by kernel_rfl) ?_
      intro w11 hO12
      have hI13 := hO12.pick [0, 0] rfl
      refine HP.take rfl (.free rfl) rfl hI13 (fun _ r _ hI => R.move (r.e rfl)) ?_
      refine HP.take rfl (.free rfl) rfl hI13 (fun _ r _ hI => R.move (r.e rfl)) ?_
      obtain ⟨x14, hxx14⟩ : ∃ t, (left)[k]? = some t := ⟨_, List.getElem?_eq_getElem (by omega)⟩
      obtain ⟨blx14, olx14, hax14, hcx14⟩ := hL.at_ _ _ hxx14
      refine HP.take rfl (.free rfl) rfl hI13 (fun _ r _ hI => R.indexAddr_o (k := olx14 + k * 1) (r.e rfl) hax14 (r.e rfl) Try.runUnderlying50 Try.sizeOf4 (by omega) (by omega) (by simp)) ?_
      refine HP.take rfl (.free rfl) rfl hI13 (fun _ r _ hI => R.load1 (r.e rfl) Try.isAgg4 (hI.pc (i := 0) rfl (hcx14 0 _ rfl))) ?_
      refine HP.take rfl (.free rfl) rfl hI13 (fun _ r _ hI => R.move (r.e rfl)) ?_
      rcases Bool.eq_false_or_eq_true x14 with h15 | h15
      · -- x14
        refine HP.take rfl (.yes rfl rfl (kb h15)) rfl hI13 (fun _ r _ hI => R.move (r.e rfl)) ?_
        refine HP.take rfl (.yes rfl rfl (kb h15)) rfl hI13 (fun _ r _ hI => R.move (r.e rfl)) ?_
        refine HP.take rfl (.yes rfl rfl (kb h15)) rfl hI13 (fun _ r _ hI => R.neq (r.e rfl) (r.e rfl)) ?_
        refine HP.take rfl (.free rfl) rfl hI13 (fun _ r _ hI => R.pick_yes (r.e (kb h15)) (r.e rfl)) ?_
        refine HP.take rfl (.free rfl) rfl hI13 (fun _ r _ hI => R.move (r.e rfl)) ?_
        by_cases h16 : (k : Int) = (i : Int)
        · -- (k : Int) = (i : Int)
          refine HP.takeOff rfl (.no rfl rfl (kb (bN (dT h16)))) rfl hI13 ?_
          refine HP.takeOff rfl (.no rfl rfl (kb (bN (dT h16)))) rfl hI13 ?_
          refine HP.takeOff rfl (.no rfl rfl (kb (bN (dT h16)))) rfl hI13 ?_
          refine HP.takeOff rfl (.no rfl rfl (kb (bN (dT h16)))) rfl hI13 ?_
          refine HP.takeOff rfl (.no rfl rfl (kb (bN (dT h16)))) rfl hI13 ?_
          refine HP.takeOff rfl (.no rfl rfl (kb (bN (dT h16)))) rfl hI13 ?_
          refine HP.takeOff rfl (.no rfl rfl (kb (bN (dT h16)))) rfl hI13 ?_
          refine HP.takeOff rfl (.no rfl rfl (kb (bN (dT h16)))) rfl hI13 ?_
          refine HP.oneOff rfl (.no rfl rfl (kb (bN (dT h16)))) rfl hI13 ?_
          refine HP.takeOff rfl (.no rfl rfl (kb (bN (dT h16)))) rfl hI13 ?_
          refine HP.takeOff rfl (.un rfl rfl rfl) rfl hI13 ?_
          refine HP.takeOff rfl (.un rfl rfl rfl) rfl hI13 ?_
          refine HP.takeOff rfl (.un rfl rfl rfl) rfl hI13 ?_
          refine HP.takeOff rfl (.un rfl rfl rfl) rfl hI13 ?_
          refine HP.takeOff rfl (.un rfl rfl rfl) rfl hI13 ?_
          refine HP.takeOff rfl (.un rfl rfl rfl) rfl hI13 ?_
          refine HP.takeOff rfl (.un rfl rfl rfl) rfl hI13 ?_
          refine HP.takeOff rfl (.un rfl rfl rfl) rfl hI13 ?_
          refine HP.takeOff rfl (.un rfl rfl rfl) rfl hI13 ?_
          refine HP.takeOff rfl (.un rfl rfl rfl) rfl hI13 ?_
          refine HP.takeOff rfl (.un rfl rfl rfl) rfl hI13 ?_
          refine HP.takeOff rfl (.un rfl rfl rfl) rfl hI13 ?_
          refine HP.takeOff rfl (.un rfl rfl rfl) rfl hI13 ?_
          refine HP.takeOff rfl (.un rfl rfl rfl) rfl hI13 ?_
          refine HP.takeOff rfl (.un rfl rfl rfl) rfl hI13 ?_
          refine HP.takeOff rfl (.un rfl rfl rfl) rfl hI13 ?_
          refine HP.takeOff rfl (.no rfl rfl (kb (bN (dT h16)))) rfl hI13 ?_
          refine HP.take rfl (.free rfl) rfl hI13 (fun _ r _ hI => R.pick_no (r.e (kb (bN (dT h16)))) (r.e rfl)) ?_
          refine HP.done (EW.then (?_))
          refine CW.no rfl ?_
          refine CW.skip (EW.inB_normal (EW.then (?_)))
          refine CW.region ?_
          refine LW.value (.free rfl) rfl (fun _ r => R.move (r.e rfl)) ?_
          refine LW.value (.free rfl) rfl (fun _ r => R.as (R.add (r.e rfl) (r.e rfl)) (congrArg (Value.int .i64) (wrap_i64 (by omega) (by omega)))) ?_
          refine LW.value (.free rfl) rfl (fun _ r => R.assign (r.e rfl)) ?_
          refine LW.nil ?_
          obtain ⟨x17, hx18⟩ : ∃ t, (cs)[k]? = some t := ⟨_, List.getElem?_eq_getElem (by omega)⟩
          obtain ⟨x19, hx20⟩ : ∃ t, (cs)[i]? = some t := ⟨_, List.getElem?_eq_getElem (by omega)⟩
          exact EW.sub (env' := [(0, .slice aC nC cC), (1, .slice aL nL cL), (2, .int .i64 (i : Int)), (7, .int .i64 ((k + 1) : Int))]) ⟨rfl, rfl, rfl, rfl, trivial⟩ (EW.round (k + 1) ⟨rfl, hO12, by omega, may_step hx20 hb hx18 hxx14 (fun h1 h2 => by simp_all [keeps])⟩ (by omega))
        · -- not: (k : Int) = (i : Int)
          refine HP.take rfl (.yes rfl rfl (kb (bN (dF h16)))) rfl hI13 (fun _ r _ hI => R.move (r.e rfl)) ?_
          refine HP.take rfl (.yes rfl rfl (kb (bN (dF h16)))) rfl hI13 (fun _ r _ hI => R.move (r.e rfl)) ?_
          obtain ⟨x21, hxx21⟩ : ∃ t, (cs)[k]? = some t := ⟨_, List.getElem?_eq_getElem (by omega)⟩
          obtain ⟨blx21, olx21, hax21, hcx21⟩ := hC.at_ _ _ hxx21
          refine HP.take rfl (.yes rfl rfl (kb (bN (dF h16)))) rfl hI13 (fun _ r _ hI => R.indexAddr_o (k := olx21 + k * 10) (r.e rfl) hax21 (r.e rfl) Try.runUnderlying47 Try.sizeOf70 (by omega) (by omega) (by simp)) ?_
          refine HP.take rfl (.yes rfl rfl (kb (bN (dF h16)))) rfl hI13 (fun _ r _ hI => R.loadn (vs := [.int .i64 x21.th, .int .i64 x21.d, .int .i64 x21.h, .int .i64 x21.off, .int .i64 x21.n, .int .i64 x21.code, .int .i64 x21.num, .bool x21.done, .int .i64 x21.frm, .int .i64 x21.to_]) (r.e rfl) Try.isAgg70 Try.sizeOf70 rfl (fun j v hj => hI.pc (i := 0) rfl (hcx21 j v hj))) ?_
          refine HP.take rfl (.yes rfl rfl (kb (bN (dF h16)))) rfl hI13 (fun _ r _ hI => R.move (r.e rfl)) ?_
          refine HP.take rfl (.yes rfl rfl (kb (bN (dF h16)))) rfl hI13 (fun _ r _ hI => R.move (r.e rfl)) ?_
          obtain ⟨x22, hxx22⟩ : ∃ t, (cs)[i]? = some t := ⟨_, List.getElem?_eq_getElem (by omega)⟩
          obtain ⟨blx22, olx22, hax22, hcx22⟩ := hC.at_ _ _ hxx22
          refine HP.take rfl (.yes rfl rfl (kb (bN (dF h16)))) rfl hI13 (fun _ r _ hI => R.indexAddr_o (k := olx22 + i * 10) (r.e rfl) hax22 (r.e rfl) Try.runUnderlying47 Try.sizeOf70 (by omega) (by omega) (by simp)) ?_
          refine HP.take rfl (.yes rfl rfl (kb (bN (dF h16)))) rfl hI13 (fun _ r _ hI => R.loadn (vs := [.int .i64 x22.th, .int .i64 x22.d, .int .i64 x22.h, .int .i64 x22.off, .int .i64 x22.n, .int .i64 x22.code, .int .i64 x22.num, .bool x22.done, .int .i64 x22.frm, .int .i64 x22.to_]) (r.e rfl) Try.isAgg70 Try.sizeOf70 rfl (fun j v hj => hI.pc (i := 0) rfl (hcx22 j v hj))) ?_
          refine HP.one rfl (.yes rfl rfl (kb (bN (dF h16)))) (OW.calls rfl (fun _ r => R.call (vs := [.agg #[.int .i64 x21.th, .int .i64 x21.d, .int .i64 x21.h, .int .i64 x21.off, .int .i64 x21.n, .int .i64 x21.code, .int .i64 x21.num, .bool x21.done, .int .i64 x21.frm, .int .i64 x21.to_], .agg #[.int .i64 x22.th, .int .i64 x22.d, .int .i64 x22.h, .int .i64 x22.off, .int .i64 x22.n, .int .i64 x22.code, .int .i64 x22.num, .bool x22.done, .int .i64 x22.frm, .int .i64 x22.to_]]) Try.call47 rfl ⟨r.e rfl, r.e rfl, trivial⟩) (e_before x21 x22 _ _ (hO12.frame [] rfl)) ?_)
          rintro _ w23 ⟨rfl, hO24⟩
          replace hO24 := hO24.unframe0
          have hI25 := hO24.pick [0, 0] rfl
          refine ⟨hI25, ?_⟩
          refine HP.take rfl (.yes rfl rfl (kb (bN (dF h16)))) rfl hI25 (fun _ r _ hI => R.move (r.e rfl)) ?_
          rcases Bool.eq_false_or_eq_true (x21.done && decide (x21.to_ < x22.frm)) with h26 | h26
          · -- (x21.done && decide (x21.to_ < x22.frm))
            refine HP.takeOff rfl (.no rfl rfl (kb h26)) rfl hI25 ?_
            refine HP.takeOff rfl (.no rfl rfl (kb h26)) rfl hI25 ?_
            refine HP.takeOff rfl (.no rfl rfl (kb h26)) rfl hI25 ?_
            refine HP.takeOff rfl (.no rfl rfl (kb h26)) rfl hI25 ?_
            refine HP.takeOff rfl (.no rfl rfl (kb h26)) rfl hI25 ?_
            refine HP.takeOff rfl (.no rfl rfl (kb h26)) rfl hI25 ?_
            refine HP.takeOff rfl (.no rfl rfl (kb h26)) rfl hI25 ?_
            refine HP.takeOff rfl (.no rfl rfl (kb h26)) rfl hI25 ?_
            refine HP.takeOff rfl (.no rfl rfl (kb h26)) rfl hI25 ?_
            refine HP.takeOff rfl (.no rfl rfl (kb h26)) rfl hI25 ?_
            refine HP.takeOff rfl (.no rfl rfl (kb h26)) rfl hI25 ?_
            refine HP.takeOff rfl (.no rfl rfl (kb h26)) rfl hI25 ?_
            refine HP.takeOff rfl (.un rfl rfl rfl) rfl hI25 ?_
            refine HP.takeOff rfl (.un rfl rfl rfl) rfl hI25 ?_
            refine HP.takeOff rfl (.un rfl rfl rfl) rfl hI25 ?_
            refine HP.takeOff rfl (.no rfl rfl (kb h26)) rfl hI25 ?_
            refine HP.take rfl (.yes rfl rfl (kb (bN (dF h16)))) rfl hI25 (fun _ r _ hI => R.pick_yes (r.e (kb h26)) (r.e rfl)) ?_
            refine HP.take rfl (.free rfl) rfl hI25 (fun _ r _ hI => R.pick_yes (r.e (kb (bN (dF h16)))) (r.e rfl)) ?_
            refine HP.done (EW.then (?_))
            refine CW.yes rfl ?_
            refine CW.seq ?_
            refine CW.region ?_
            refine LW.value (.free rfl) rfl (fun _ r => R.assign (r.e rfl)) ?_
            refine LW.nil (EW.then (?_))
            refine CW.ret (EW.inB_ret (EW.then_ret (EW.then_ret (EW.inB_ret (EW.then_ret (?_))))))
            refine EW.ret1 rfl rfl ?_
            have hm : ¬ May cs left i := may_no hxx22 hxx21 (by rw [hxx14, h15]) (by omega) (by simp_all [keeps])
            exact ⟨congrArg Value.bool (decide_eq_false hm).symm, hO24.pick [0, 0] rfl⟩
          · -- not: (x21.done && decide (x21.to_ < x22.frm))
            refine HP.take rfl (.yes rfl rfl (kb h26)) rfl hI25 (fun _ r _ hI => R.move (r.e rfl)) ?_
            refine HP.take rfl (.yes rfl rfl (kb h26)) rfl hI25 (fun _ r _ hI => R.move (r.e rfl)) ?_
            obtain ⟨blx21_27, olx21_27, hax21_27, hcx21_27⟩ := hC.at_ _ _ hxx21
            refine HP.take rfl (.yes rfl rfl (kb h26)) rfl hI25 (fun _ r _ hI => R.indexAddr_o (k := olx21_27 + k * 10) (r.e rfl) hax21_27 (r.e rfl) Try.runUnderlying47 Try.sizeOf70 (by omega) (by omega) (by simp)) ?_
            refine HP.take rfl (.yes rfl rfl (kb h26)) rfl hI25 (fun _ r _ hI => R.fieldAddr (k := olx21_27 + k * 10) (r.e rfl) Try.runUnderlying70 rfl Try.sizeOf3 rfl) ?_
            refine HP.take rfl (.yes rfl rfl (kb h26)) rfl hI25 (fun _ r _ hI => R.load1 (r.e rfl) Try.isAgg3 (hI.pc (i := 0) rfl (hcx21_27 0 _ rfl))) ?_
            refine HP.take rfl (.yes rfl rfl (kb h26)) rfl hI25 (fun _ r _ hI => R.move (r.e rfl)) ?_
            refine HP.take rfl (.yes rfl rfl (kb h26)) rfl hI25 (fun _ r _ hI => R.move (r.e rfl)) ?_
            obtain ⟨blx22_28, olx22_28, hax22_28, hcx22_28⟩ := hC.at_ _ _ hxx22
            refine HP.take rfl (.yes rfl rfl (kb h26)) rfl hI25 (fun _ r _ hI => R.indexAddr_o (k := olx22_28 + i * 10) (r.e rfl) hax22_28 (r.e rfl) Try.runUnderlying47 Try.sizeOf70 (by omega) (by omega) (by simp)) ?_
            refine HP.take rfl (.yes rfl rfl (kb h26)) rfl hI25 (fun _ r _ hI => R.fieldAddr (k := olx22_28 + i * 10) (r.e rfl) Try.runUnderlying70 rfl Try.sizeOf3 rfl) ?_
            refine HP.take rfl (.yes rfl rfl (kb h26)) rfl hI25 (fun _ r _ hI => R.load1 (r.e rfl) Try.isAgg3 (hI.pc (i := 0) rfl (hcx22_28 0 _ rfl))) ?_
            refine HP.take rfl (.yes rfl rfl (kb h26)) rfl hI25 (fun _ r _ hI => R.eql (r.e rfl) (r.e rfl)) ?_
            refine HP.take rfl (.yes rfl rfl (kb h26)) rfl hI25 (fun _ r _ hI => R.move (r.e rfl)) ?_
            by_cases h29 : x21.th = x22.th
            · -- x21.th = x22.th
              refine HP.take rfl (.yes rfl rfl (kb (dT h29))) rfl hI25 (fun _ r _ hI => R.move (r.e rfl)) ?_
              refine HP.take rfl (.yes rfl rfl (kb (dT h29))) rfl hI25 (fun _ r _ hI => R.move (r.e rfl)) ?_
              refine HP.take rfl (.yes rfl rfl (kb (dT h29))) rfl hI25 (fun _ r _ hI => R.lss (r.e rfl) (r.e rfl)) ?_
              refine HP.take rfl (.yes rfl rfl (kb h26)) rfl hI25 (fun _ r _ hI => R.pick_yes (r.e (kb (dT h29))) (r.e rfl)) ?_
              refine HP.take rfl (.yes rfl rfl (kb (bN (dF h16)))) rfl hI25 (fun _ r _ hI => R.pick_no (r.e (kb h26)) (r.e rfl)) ?_
              refine HP.take rfl (.free rfl) rfl hI25 (fun _ r _ hI => R.pick_yes (r.e (kb (bN (dF h16)))) (r.e rfl)) ?_
              refine HP.done (EW.then (?_))
              by_cases h30 : (k : Int) < (i : Int)
              · -- (k : Int) < (i : Int)
                refine CW.yes (kb (dT h30)) ?_
                refine CW.seq ?_
                refine CW.region ?_
                refine LW.value (.free rfl) rfl (fun _ r => R.assign (r.e rfl)) ?_
                refine LW.nil (EW.then (?_))
                refine CW.ret (EW.inB_ret (EW.then_ret (EW.then_ret (EW.inB_ret (EW.then_ret (?_))))))
                refine EW.ret1 rfl rfl ?_
                have hm : ¬ May cs left i := may_no hxx22 hxx21 (by rw [hxx14, h15]) (by omega) (by simp_all [keeps])
                exact ⟨congrArg Value.bool (decide_eq_false hm).symm, hO24.pick [0, 0] rfl⟩
              · -- not: (k : Int) < (i : Int)
                refine CW.no (kb (dF h30)) ?_
                refine CW.skip (EW.inB_normal (EW.then (?_)))
                refine CW.region ?_
                refine LW.value (.free rfl) rfl (fun _ r => R.move (r.e rfl)) ?_
                refine LW.value (.free rfl) rfl (fun _ r => R.as (R.add (r.e rfl) (r.e rfl)) (congrArg (Value.int .i64) (wrap_i64 (by omega) (by omega)))) ?_
                refine LW.value (.free rfl) rfl (fun _ r => R.assign (r.e rfl)) ?_
                refine LW.nil ?_
                exact EW.sub (env' := [(0, .slice aC nC cC), (1, .slice aL nL cL), (2, .int .i64 (i : Int)), (7, .int .i64 ((k + 1) : Int))]) ⟨rfl, rfl, rfl, rfl, trivial⟩ (EW.round (k + 1) ⟨rfl, hO24, by omega, may_step hxx22 hb hxx21 hxx14 (fun h1 h2 => by simp_all [keeps])⟩ (by omega))
            · -- not: x21.th = x22.th
              refine HP.takeOff rfl (.no rfl rfl (kb (dF h29))) rfl hI25 ?_
              refine HP.takeOff rfl (.no rfl rfl (kb (dF h29))) rfl hI25 ?_
              refine HP.takeOff rfl (.no rfl rfl (kb (dF h29))) rfl hI25 ?_
              refine HP.take rfl (.yes rfl rfl (kb h26)) rfl hI25 (fun _ r _ hI => R.pick_no (r.e (kb (dF h29))) (r.e rfl)) ?_
              refine HP.take rfl (.yes rfl rfl (kb (bN (dF h16)))) rfl hI25 (fun _ r _ hI => R.pick_no (r.e (kb h26)) (r.e rfl)) ?_
              refine HP.take rfl (.free rfl) rfl hI25 (fun _ r _ hI => R.pick_yes (r.e (kb (bN (dF h16)))) (r.e rfl)) ?_
              refine HP.done (EW.then (?_))
              refine CW.no rfl ?_
              refine CW.skip (EW.inB_normal (EW.then (?_)))
              refine CW.region ?_
              refine LW.value (.free rfl) rfl (fun _ r => R.move (r.e rfl)) ?_
              refine LW.value (.free rfl) rfl (fun _ r => R.as (R.add (r.e rfl) (r.e rfl)) (congrArg (Value.int .i64) (wrap_i64 (by omega) (by omega)))) ?_
              refine LW.value (.free rfl) rfl (fun _ r => R.assign (r.e rfl)) ?_
              refine LW.nil ?_
              exact EW.sub (env' := [(0, .slice aC nC cC), (1, .slice aL nL cL), (2, .int .i64 (i : Int)), (7, .int .i64 ((k + 1) : Int))]) ⟨rfl, rfl, rfl, rfl, trivial⟩ (EW.round (k + 1) ⟨rfl, hO24, by omega, may_step hxx22 hb hxx21 hxx14 (fun h1 h2 => by simp_all [keeps])⟩ (by omega))
      · -- not: x14
        refine HP.takeOff rfl (.no rfl rfl (kb h15)) rfl hI13 ?_
        refine HP.takeOff rfl (.no rfl rfl (kb h15)) rfl hI13 ?_
        refine HP.takeOff rfl (.no rfl rfl (kb h15)) rfl hI13 ?_
        refine HP.take rfl (.free rfl) rfl hI13 (fun _ r _ hI => R.pick_no (r.e (kb h15)) (r.e rfl)) ?_
        refine HP.take rfl (.free rfl) rfl hI13 (fun _ r _ hI => R.move (r.e rfl)) ?_
        refine HP.takeOff rfl (.no rfl rfl rfl) rfl hI13 ?_
        refine HP.takeOff rfl (.no rfl rfl rfl) rfl hI13 ?_
        refine HP.takeOff rfl (.no rfl rfl rfl) rfl hI13 ?_
        refine HP.takeOff rfl (.no rfl rfl rfl) rfl hI13 ?_
        refine HP.takeOff rfl (.no rfl rfl rfl) rfl hI13 ?_
        refine HP.takeOff rfl (.no rfl rfl rfl) rfl hI13 ?_
        refine HP.takeOff rfl (.no rfl rfl rfl) rfl hI13 ?_
        refine HP.takeOff rfl (.no rfl rfl rfl) rfl hI13 ?_
        refine HP.oneOff rfl (.no rfl rfl rfl) rfl hI13 ?_
        refine HP.takeOff rfl (.no rfl rfl rfl) rfl hI13 ?_
        refine HP.takeOff rfl (.un rfl rfl rfl) rfl hI13 ?_
        refine HP.takeOff rfl (.un rfl rfl rfl) rfl hI13 ?_
        refine HP.takeOff rfl (.un rfl rfl rfl) rfl hI13 ?_
        refine HP.takeOff rfl (.un rfl rfl rfl) rfl hI13 ?_
        refine HP.takeOff rfl (.un rfl rfl rfl) rfl hI13 ?_
        refine HP.takeOff rfl (.un rfl rfl rfl) rfl hI13 ?_
        refine HP.takeOff rfl (.un rfl rfl rfl) rfl hI13 ?_
        refine HP.takeOff rfl (.un rfl rfl rfl) rfl hI13 ?_
        refine HP.takeOff rfl (.un rfl rfl rfl) rfl hI13 ?_
        refine HP.takeOff rfl (.un rfl rfl rfl) rfl hI13 ?_
        refine HP.takeOff rfl (.un rfl rfl rfl) rfl hI13 ?_
        refine HP.takeOff rfl (.un rfl rfl rfl) rfl hI13 ?_
        refine HP.takeOff rfl (.un rfl rfl rfl) rfl hI13 ?_
        refine HP.takeOff rfl (.un rfl rfl rfl) rfl hI13 ?_
        refine HP.takeOff rfl (.un rfl rfl rfl) rfl hI13 ?_
        refine HP.takeOff rfl (.un rfl rfl rfl) rfl hI13 ?_
        refine HP.takeOff rfl (.no rfl rfl rfl) rfl hI13 ?_
        refine HP.take rfl (.free rfl) rfl hI13 (fun _ r _ hI => R.pick_no (r.e rfl) (r.e rfl)) ?_
        refine HP.done (EW.then (?_))
        refine CW.no rfl ?_
        refine CW.skip (EW.inB_normal (EW.then (?_)))
        refine CW.region ?_
        refine LW.value (.free rfl) rfl (fun _ r => R.move (r.e rfl)) ?_
        refine LW.value (.free rfl) rfl (fun _ r => R.as (R.add (r.e rfl) (r.e rfl)) (congrArg (Value.int .i64) (wrap_i64 (by omega) (by omega)))) ?_
        refine LW.value (.free rfl) rfl (fun _ r => R.assign (r.e rfl)) ?_
        refine LW.nil ?_
        obtain ⟨x31, hx32⟩ : ∃ t, (cs)[k]? = some t := ⟨_, List.getElem?_eq_getElem (by omega)⟩
        obtain ⟨x33, hx34⟩ : ∃ t, (cs)[i]? = some t := ⟨_, List.getElem?_eq_getElem (by omega)⟩
        exact EW.sub (env' := [(0, .slice aC nC cC), (1, .slice aL nL cL), (2, .int .i64 (i : Int)), (7, .int .i64 ((k + 1) : Int))]) ⟨rfl, rfl, rfl, rfl, trivial⟩ (EW.round (k + 1) ⟨rfl, hO12, by omega, may_step hx34 hb hx32 hxx14 (fun h1 h2 => by simp_all [keeps])⟩ (by omega))
    · -- not: (k : Int) < (nC : Int)
      refine CW.no (kb (dF h5)) ?_
      refine CW.exit (EW.then_exit (EW.then_exit (EW.inB_same (EW.then (?_)))))
      refine CW.seq ?_
      refine CW.region ?_
      refine LW.value (.free rfl) rfl (fun _ r => R.assign (r.e rfl)) ?_
      refine LW.nil (EW.then (?_))
      refine CW.ret ?_
      refine EW.ret1 rfl rfl ?_
      have hm : May cs left i := ⟨by rw [hli, h2], by rw [show k = cs.length from by omega] at hb; exact hb⟩
      exact ⟨congrArg Value.bool (decide_eq_true hm).symm, hO4.pick [0, 0] rfl⟩
  · -- not: li
    refine CW.yes (kb (bN h2)) ?_
    refine CW.seq ?_
    refine CW.region ?_
    refine LW.value (.free rfl) rfl (fun _ r => R.assign (r.e rfl)) ?_
    refine LW.nil (EW.then (?_))
    refine CW.ret (EW.then_ret (?_))
    refine EW.ret1 rfl rfl ?_
    exact ⟨congrArg Value.bool (decide_eq_false (may_not (by rw [hli, h2]))).symm, hO.pick [0, 0] rfl⟩

set_option maxRecDepth 100000 in
set_option maxHeartbeats 400000 in
theorem e_without (G F : Seg) (cs : List Cal) (hn : cs.length ≤ 1000) (aL : Option Addr) (nL cL : Nat) (left : List Bool) (hL : Sl G 1 encB aL nL cL left) (hll : left.length = cs.length) (i : Nat) (hi : i < cs.length) (w : World) (hO : Own w [G, F]) : Calls Try.prog 38 [.slice aL nL cL, .int .i64 (i : Int)].toArray w (Ret fun v w' => ∃ s, Grow 4 1 encB v s (left.set i false) ∧ Own w' [s, G, F]) := by
  have hlL := hL.hlen
  refine enter (n := 13) Try.func38 rfl rfl rfl ?_
  refine CW.seq ?_
  refine CW.region ?_
  refine LW.value (.free rfl) rfl (fun _ r => R.assign (r.e rfl)) ?_
  refine LW.nil (EW.then (?_))
  refine CW.seq ?_
  refine CW.region ?_
  refine LW.value (.free rfl) rfl (fun _ r => R.assign (r.e rfl)) ?_
  refine LW.nil (EW.then (?_))
  refine CW.seq ?_
  refine CW.region ?_
  refine LW.value (.free rfl) rfl (fun _ r => R.move (r.e rfl)) ?_
  refine LW.value (.free rfl) rfl (fun _ r => R.move (r.e rfl)) ?_
  have hO1 := hO.nil
  have hO2 := hO1.move [0] rfl
  refine LW.op (.free rfl) (OW.append (xs := []) (ys := left) elemBool rfl hO2 rfl rfl Grow.start (fun _ _ => rfl) (fun _ _ => rfl) (hL.hlen) (fun hne => let ⟨b, off, e, hc⟩ := hL.cells (fun _ _ => rfl) hne; ⟨b, off, e, fun j u hj => hO2.pc (i := 1) rfl (hc j u hj)⟩) (by simp; omega) (by simp; omega) (by decide) ?_)
  intro v3 s4 w5 hO6 hg7
  change Grow _ _ _ _ _ left at hg7
  refine LW.value (.free rfl) rfl (fun _ r => R.assign (r.e rfl)) ?_
  refine LW.nil (EW.then (?_))
  refine CW.seq ?_
  refine CW.region ?_
  refine LW.value (.free rfl) rfl (fun _ r => R.move (r.e rfl)) ?_
  refine LW.value (.free rfl) rfl (fun _ r => R.move (r.e rfl)) ?_
  have hl8 : i < (left).length := by (try simp only [List.length_append, List.length_set, List.length_singleton]); omega
  obtain ⟨b9, cap10, rfl⟩ := Grow.opened hg7 (by omega)
  obtain ⟨q11, hq12⟩ : ∃ t, (left)[i]? = some t := ⟨_, List.getElem?_eq_getElem hl8⟩
  refine LW.value (.free rfl) rfl (fun _ r => R.indexAddr (k := i * 1) (r.e rfl) (r.e rfl) Try.runUnderlying50 Try.sizeOf4 (by omega) (by omega) (by simp)) ?_
  refine LW.op (.free rfl) (OW.storeElem (i := 0) (o := 0) (q' := false) (vs := [.bool false]) rfl hO6 rfl hg7 (fun _ _ => rfl) hq12 rfl rfl rfl rfl rfl Try.sizeOf4 rfl rfl ?_)
  intro w13 s15 hg16 hO14
  have hq17 := get_set_self (y := false) hq12
  refine LW.nil (EW.then (?_))
  refine CW.seq ?_
  refine CW.region ?_
  refine LW.value (.free rfl) rfl (fun _ r => R.move (r.e rfl)) ?_
  refine LW.value (.free rfl) rfl (fun _ r => R.assign (r.e rfl)) ?_
  refine LW.nil (EW.then (?_))
  refine CW.ret ?_
  refine EW.ret1 rfl rfl ?_
  exact ⟨s15, hg16, hO14.pick [0, 0, 0] rfl⟩

set_option maxRecDepth 100000 in
set_option maxHeartbeats 400000 in
theorem e_results (k : Nat) (ks : Array Value) (G F : Seg) (X : List PT) (T : List Int) (hK : KRef G ks X T) (hX : X.length ≤ 1000000) (aH : Option Addr) (nH cH : Nat) (hs : List Int) (hH : Sl G 1 encI aH nH cH hs) (hhs : hs.length ≤ 1000) (c : Cal) (w : World) (hO : Own w [[(k, .cells ks 34 (0, 0))], G, F]) : Calls Try.prog 36 [.pointer (some ⟨k, 0, none⟩), .agg #[.int .i64 c.th, .int .i64 c.d, .int .i64 c.h, .int .i64 c.off, .int .i64 c.n, .int .i64 c.code, .int .i64 c.num, .bool c.done, .int .i64 c.frm, .int .i64 c.to_], .slice aH nH cH].toArray w (Ret fun v w' => ∃ s, Grow 39 2 encR v s (resP X c hs) ∧ Own w' [s, [(k, .cells ks 34 (0, 0))], G, F]) := by
  have hlH := hH.hlen
  refine enter (n := 41) Try.func36 rfl rfl rfl ?_
  refine CW.seq ?_
  refine CW.region ?_
  refine LW.op (.free rfl) (OW.box (cs := #[.int .i64 c.th, .int .i64 c.d, .int .i64 c.h, .int .i64 c.off, .int .i64 c.n, .int .i64 c.code, .int .i64 c.num, .bool c.done, .int .i64 c.frm, .int .i64 c.to_]) rfl hO rfl rfl ?_)
  intro b1 w2 hO3
  refine LW.value (.free rfl) rfl (fun _ r => R.assign (r.e rfl)) ?_
  refine LW.nil (EW.then (?_))
  refine CW.seq ?_
  refine CW.seq ?_
  refine CW.region ?_
  refine LW.value (.free rfl) rfl (fun _ r => R.fieldAddr (k := 7) (r.e rfl) Try.runUnderlying70 rfl Try.sizeOf4 rfl) ?_
  refine LW.value (.free rfl) rfl (fun _ r => R.load1 (r.e rfl) Try.isAgg4 (hO3.cell (i := 0) rfl rfl)) ?_
  refine LW.nil (EW.then (?_))
  rcases Bool.eq_false_or_eq_true c.done with h4 | h4
  · -- c.done
    refine CW.yes (kb h4) ?_
    refine CW.seq ?_
    refine CW.region ?_
    refine LW.value (.free rfl) rfl (fun _ r => R.fieldAddr (k := 5) (r.e rfl) Try.runUnderlying70 rfl Try.sizeOf39 rfl) ?_
    refine LW.value (.free rfl) rfl (fun _ r => R.loadn (vs := [.int .i64 c.code, .int .i64 c.num]) (r.e rfl) Try.isAgg39 Try.sizeOf39 rfl (hO3.cells (i := 0) rfl rfl)) ?_
    refine LW.op (.free rfl) (OW.buildSlice (cs := #[.int .i64 c.code, .int .i64 c.num]) (e := 39) (vs := [(0, .agg #[.int .i64 c.code, .int .i64 c.num])]) rfl hO3 (fun _ r => ⟨⟨r.e rfl, rfl⟩, trivial⟩) (fun _ => by simp [go_sem, Instr.buildSlice, newRow]) ?_)
    intro b5 w6 hO7
    refine LW.value (.free rfl) rfl (fun _ r => R.assign (r.e rfl)) ?_
    refine LW.nil (EW.then (?_))
    refine CW.ret (EW.then_ret (?_))
    refine EW.ret1 rfl rfl ?_
    exact ⟨_, by rw [resP_done h4]; exact .inr ⟨b5, 1, [], rfl, rfl, rfl, Nat.le_refl _⟩, hO7.pick [0, 1, 1, 1] rfl⟩
  · -- not: c.done
    refine CW.no (kb h4) ?_
    refine CW.skip (EW.then (?_))
    refine CW.seq ?_
    refine CW.region ?_
    refine LW.value (.free rfl) rfl (fun _ r => R.move (r.e rfl)) ?_
    refine LW.value (.free rfl) rfl (fun _ r => R.fieldAddr (k := 1) (r.e rfl) Try.runUnderlying70 rfl Try.sizeOf36 rfl) ?_
    refine LW.value (.free rfl) rfl (fun _ r => R.loadn (vs := [.int .i64 c.d, .int .i64 c.h, .int .i64 c.off, .int .i64 c.n]) (r.e rfl) Try.isAgg36 Try.sizeOf36 rfl (hO3.cells (i := 0) rfl rfl)) ?_
    obtain ⟨a8, m9, t10, ha11⟩ : ∃ a m t, ansP X c.d c.h c.off c.n = (a, m, t) := ⟨_, _, _, rfl⟩
    refine LW.op (.free rfl) (OW.calls rfl (fun _ r => R.call (vs := [.pointer (some ⟨k, 0, none⟩), .agg #[.int .i64 c.d, .int .i64 c.h, .int .i64 c.off, .int .i64 c.n]]) Try.call30 rfl ⟨r.e rfl, r.e rfl, trivial⟩) (r_answer hK (by omega) ha11 (hO3.frame [1, 1] rfl)) ?_)
    rintro _ w12 ⟨rfl, hO13⟩
    replace hO13 := hO13.unframe2
    refine LW.value (.free rfl) rfl (fun _ r => R.move (r.e rfl)) ?_
    refine LW.value (.free rfl) rfl (fun _ r => R.extract (r.e rfl) rfl) ?_
    refine LW.value (.free rfl) rfl (fun _ r => R.extract (r.e rfl) rfl) ?_
    refine LW.op (.free rfl) (OW.alloc (cs := #[.int .i64 0, .int .i64 0]) rfl hO13 Try.zeroValue39 rfl ?_)
    intro b14 w15 hO16
    refine LW.op (.free rfl) (OW.storeall (i := 0) (vs := [.int .i64 a8, .int .i64 m9]) rfl hO16 rfl rfl rfl rfl Try.sizeOf39 rfl ?_)
    intro w17 hO18
    refine LW.value (.free rfl) rfl (fun _ r => R.assign (r.e rfl)) ?_
    refine LW.nil (EW.then (?_))
    refine CW.seq ?_
    refine CW.seq ?_
    refine CW.region ?_
    refine LW.value (.free rfl) rfl (fun _ r => R.move (r.e rfl)) ?_
    refine LW.nil (EW.then (?_))
    rcases Bool.eq_false_or_eq_true t10 with h19 | h19
    · -- t10
      refine CW.yes (kb h19) ?_
      refine CW.seq ?_
      refine CW.region ?_
      refine LW.value (.free rfl) rfl (fun _ r => R.loadn (vs := [.int .i64 a8, .int .i64 m9]) (r.e rfl) Try.isAgg39 Try.sizeOf39 rfl (hO18.cells (i := 0) rfl rfl)) ?_
      refine LW.op (.free rfl) (OW.buildSlice (cs := #[.int .i64 a8, .int .i64 m9]) (e := 39) (vs := [(0, .agg #[.int .i64 a8, .int .i64 m9])]) rfl hO18 (fun _ r => ⟨⟨r.e rfl, rfl⟩, trivial⟩) (fun _ => by simp [go_sem, Instr.buildSlice, newRow]) ?_)
      intro b20 w21 hO22
      refine LW.value (.free rfl) rfl (fun _ r => R.assign (r.e rfl)) ?_
      refine LW.nil (EW.then (?_))
      refine CW.ret (EW.then_ret (?_))
      refine EW.ret1 rfl rfl ?_
      exact ⟨_, by rw [resP_ans h4 (ha11.trans (by rw [h19]))]; exact .inr ⟨b20, 1, [], rfl, rfl, rfl, Nat.le_refl _⟩, hO22.pick [0, 1, 1, 2] rfl⟩
    · -- not: t10
      refine CW.no (kb h19) ?_
      refine CW.skip (EW.then (?_))
      refine CW.seq ?_
      refine CW.region ?_
      refine LW.value (.free rfl) rfl (fun _ r => R.assign (r.e rfl)) ?_
      refine LW.nil (EW.then (?_))
      refine CW.seq ?_
      refine CW.seq ?_
      refine CW.region ?_
      refine LW.value (.free rfl) rfl (fun _ r => R.assign (r.e rfl)) ?_
      refine LW.nil (EW.then (?_))
      refine CW.block ?_
      refine CW.sub (env' := [(2, .slice aH nH cH), (9, (.slice none 0 0)), (10, .int .i64 (0 : Int))]) ⟨rfl, rfl, rfl, trivial⟩ ?_
      refine CW.loop (α := Nat × Value × Seg) (fun (x_ : Nat × Value × Seg) env_ w_ => ∃ i v s, x_ = (i, v, s) ∧ env_ = [(2, .slice aH nH cH), (9, v), (10, .int .i64 (i : Int))] ∧ Own w_ [s, [(k, .cells ks 34 (0, 0))], G, F] ∧ (i ≤ hs.length) ∧ (Grow 39 2 encR v s ((hs.take i).map fun h => ((0, h) : Int × Int)))) (fun (x_ : Nat × Value × Seg) => hs.length - x_.1) (0, .slice none 0 0, []) ⟨0, .slice none 0 0, [], rfl, rfl, (hO18.pick [1, 1, 2] rfl).nil, Nat.zero_le _, Grow.start⟩ ?_
      rintro _ _ w23 ⟨i, v, s, rfl, rfl, hO24, hi, hg⟩
      refine CW.seq ?_
      refine CW.seq ?_
      refine CW.region ?_
      refine LW.value (.free rfl) rfl (fun _ r => R.move (r.e rfl)) ?_
      refine LW.value (.free rfl) rfl (fun _ r => R.move (r.e rfl)) ?_
      refine LW.value (.free rfl) rfl (fun _ r => R.len_slice (r.e rfl) Try.runUnderlying32) ?_
      refine LW.value (.free rfl) rfl (fun _ r => R.lss (r.e rfl) (r.e rfl)) ?_
      refine LW.nil (EW.then (?_))
      by_cases h25 : (i : Int) < (nH : Int)
      · -- (i : Int) < (nH : Int)
        refine CW.yes (kb (dT h25)) ?_
        refine CW.skip (EW.then (?_))
        refine CW.seq ?_
        refine CW.block ?_
        refine CW.region ?_
        refine LW.value (.free rfl) rfl (fun _ r => R.move (r.e rfl)) ?_
        refine LW.value (.free rfl) rfl (fun _ r => R.move (r.e rfl)) ?_
        refine LW.value (.free rfl) rfl (fun _ r => R.move (r.e rfl)) ?_
        obtain ⟨x26, hxx26⟩ : ∃ t, (hs)[i]? = some t := ⟨_, List.getElem?_eq_getElem (by omega)⟩
        obtain ⟨blx26, olx26, hax26, hcx26⟩ := hH.at_ _ _ hxx26
        refine LW.value (.free rfl) rfl (fun _ r => R.indexAddr_o (k := olx26 + i * 1) (r.e rfl) hax26 (r.e rfl) Try.runUnderlying32 Try.sizeOf3 (by omega) (by omega) (by simp)) ?_
        refine LW.value (.free rfl) rfl (fun _ r => R.load1 (r.e rfl) Try.isAgg3 (hO24.pc (i := 2) rfl (hcx26 0 _ rfl))) ?_
        refine LW.value (.free rfl) rfl (fun _ r => R.build (v := .agg #[.int .i64 0, .int .i64 x26]) (vs := [(1, .int .i64 x26)]) ⟨⟨r.e rfl, rfl⟩, trivial⟩ (by simp [go_sem])) ?_
        refine LW.op (.free rfl) (OW.buildSlice (cs := #[.int .i64 0, .int .i64 x26]) (e := 39) (vs := [(0, .agg #[.int .i64 0, .int .i64 x26])]) rfl hO24 (fun _ r => ⟨⟨r.e rfl, rfl⟩, trivial⟩) (fun _ => by simp [go_sem, Instr.buildSlice, newRow]) ?_)
        intro b27 w28 hO29
        have hO30 := hO29.move [1] rfl
        refine LW.op (.free rfl) (OW.append (xs := ((hs.take i).map fun h => ((0, h) : Int × Int))) (ys := [((0, x26) : Int × Int)]) elemRes rfl hO30 rfl rfl hg (fun _ _ => rfl) (fun _ _ => rfl) rfl (fun _ => src (i := 1) hO30 rfl rfl) (by simp; omega) (by simp; omega) (by decide) ?_)
        intro v31 s32 w33 hO34 hg35
        refine LW.value (.free rfl) rfl (fun _ r => R.assign (r.e rfl)) ?_
        refine LW.nil (EW.inB_normal (EW.then (?_)))
        refine CW.region ?_
        refine LW.value (.free rfl) rfl (fun _ r => R.move (r.e rfl)) ?_
        refine LW.value (.free rfl) rfl (fun _ r => R.as (R.add (r.e rfl) (r.e rfl)) (congrArg (Value.int .i64) (wrap_i64 (by omega) (by omega)))) ?_
        refine LW.value (.free rfl) rfl (fun _ r => R.assign (r.e rfl)) ?_
        refine LW.nil ?_
        exact EW.sub (env' := [(2, .slice aH nH cH), (9, v31), (10, .int .i64 ((i + 1) : Int))]) ⟨rfl, rfl, rfl, trivial⟩ (EW.round (i + 1, v31, s32) ⟨i + 1, v31, s32, rfl, rfl, hO34.pick [0, 1, 1, 1] rfl, by omega, by rw [List.take_succ_eq_append_getElem (show i < hs.length by omega), List.map_append]; rw [List.getElem?_eq_getElem (show i < hs.length by omega)] at hxx26; cases hxx26; exact hg35⟩ (by dsimp only; omega))
      · -- not: (i : Int) < (nH : Int)
        refine CW.no (kb (dF h25)) ?_
        refine CW.exit (EW.then_exit (EW.then_exit (EW.inB_same (EW.then (?_)))))
        refine CW.seq ?_
        refine CW.region ?_
        refine LW.value (.free rfl) rfl (fun _ r => R.move (r.e rfl)) ?_
        refine LW.value (.free rfl) rfl (fun _ r => R.assign (r.e rfl)) ?_
        refine LW.nil (EW.then (?_))
        refine CW.ret ?_
        refine EW.ret1 rfl rfl ?_
        exact ⟨s, by rw [resP_hs h4 (ha11.trans (by rw [h19])), ← List.take_of_length_le (l := hs) (i := i) (by omega)]; exact hg, hO24.pick [0, 0, 0, 0] rfl⟩

end Go.Sd
