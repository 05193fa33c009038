/-
  Package linear, walked: its parts.
-/
import Derived.Test.YtgkbmelecalllaaSeM
set_option linter.unusedSimpArgs false
set_option linter.unusedVariables false
set_option linter.unusedSectionVars false
namespace Go.Sd
open Go Go.Proofs
variable [Str]
theorem Sl.none_nil {α : Type} {G : Seg} {sz : Nat} {enc : α → List Value} {n c : Nat} {xs : List α} (h : Sl G sz enc none n c xs) : xs = [] := by
  cases xs with
  | nil => rfl
  | cons x xs => obtain ⟨b, off, e, _⟩ := h.at_ 0 x rfl; cases e

set_option maxRecDepth 100000 in
set_option maxHeartbeats 400000 in
theorem v_before (a b : Cal) (F : Seg) (w : World) (hO : Own w [F]) : Calls Try.prog 51 [.agg #[.int .i64 a.th, .int .i64 a.d, .int .i64 a.h, .int .i64 a.off, .int .i64 a.n, .int .i64 a.code, .int .i64 a.num, .bool a.done, .int .i64 a.frm, .int .i64 a.to_], .agg #[.int .i64 b.th, .int .i64 b.d, .int .i64 b.h, .int .i64 b.off, .int .i64 b.n, .int .i64 b.code, .int .i64 b.num, .bool b.done, .int .i64 b.frm, .int .i64 b.to_]].toArray w (Ret fun v w' => v = .bool (a.done && decide (a.to_ < b.frm)) ∧ Own w' [F]) := by
  refine enter (n := 14) Try.func51 rfl rfl rfl ?_
  refine CW.seq ?_
  refine CW.region ?_
  refine LW.op (.free rfl) (OW.box (cs := #[.int .i64 a.th, .int .i64 a.d, .int .i64 a.h, .int .i64 a.off, .int .i64 a.n, .int .i64 a.code, .int .i64 a.num, .bool a.done, .int .i64 a.frm, .int .i64 a.to_]) rfl hO rfl rfl ?_)
  intro b1 w2 hO3
  refine LW.op (.free rfl) (OW.box (cs := #[.int .i64 b.th, .int .i64 b.d, .int .i64 b.h, .int .i64 b.off, .int .i64 b.n, .int .i64 b.code, .int .i64 b.num, .bool b.done, .int .i64 b.frm, .int .i64 b.to_]) rfl hO3 rfl rfl ?_)
  intro b4 w5 hO6
  refine LW.value (.free rfl) rfl (fun _ r => R.assign (r.e rfl)) ?_
  refine LW.nil (EW.then (?_))
  refine CW.seq ?_
  refine CW.region ?_
  refine LW.value (.free rfl) rfl (fun _ r => R.fieldAddr (k := 7) (r.e rfl) Try.runUnderlying73 rfl Try.sizeOf4 rfl) ?_
  refine LW.value (.free rfl) rfl (fun _ r => R.load1 (r.e rfl) Try.isAgg4 (hO6.cell (i := 1) rfl rfl)) ?_
  refine LW.value (.free rfl) rfl (fun _ r => R.move (r.e rfl)) ?_
  rcases Bool.eq_false_or_eq_true a.done with h7 | h7
  · -- a.done
    refine LW.value (.yes rfl rfl (kb h7)) rfl (fun _ r => R.fieldAddr (k := 9) (r.e rfl) Try.runUnderlying73 rfl Try.sizeOf3 rfl) ?_
    refine LW.value (.yes rfl rfl (kb h7)) rfl (fun _ r => R.load1 (r.e rfl) Try.isAgg3 (hO6.cell (i := 1) rfl rfl)) ?_
    refine LW.value (.yes rfl rfl (kb h7)) rfl (fun _ r => R.fieldAddr (k := 8) (r.e rfl) Try.runUnderlying73 rfl Try.sizeOf3 rfl) ?_
    refine LW.value (.yes rfl rfl (kb h7)) rfl (fun _ r => R.load1 (r.e rfl) Try.isAgg3 (hO6.cell (i := 0) rfl rfl)) ?_
    refine LW.value (.yes rfl rfl (kb h7)) rfl (fun _ r => R.lss (r.e rfl) (r.e rfl)) ?_
    refine LW.value (.free rfl) rfl (fun _ r => R.pick_yes (r.e (kb h7)) (r.e rfl)) ?_
    refine LW.value (.free rfl) rfl (fun _ r => R.assign (r.e rfl)) ?_
    refine LW.nil (EW.then (?_))
    refine CW.ret ?_
    refine EW.ret1 rfl rfl ?_
    exact ⟨by simp [h7], hO6.pick [2] rfl⟩
  · -- not: a.done
    refine LW.off (.no rfl rfl (kb h7)) rfl ?_
    refine LW.off (.no rfl rfl (kb h7)) rfl ?_
    refine LW.off (.no rfl rfl (kb h7)) rfl ?_
    refine LW.off (.no rfl rfl (kb h7)) rfl ?_
    refine LW.off (.no rfl rfl (kb h7)) rfl ?_
    refine LW.value (.free rfl) rfl (fun _ r => R.pick_no (r.e (kb h7)) (r.e rfl)) ?_
    refine LW.value (.free rfl) rfl (fun _ r => R.assign (r.e rfl)) ?_
    refine LW.nil (EW.then (?_))
    refine CW.ret ?_
    refine EW.ret1 rfl rfl ?_
    exact ⟨by simp [h7], hO6.pick [2] rfl⟩

set_option maxRecDepth 100000 in
set_option maxHeartbeats 400000 in
theorem v_may (ps : Nat) (wv : Value) (aH : Option Addr) (nH cH : Nat) (G F : Seg) (aC : Option Addr) (nC cC : Nat) (cs : List Cal) (hC : Sl G 10 encL aC nC cC cs) (hn : cs.length ≤ 1000) (aL : Option Addr) (nL cL : Nat) (left : List Bool) (hL : Sl G 1 encB aL nL cL left) (hll : left.length = cs.length) (i : Nat) (hi : i < cs.length) (w : World) (hO : Own w [[(ps, .cells #[.slice aC nC cC, .slice aH nH cH, wv] 59 (0, 0))], G, F]) : Calls Try.prog 28 [.pointer (some ⟨ps, 0, none⟩), .slice aL nL cL, .int .i64 (i : Int)].toArray w (Ret fun v w' => v = .bool (decide (May cs left i)) ∧ Own w' [[(ps, .cells #[.slice aC nC cC, .slice aH nH cH, wv] 59 (0, 0))], G, F]) := by
  have hlC := hC.hlen
  have hlL := hL.hlen
  obtain ⟨li, hli⟩ : ∃ t, left[i]? = some t := ⟨_, List.getElem?_eq_getElem (by omega)⟩
  refine enter (n := 63) Try.func28 rfl rfl rfl ?_
  refine CW.seq ?_
  refine CW.region ?_
  refine LW.value (.free rfl) rfl (fun _ r => R.assign (r.e rfl)) ?_
  refine LW.nil (EW.then (?_))
  refine CW.seq ?_
  refine CW.seq ?_
  refine CW.region ?_
  refine LW.value (.free rfl) rfl (fun _ r => R.move (r.e rfl)) ?_
  refine LW.value (.free rfl) rfl (fun _ r => R.move (r.e rfl)) ?_
  obtain ⟨blli_1, olli_1, hali_1, hcli_1⟩ := hL.at_ _ _ hli
  refine LW.value (.free rfl) rfl (fun _ r => R.indexAddr_o (k := olli_1 + i * 1) (r.e rfl) hali_1 (r.e rfl) Try.runUnderlying50 Try.sizeOf4 (by omega) (by omega) (by simp)) ?_
  refine LW.value (.free rfl) rfl (fun _ r => R.load1 (r.e rfl) Try.isAgg4 (hO.pc (i := 1) rfl (hcli_1 0 _ rfl))) ?_
  refine LW.value (.free rfl) rfl (fun _ r => R.not (r.e rfl)) ?_
  refine LW.nil (EW.then (?_))
  rcases Bool.eq_false_or_eq_true li with h2 | h2
  · -- li
    refine CW.no (kb (bN h2)) ?_
    refine CW.skip (EW.then (?_))
    refine CW.seq ?_
    refine CW.seq ?_
    refine CW.region ?_
    refine LW.value (.free rfl) rfl (fun _ r => R.move (r.e rfl)) ?_
    refine LW.value (.free rfl) rfl (fun _ r => R.nilCheck (r.e rfl)) ?_
    refine LW.value (.free rfl) rfl (fun _ r => R.fieldAddr (k := 0) (r.e rfl) Try.runUnderlying59 rfl Try.sizeOf53 rfl) ?_
    refine LW.value (.free rfl) rfl (fun _ r => R.load1 (r.e rfl) Try.isAgg53 (hO.cell (i := 0) rfl rfl)) ?_
    refine LW.value (.free rfl) rfl (fun _ r => R.len_slice (r.e rfl) Try.runUnderlying53) ?_
    refine LW.value (.free rfl) rfl (fun _ r => R.move (r.e rfl)) ?_
    refine LW.nil (EW.then (?_))
    refine CW.block ?_
    refine CW.sub (env' := [(0, .pointer (some ⟨ps, 0, none⟩)), (1, .slice aL nL cL), (2, .int .i64 (i : Int)), (17, .slice aC nC cC), (18, .int .i64 (nC : Int)), (19, .int .i64 (0 : Int))]) ⟨rfl, rfl, rfl, rfl, rfl, rfl, trivial⟩ ?_
    refine CW.loop (α := Nat) (fun k env_ w_ => env_ = [(0, .pointer (some ⟨ps, 0, none⟩)), (1, .slice aL nL cL), (2, .int .i64 (i : Int)), (17, .slice aC nC cC), (18, .int .i64 (nC : Int)), (19, .int .i64 (k : Int))] ∧ Own w_ [[(ps, .cells #[.slice aC nC cC, .slice aH nH cH, wv] 59 (0, 0))], G, F] ∧ (k ≤ cs.length) ∧ (MayTo cs left i k)) (fun k => cs.length - k) 0 ⟨rfl, hO, Nat.zero_le _, fun k c x hk => by omega⟩ ?_
    rintro k _ w3 ⟨rfl, hO4, hk, hb⟩
    refine CW.seq ?_
    refine CW.region ?_
    refine LW.value (.free rfl) rfl (fun _ r => R.lss (r.e rfl) (r.e rfl)) ?_
    refine LW.nil (EW.then (?_))
    refine CW.seq ?_
    by_cases h5 : (k : Int) < (nC : Int)
    · -- (k : Int) < (nC : Int)
      refine CW.yes (kb (dT h5)) ?_
      refine CW.skip (EW.then (?_))
      refine CW.seq ?_
      refine CW.block ?_
      refine CW.seq ?_
      refine CW.region ?_
      refine LW.value (.free rfl) rfl (fun _ r => R.move (r.e rfl)) ?_
      obtain ⟨x6, hxx6⟩ : ∃ t, (cs)[k]? = some t := ⟨_, List.getElem?_eq_getElem (by omega)⟩
      obtain ⟨blx6, olx6, hax6, hcx6⟩ := hC.at_ _ _ hxx6
      refine LW.value (.free rfl) rfl (fun _ r => R.indexAddr_o (k := olx6 + k * 10) (r.e rfl) hax6 (r.e rfl) Try.runUnderlying53 Try.sizeOf73 (by omega) (by omega) (by simp)) ?_
      refine LW.value (.free rfl) rfl (fun _ r => R.loadn (vs := [.int .i64 x6.th, .int .i64 x6.d, .int .i64 x6.h, .int .i64 x6.off, .int .i64 x6.n, .int .i64 x6.code, .int .i64 x6.num, .bool x6.done, .int .i64 x6.frm, .int .i64 x6.to_]) (r.e rfl) Try.isAgg73 Try.sizeOf73 rfl (fun j v hj => hO4.pc (i := 1) rfl (hcx6 j v hj))) ?_
      refine LW.op (.free rfl) (OW.alloc (cs := #[.int .i64 0, .int .i64 0, .int .i64 0, .int .i64 0, .int .i64 0, .int .i64 0, .int .i64 0, .bool false, .int .i64 0, .int .i64 0]) rfl hO4 Try.zeroValue73 rfl ?_)
      intro b7 w8 hO9
      refine LW.value (.free rfl) rfl (fun _ r => R.assign (r.e rfl)) ?_
      refine LW.op (.free rfl) (OW.storeall (i := 0) (vs := [.int .i64 x6.th, .int .i64 x6.d, .int .i64 x6.h, .int .i64 x6.off, .int .i64 x6.n, .int .i64 x6.code, .int .i64 x6.num, .bool x6.done, .int .i64 x6.frm, .int .i64 x6.to_]) rfl hO9 rfl rfl rfl rfl Try.sizeOf73 rfl ?_)
      intro w10 hO11
      refine LW.nil (EW.then (?_))
      refine CW.seq ?_
      refine HP.start (I := fun w' => Own w' [[(b7, .cells #[.int .i64 x6.th, .int .i64 x6.d, .int .i64 x6.h, .int .i64 x6.off, .int .i64 x6.n, .int .i64 x6.code, .int .i64 x6.num, .bool x6.done, .int .i64 x6.frm, .int .i64 x6.to_] 73 (0, 0))], [(ps, .cells #[.slice aC nC cC, .slice aH nH cH, wv] 59 (0, 0))], G]) (.take 0 (.take 1 (.take 2 (.take 3 (.take 4 (.take 5 (.take 6 (.take 7 (.take 8 (.take 9 (.take 10 (.take 11 (.take 12 (.take 13 (.take 14 (.take 15 (.take 16 (.take 17 (.one 18 (.take 19 (.take 20 (.take 21 (.take 22 (.take 23 (.take 24 (.take 25 (.take 26 (.take 27 (.take 28 (.take 29 (.take 30 (.take 31 (.take 32 (.take 33 (.take 34 (.take 35 (.take 36 (.take 37 (.done))))))))))))))))))))))))))))))))))))))) Try.mixed (by intro c d v a w h; cases d <;> exact h) hO11 (by kernel_rfl) ?_
      intro w15 hO16
      have hI17 := hO16.pick [0, 0, 0] rfl
      refine HP.take rfl (.free rfl) rfl hI17 (fun _ r _ hI => R.move (r.e rfl)) ?_
      refine HP.take rfl (.free rfl) rfl hI17 (fun _ r _ hI => R.move (r.e rfl)) ?_
      obtain ⟨x18, hxx18⟩ : ∃ t, (left)[k]? = some t := ⟨_, List.getElem?_eq_getElem (by omega)⟩
      obtain ⟨blx18, olx18, hax18, hcx18⟩ := hL.at_ _ _ hxx18
      refine HP.take rfl (.free rfl) rfl hI17 (fun _ r _ hI => R.indexAddr_o (k := olx18 + k * 1) (r.e rfl) hax18 (r.e rfl) Try.runUnderlying50 Try.sizeOf4 (by omega) (by omega) (by simp)) ?_
      refine HP.take rfl (.free rfl) rfl hI17 (fun _ r _ hI => R.load1 (r.e rfl) Try.isAgg4 (hI.pc (i := 2) rfl (hcx18 0 _ rfl))) ?_
      refine HP.take rfl (.free rfl) rfl hI17 (fun _ r _ hI => R.move (r.e rfl)) ?_
      rcases Bool.eq_false_or_eq_true x18 with h19 | h19
      · -- x18
        refine HP.take rfl (.yes rfl rfl (kb h19)) rfl hI17 (fun _ r _ hI => R.move (r.e rfl)) ?_
        refine HP.take rfl (.yes rfl rfl (kb h19)) rfl hI17 (fun _ r _ hI => R.move (r.e rfl)) ?_
        refine HP.take rfl (.yes rfl rfl (kb h19)) rfl hI17 (fun _ r _ hI => R.neq (r.e rfl) (r.e rfl)) ?_
        refine HP.take rfl (.free rfl) rfl hI17 (fun _ r _ hI => R.pick_yes (r.e (kb h19)) (r.e rfl)) ?_
        refine HP.take rfl (.free rfl) rfl hI17 (fun _ r _ hI => R.move (r.e rfl)) ?_
        by_cases h20 : (k : Int) = (i : Int)
        · -- (k : Int) = (i : Int)
          refine HP.takeOff rfl (.no rfl rfl (kb (bN (dT h20)))) rfl hI17 ?_
          refine HP.takeOff rfl (.no rfl rfl (kb (bN (dT h20)))) rfl hI17 ?_
          refine HP.takeOff rfl (.no rfl rfl (kb (bN (dT h20)))) rfl hI17 ?_
          refine HP.takeOff rfl (.no rfl rfl (kb (bN (dT h20)))) rfl hI17 ?_
          refine HP.takeOff rfl (.no rfl rfl (kb (bN (dT h20)))) rfl hI17 ?_
          refine HP.takeOff rfl (.no rfl rfl (kb (bN (dT h20)))) rfl hI17 ?_
          refine HP.takeOff rfl (.no rfl rfl (kb (bN (dT h20)))) rfl hI17 ?_
          refine HP.takeOff rfl (.no rfl rfl (kb (bN (dT h20)))) rfl hI17 ?_
          refine HP.oneOff rfl (.no rfl rfl (kb (bN (dT h20)))) rfl hI17 ?_
          refine HP.takeOff rfl (.no rfl rfl (kb (bN (dT h20)))) rfl hI17 ?_
          refine HP.takeOff rfl (.un rfl rfl rfl) rfl hI17 ?_
          refine HP.takeOff rfl (.un rfl rfl rfl) rfl hI17 ?_
          refine HP.takeOff rfl (.un rfl rfl rfl) rfl hI17 ?_
          refine HP.takeOff rfl (.un rfl rfl rfl) rfl hI17 ?_
          refine HP.takeOff rfl (.un rfl rfl rfl) rfl hI17 ?_
          refine HP.takeOff rfl (.un rfl rfl rfl) rfl hI17 ?_
          refine HP.takeOff rfl (.un rfl rfl rfl) rfl hI17 ?_
          refine HP.takeOff rfl (.un rfl rfl rfl) rfl hI17 ?_
          refine HP.takeOff rfl (.un rfl rfl rfl) rfl hI17 ?_
          refine HP.takeOff rfl (.un rfl rfl rfl) rfl hI17 ?_
          refine HP.takeOff rfl (.un rfl rfl rfl) rfl hI17 ?_
          refine HP.takeOff rfl (.un rfl rfl rfl) rfl hI17 ?_
          refine HP.takeOff rfl (.un rfl rfl rfl) rfl hI17 ?_
          refine HP.takeOff rfl (.un rfl rfl rfl) rfl hI17 ?_
          refine HP.takeOff rfl (.un rfl rfl rfl) rfl hI17 ?_
          refine HP.takeOff rfl (.un rfl rfl rfl) rfl hI17 ?_
          refine HP.takeOff rfl (.no rfl rfl (kb (bN (dT h20)))) rfl hI17 ?_
          refine HP.take rfl (.free rfl) rfl hI17 (fun _ r _ hI => R.pick_no (r.e (kb (bN (dT h20)))) (r.e rfl)) ?_
          refine HP.done (EW.then (?_))
          refine CW.no rfl ?_
          refine CW.skip (EW.inB_normal (EW.then (?_)))
          refine CW.region ?_
          refine LW.value (.free rfl) rfl (fun _ r => R.as (R.add (r.e rfl) (r.e rfl)) (congrArg (Value.int .i64) (wrap_i64 (by omega) (by omega)))) ?_
          refine LW.value (.free rfl) rfl (fun _ r => R.move (r.e rfl)) ?_
          refine LW.nil ?_
          obtain ⟨x21, hx22⟩ : ∃ t, (cs)[i]? = some t := ⟨_, List.getElem?_eq_getElem (by omega)⟩
          exact EW.sub (env' := [(0, .pointer (some ⟨ps, 0, none⟩)), (1, .slice aL nL cL), (2, .int .i64 (i : Int)), (17, .slice aC nC cC), (18, .int .i64 (nC : Int)), (19, .int .i64 ((k + 1) : Int))]) ⟨rfl, rfl, rfl, rfl, rfl, rfl, trivial⟩ (EW.round (k + 1) ⟨rfl, hO16.pick [1, 1, 1] rfl, by omega, may_step hx22 hb hxx6 hxx18 (fun h1 h2 => by simp_all [keeps])⟩ (by omega))
        · -- not: (k : Int) = (i : Int)
          refine HP.take rfl (.yes rfl rfl (kb (bN (dF h20)))) rfl hI17 (fun _ r _ hI => R.loadn (vs := [.int .i64 x6.th, .int .i64 x6.d, .int .i64 x6.h, .int .i64 x6.off, .int .i64 x6.n, .int .i64 x6.code, .int .i64 x6.num, .bool x6.done, .int .i64 x6.frm, .int .i64 x6.to_]) (r.e rfl) Try.isAgg73 Try.sizeOf73 rfl (hI.cells (i := 0) rfl rfl)) ?_
          refine HP.take rfl (.yes rfl rfl (kb (bN (dF h20)))) rfl hI17 (fun _ r _ hI => R.move (r.e rfl)) ?_
          refine HP.take rfl (.yes rfl rfl (kb (bN (dF h20)))) rfl hI17 (fun _ r _ hI => R.nilCheck (r.e rfl)) ?_
          refine HP.take rfl (.yes rfl rfl (kb (bN (dF h20)))) rfl hI17 (fun _ r _ hI => R.fieldAddr (k := 0) (r.e rfl) Try.runUnderlying59 rfl Try.sizeOf53 rfl) ?_
          refine HP.take rfl (.yes rfl rfl (kb (bN (dF h20)))) rfl hI17 (fun _ r _ hI => R.load1 (r.e rfl) Try.isAgg53 (hI.cell (i := 1) rfl rfl)) ?_
          refine HP.take rfl (.yes rfl rfl (kb (bN (dF h20)))) rfl hI17 (fun _ r _ hI => R.move (r.e rfl)) ?_
          obtain ⟨x23, hxx23⟩ : ∃ t, (cs)[i]? = some t := ⟨_, List.getElem?_eq_getElem (by omega)⟩
          obtain ⟨blx23, olx23, hax23, hcx23⟩ := hC.at_ _ _ hxx23
          refine HP.take rfl (.yes rfl rfl (kb (bN (dF h20)))) rfl hI17 (fun _ r _ hI => R.indexAddr_o (k := olx23 + i * 10) (r.e rfl) hax23 (r.e rfl) Try.runUnderlying53 Try.sizeOf73 (by omega) (by omega) (by simp)) ?_
          refine HP.take rfl (.yes rfl rfl (kb (bN (dF h20)))) rfl hI17 (fun _ r _ hI => R.loadn (vs := [.int .i64 x23.th, .int .i64 x23.d, .int .i64 x23.h, .int .i64 x23.off, .int .i64 x23.n, .int .i64 x23.code, .int .i64 x23.num, .bool x23.done, .int .i64 x23.frm, .int .i64 x23.to_]) (r.e rfl) Try.isAgg73 Try.sizeOf73 rfl (fun j v hj => hI.pc (i := 2) rfl (hcx23 j v hj))) ?_
          refine HP.one rfl (.yes rfl rfl (kb (bN (dF h20)))) (OW.calls rfl (fun _ r => R.call (vs := [.agg #[.int .i64 x6.th, .int .i64 x6.d, .int .i64 x6.h, .int .i64 x6.off, .int .i64 x6.n, .int .i64 x6.code, .int .i64 x6.num, .bool x6.done, .int .i64 x6.frm, .int .i64 x6.to_], .agg #[.int .i64 x23.th, .int .i64 x23.d, .int .i64 x23.h, .int .i64 x23.off, .int .i64 x23.n, .int .i64 x23.code, .int .i64 x23.num, .bool x23.done, .int .i64 x23.frm, .int .i64 x23.to_]]) Try.call51 rfl ⟨r.e rfl, r.e rfl, trivial⟩) (v_before x6 x23 _ _ (hO16.frame [] rfl)) ?_)
          rintro _ w24 ⟨rfl, hO25⟩
          replace hO25 := hO25.unframe0
          have hI26 := hO25.pick [0, 0, 0] rfl
          refine ⟨hI26, ?_⟩
          refine HP.take rfl (.yes rfl rfl (kb (bN (dF h20)))) rfl hI26 (fun _ r _ hI => R.move (r.e rfl)) ?_
          rcases Bool.eq_false_or_eq_true (x6.done && decide (x6.to_ < x23.frm)) with h27 | h27
          · -- (x6.done && decide (x6.to_ < x23.frm))
            refine HP.takeOff rfl (.no rfl rfl (kb h27)) rfl hI26 ?_
            refine HP.takeOff rfl (.no rfl rfl (kb h27)) rfl hI26 ?_
            refine HP.takeOff rfl (.no rfl rfl (kb h27)) rfl hI26 ?_
            refine HP.takeOff rfl (.no rfl rfl (kb h27)) rfl hI26 ?_
            refine HP.takeOff rfl (.no rfl rfl (kb h27)) rfl hI26 ?_
            refine HP.takeOff rfl (.no rfl rfl (kb h27)) rfl hI26 ?_
            refine HP.takeOff rfl (.no rfl rfl (kb h27)) rfl hI26 ?_
            refine HP.takeOff rfl (.no rfl rfl (kb h27)) rfl hI26 ?_
            refine HP.takeOff rfl (.no rfl rfl (kb h27)) rfl hI26 ?_
            refine HP.takeOff rfl (.no rfl rfl (kb h27)) rfl hI26 ?_
            refine HP.takeOff rfl (.no rfl rfl (kb h27)) rfl hI26 ?_
            refine HP.takeOff rfl (.no rfl rfl (kb h27)) rfl hI26 ?_
            refine HP.takeOff rfl (.un rfl rfl rfl) rfl hI26 ?_
            refine HP.takeOff rfl (.un rfl rfl rfl) rfl hI26 ?_
            refine HP.takeOff rfl (.un rfl rfl rfl) rfl hI26 ?_
            refine HP.takeOff rfl (.no rfl rfl (kb h27)) rfl hI26 ?_
            refine HP.take rfl (.yes rfl rfl (kb (bN (dF h20)))) rfl hI26 (fun _ r _ hI => R.pick_yes (r.e (kb h27)) (r.e rfl)) ?_
            refine HP.take rfl (.free rfl) rfl hI26 (fun _ r _ hI => R.pick_yes (r.e (kb (bN (dF h20)))) (r.e rfl)) ?_
            refine HP.done (EW.then (?_))
            refine CW.yes rfl ?_
            refine CW.seq ?_
            refine CW.region ?_
            refine LW.value (.free rfl) rfl (fun _ r => R.assign (r.e rfl)) ?_
            refine LW.nil (EW.then (?_))
            refine CW.ret (EW.inB_ret (EW.then_ret (EW.then_ret (EW.inB_ret (EW.then_ret (?_))))))
            refine EW.ret1 rfl rfl ?_
            have hm : ¬ May cs left i := may_no hxx23 hxx6 (by rw [hxx18, h19]) (by omega) (by simp_all [keeps])
            exact ⟨congrArg Value.bool (decide_eq_false hm).symm, hO25.pick [1, 1, 1] rfl⟩
          · -- not: (x6.done && decide (x6.to_ < x23.frm))
            refine HP.take rfl (.yes rfl rfl (kb h27)) rfl hI26 (fun _ r _ hI => R.fieldAddr (k := 0) (r.e rfl) Try.runUnderlying73 rfl Try.sizeOf3 rfl) ?_
            refine HP.take rfl (.yes rfl rfl (kb h27)) rfl hI26 (fun _ r _ hI => R.load1 (r.e rfl) Try.isAgg3 (hI.cell (i := 0) rfl rfl)) ?_
            refine HP.take rfl (.yes rfl rfl (kb h27)) rfl hI26 (fun _ r _ hI => R.move (r.e rfl)) ?_
            refine HP.take rfl (.yes rfl rfl (kb h27)) rfl hI26 (fun _ r _ hI => R.nilCheck (r.e rfl)) ?_
            refine HP.take rfl (.yes rfl rfl (kb h27)) rfl hI26 (fun _ r _ hI => R.fieldAddr (k := 0) (r.e rfl) Try.runUnderlying59 rfl Try.sizeOf53 rfl) ?_
            refine HP.take rfl (.yes rfl rfl (kb h27)) rfl hI26 (fun _ r _ hI => R.load1 (r.e rfl) Try.isAgg53 (hI.cell (i := 1) rfl rfl)) ?_
            refine HP.take rfl (.yes rfl rfl (kb h27)) rfl hI26 (fun _ r _ hI => R.move (r.e rfl)) ?_
            obtain ⟨blx23_28, olx23_28, hax23_28, hcx23_28⟩ := hC.at_ _ _ hxx23
            refine HP.take rfl (.yes rfl rfl (kb h27)) rfl hI26 (fun _ r _ hI => R.indexAddr_o (k := olx23_28 + i * 10) (r.e rfl) hax23_28 (r.e rfl) Try.runUnderlying53 Try.sizeOf73 (by omega) (by omega) (by simp)) ?_
            refine HP.take rfl (.yes rfl rfl (kb h27)) rfl hI26 (fun _ r _ hI => R.fieldAddr (k := olx23_28 + i * 10) (r.e rfl) Try.runUnderlying73 rfl Try.sizeOf3 rfl) ?_
            refine HP.take rfl (.yes rfl rfl (kb h27)) rfl hI26 (fun _ r _ hI => R.load1 (r.e rfl) Try.isAgg3 (hI.pc (i := 2) rfl (hcx23_28 0 _ rfl))) ?_
            refine HP.take rfl (.yes rfl rfl (kb h27)) rfl hI26 (fun _ r _ hI => R.eql (r.e rfl) (r.e rfl)) ?_
            refine HP.take rfl (.yes rfl rfl (kb h27)) rfl hI26 (fun _ r _ hI => R.move (r.e rfl)) ?_
            by_cases h29 : x6.th = x23.th
            · -- x6.th = x23.th
              refine HP.take rfl (.yes rfl rfl (kb (dT h29))) rfl hI26 (fun _ r _ hI => R.move (r.e rfl)) ?_
              refine HP.take rfl (.yes rfl rfl (kb (dT h29))) rfl hI26 (fun _ r _ hI => R.move (r.e rfl)) ?_
              refine HP.take rfl (.yes rfl rfl (kb (dT h29))) rfl hI26 (fun _ r _ hI => R.lss (r.e rfl) (r.e rfl)) ?_
              refine HP.take rfl (.yes rfl rfl (kb h27)) rfl hI26 (fun _ r _ hI => R.pick_yes (r.e (kb (dT h29))) (r.e rfl)) ?_
              refine HP.take rfl (.yes rfl rfl (kb (bN (dF h20)))) rfl hI26 (fun _ r _ hI => R.pick_no (r.e (kb h27)) (r.e rfl)) ?_
              refine HP.take rfl (.free rfl) rfl hI26 (fun _ r _ hI => R.pick_yes (r.e (kb (bN (dF h20)))) (r.e rfl)) ?_
              refine HP.done (EW.then (?_))
              by_cases h30 : (k : Int) < (i : Int)
              · -- (k : Int) < (i : Int)
                refine CW.yes (kb (dT h30)) ?_
                refine CW.seq ?_
                refine CW.region ?_
                refine LW.value (.free rfl) rfl (fun _ r => R.assign (r.e rfl)) ?_
                refine LW.nil (EW.then (?_))
                refine CW.ret (EW.inB_ret (EW.then_ret (EW.then_ret (EW.inB_ret (EW.then_ret (?_))))))
                refine EW.ret1 rfl rfl ?_
                have hm : ¬ May cs left i := may_no hxx23 hxx6 (by rw [hxx18, h19]) (by omega) (by simp_all [keeps])
                exact ⟨congrArg Value.bool (decide_eq_false hm).symm, hO25.pick [1, 1, 1] rfl⟩
              · -- not: (k : Int) < (i : Int)
                refine CW.no (kb (dF h30)) ?_
                refine CW.skip (EW.inB_normal (EW.then (?_)))
                refine CW.region ?_
                refine LW.value (.free rfl) rfl (fun _ r => R.as (R.add (r.e rfl) (r.e rfl)) (congrArg (Value.int .i64) (wrap_i64 (by omega) (by omega)))) ?_
                refine LW.value (.free rfl) rfl (fun _ r => R.move (r.e rfl)) ?_
                refine LW.nil ?_
                exact EW.sub (env' := [(0, .pointer (some ⟨ps, 0, none⟩)), (1, .slice aL nL cL), (2, .int .i64 (i : Int)), (17, .slice aC nC cC), (18, .int .i64 (nC : Int)), (19, .int .i64 ((k + 1) : Int))]) ⟨rfl, rfl, rfl, rfl, rfl, rfl, trivial⟩ (EW.round (k + 1) ⟨rfl, hO25.pick [1, 1, 1] rfl, by omega, may_step hxx23 hb hxx6 hxx18 (fun h1 h2 => by simp_all [keeps])⟩ (by omega))
            · -- not: x6.th = x23.th
              refine HP.takeOff rfl (.no rfl rfl (kb (dF h29))) rfl hI26 ?_
              refine HP.takeOff rfl (.no rfl rfl (kb (dF h29))) rfl hI26 ?_
              refine HP.takeOff rfl (.no rfl rfl (kb (dF h29))) rfl hI26 ?_
              refine HP.take rfl (.yes rfl rfl (kb h27)) rfl hI26 (fun _ r _ hI => R.pick_no (r.e (kb (dF h29))) (r.e rfl)) ?_
              refine HP.take rfl (.yes rfl rfl (kb (bN (dF h20)))) rfl hI26 (fun _ r _ hI => R.pick_no (r.e (kb h27)) (r.e rfl)) ?_
              refine HP.take rfl (.free rfl) rfl hI26 (fun _ r _ hI => R.pick_yes (r.e (kb (bN (dF h20)))) (r.e rfl)) ?_
              refine HP.done (EW.then (?_))
              refine CW.no rfl ?_
              refine CW.skip (EW.inB_normal (EW.then (?_)))
              refine CW.region ?_
              refine LW.value (.free rfl) rfl (fun _ r => R.as (R.add (r.e rfl) (r.e rfl)) (congrArg (Value.int .i64) (wrap_i64 (by omega) (by omega)))) ?_
              refine LW.value (.free rfl) rfl (fun _ r => R.move (r.e rfl)) ?_
              refine LW.nil ?_
              exact EW.sub (env' := [(0, .pointer (some ⟨ps, 0, none⟩)), (1, .slice aL nL cL), (2, .int .i64 (i : Int)), (17, .slice aC nC cC), (18, .int .i64 (nC : Int)), (19, .int .i64 ((k + 1) : Int))]) ⟨rfl, rfl, rfl, rfl, rfl, rfl, trivial⟩ (EW.round (k + 1) ⟨rfl, hO25.pick [1, 1, 1] rfl, by omega, may_step hxx23 hb hxx6 hxx18 (fun h1 h2 => by simp_all [keeps])⟩ (by omega))
      · -- not: x18
        refine HP.takeOff rfl (.no rfl rfl (kb h19)) rfl hI17 ?_
        refine HP.takeOff rfl (.no rfl rfl (kb h19)) rfl hI17 ?_
        refine HP.takeOff rfl (.no rfl rfl (kb h19)) rfl hI17 ?_
        refine HP.take rfl (.free rfl) rfl hI17 (fun _ r _ hI => R.pick_no (r.e (kb h19)) (r.e rfl)) ?_
        refine HP.take rfl (.free rfl) rfl hI17 (fun _ r _ hI => R.move (r.e rfl)) ?_
        refine HP.takeOff rfl (.no rfl rfl rfl) rfl hI17 ?_
        refine HP.takeOff rfl (.no rfl rfl rfl) rfl hI17 ?_
        refine HP.takeOff rfl (.no rfl rfl rfl) rfl hI17 ?_
        refine HP.takeOff rfl (.no rfl rfl rfl) rfl hI17 ?_
        refine HP.takeOff rfl (.no rfl rfl rfl) rfl hI17 ?_
        refine HP.takeOff rfl (.no rfl rfl rfl) rfl hI17 ?_
        refine HP.takeOff rfl (.no rfl rfl rfl) rfl hI17 ?_
        refine HP.takeOff rfl (.no rfl rfl rfl) rfl hI17 ?_
        refine HP.oneOff rfl (.no rfl rfl rfl) rfl hI17 ?_
        refine HP.takeOff rfl (.no rfl rfl rfl) rfl hI17 ?_
        refine HP.takeOff rfl (.un rfl rfl rfl) rfl hI17 ?_
        refine HP.takeOff rfl (.un rfl rfl rfl) rfl hI17 ?_
        refine HP.takeOff rfl (.un rfl rfl rfl) rfl hI17 ?_
        refine HP.takeOff rfl (.un rfl rfl rfl) rfl hI17 ?_
        refine HP.takeOff rfl (.un rfl rfl rfl) rfl hI17 ?_
        refine HP.takeOff rfl (.un rfl rfl rfl) rfl hI17 ?_
        refine HP.takeOff rfl (.un rfl rfl rfl) rfl hI17 ?_
        refine HP.takeOff rfl (.un rfl rfl rfl) rfl hI17 ?_
        refine HP.takeOff rfl (.un rfl rfl rfl) rfl hI17 ?_
        refine HP.takeOff rfl (.un rfl rfl rfl) rfl hI17 ?_
        refine HP.takeOff rfl (.un rfl rfl rfl) rfl hI17 ?_
        refine HP.takeOff rfl (.un rfl rfl rfl) rfl hI17 ?_
        refine HP.takeOff rfl (.un rfl rfl rfl) rfl hI17 ?_
        refine HP.takeOff rfl (.un rfl rfl rfl) rfl hI17 ?_
        refine HP.takeOff rfl (.un rfl rfl rfl) rfl hI17 ?_
        refine HP.takeOff rfl (.un rfl rfl rfl) rfl hI17 ?_
        refine HP.takeOff rfl (.no rfl rfl rfl) rfl hI17 ?_
        refine HP.take rfl (.free rfl) rfl hI17 (fun _ r _ hI => R.pick_no (r.e rfl) (r.e rfl)) ?_
        refine HP.done (EW.then (?_))
        refine CW.no rfl ?_
        refine CW.skip (EW.inB_normal (EW.then (?_)))
        refine CW.region ?_
        refine LW.value (.free rfl) rfl (fun _ r => R.as (R.add (r.e rfl) (r.e rfl)) (congrArg (Value.int .i64) (wrap_i64 (by omega) (by omega)))) ?_
        refine LW.value (.free rfl) rfl (fun _ r => R.move (r.e rfl)) ?_
        refine LW.nil ?_
        obtain ⟨x31, hx32⟩ : ∃ t, (cs)[i]? = some t := ⟨_, List.getElem?_eq_getElem (by omega)⟩
        exact EW.sub (env' := [(0, .pointer (some ⟨ps, 0, none⟩)), (1, .slice aL nL cL), (2, .int .i64 (i : Int)), (17, .slice aC nC cC), (18, .int .i64 (nC : Int)), (19, .int .i64 ((k + 1) : Int))]) ⟨rfl, rfl, rfl, rfl, rfl, rfl, trivial⟩ (EW.round (k + 1) ⟨rfl, hO16.pick [1, 1, 1] rfl, by omega, may_step hx32 hb hxx6 hxx18 (fun h1 h2 => by simp_all [keeps])⟩ (by omega))
    · -- not: (k : Int) < (nC : Int)
      refine CW.no (kb (dF h5)) ?_
      refine CW.exit (EW.then_exit (EW.then_exit (EW.inB_same (EW.then (?_)))))
      refine CW.seq ?_
      refine CW.region ?_
      refine LW.value (.free rfl) rfl (fun _ r => R.assign (r.e rfl)) ?_
      refine LW.nil (EW.then (?_))
      refine CW.ret ?_
      refine EW.ret1 rfl rfl ?_
      have hm : May cs left i := ⟨by rw [hli, h2], by rw [show k = cs.length from by omega] at hb; exact hb⟩
      exact ⟨congrArg Value.bool (decide_eq_true hm).symm, hO4.pick [0, 0, 0] rfl⟩
  · -- not: li
    refine CW.yes (kb (bN h2)) ?_
    refine CW.seq ?_
    refine CW.region ?_
    refine LW.value (.free rfl) rfl (fun _ r => R.assign (r.e rfl)) ?_
    refine LW.nil (EW.then (?_))
    refine CW.ret (EW.then_ret (?_))
    refine EW.ret1 rfl rfl ?_
    exact ⟨congrArg Value.bool (decide_eq_false (may_not (by rw [hli, h2]))).symm, hO.pick [0, 0, 0] rfl⟩

set_option maxRecDepth 100000 in
set_option maxHeartbeats 400000 in
theorem v_done (ps : Nat) (wv : Value) (aH : Option Addr) (nH cH : Nat) (G F : Seg) (aC : Option Addr) (nC cC : Nat) (cs : List Cal) (hC : Sl G 10 encL aC nC cC cs) (hn : cs.length ≤ 1000) (aL : Option Addr) (nL cL : Nat) (left : List Bool) (hL : Sl G 1 encB aL nL cL left) (hll : left.length = cs.length) (w : World) (hO : Own w [[(ps, .cells #[.slice aC nC cC, .slice aH nH cH, wv] 59 (0, 0))], G, F]) : Calls Try.prog 23 [.pointer (some ⟨ps, 0, none⟩), .slice aL nL cL].toArray w (Ret fun v w' => v = .bool (decide (AllDone cs left)) ∧ Own w' [[(ps, .cells #[.slice aC nC cC, .slice aH nH cH, wv] 59 (0, 0))], G, F]) := by
  have hlC := hC.hlen
  have hlL := hL.hlen
  refine enter (n := 26) Try.func23 rfl rfl rfl ?_
  refine CW.seq ?_
  refine CW.region ?_
  refine LW.value (.free rfl) rfl (fun _ r => R.assign (r.e rfl)) ?_
  refine LW.nil (EW.then (?_))
  refine CW.seq ?_
  refine CW.seq ?_
  refine CW.region ?_
  refine LW.value (.free rfl) rfl (fun _ r => R.move (r.e rfl)) ?_
  refine LW.value (.free rfl) rfl (fun _ r => R.nilCheck (r.e rfl)) ?_
  refine LW.value (.free rfl) rfl (fun _ r => R.fieldAddr (k := 0) (r.e rfl) Try.runUnderlying59 rfl Try.sizeOf53 rfl) ?_
  refine LW.value (.free rfl) rfl (fun _ r => R.load1 (r.e rfl) Try.isAgg53 (hO.cell (i := 0) rfl rfl)) ?_
  refine LW.value (.free rfl) rfl (fun _ r => R.len_slice (r.e rfl) Try.runUnderlying53) ?_
  refine LW.value (.free rfl) rfl (fun _ r => R.move (r.e rfl)) ?_
  refine LW.nil (EW.then (?_))
  refine CW.block ?_
  refine CW.sub (env' := [(1, .slice aL nL cL), (10, .slice aC nC cC), (11, .int .i64 (nC : Int)), (12, .int .i64 (0 : Int))]) ⟨rfl, rfl, rfl, rfl, trivial⟩ ?_
  refine CW.loop (α := Nat) (fun m env_ w_ => env_ = [(1, .slice aL nL cL), (10, .slice aC nC cC), (11, .int .i64 (nC : Int)), (12, .int .i64 (m : Int))] ∧ Own w_ [[(ps, .cells #[.slice aC nC cC, .slice aH nH cH, wv] 59 (0, 0))], G, F] ∧ (m ≤ cs.length) ∧ (DoneTo cs left m)) (fun m => cs.length - m) 0 ⟨rfl, hO, Nat.zero_le _, fun k c hk => by omega⟩ ?_
  rintro m _ w1 ⟨rfl, hO2, hmm, hd⟩
  refine CW.seq ?_
  refine CW.region ?_
  refine LW.value (.free rfl) rfl (fun _ r => R.lss (r.e rfl) (r.e rfl)) ?_
  refine LW.nil (EW.then (?_))
  refine CW.seq ?_
  by_cases h3 : (m : Int) < (nC : Int)
  · -- (m : Int) < (nC : Int)
    refine CW.yes (kb (dT h3)) ?_
    refine CW.skip (EW.then (?_))
    refine CW.seq ?_
    refine CW.block ?_
    refine CW.seq ?_
    refine CW.region ?_
    refine LW.value (.free rfl) rfl (fun _ r => R.move (r.e rfl)) ?_
    obtain ⟨x4, hxx4⟩ : ∃ t, (cs)[m]? = some t := ⟨_, List.getElem?_eq_getElem (by omega)⟩
    obtain ⟨blx4, olx4, hax4, hcx4⟩ := hC.at_ _ _ hxx4
    refine LW.value (.free rfl) rfl (fun _ r => R.indexAddr_o (k := olx4 + m * 10) (r.e rfl) hax4 (r.e rfl) Try.runUnderlying53 Try.sizeOf73 (by omega) (by omega) (by simp)) ?_
    refine LW.value (.free rfl) rfl (fun _ r => R.loadn (vs := [.int .i64 x4.th, .int .i64 x4.d, .int .i64 x4.h, .int .i64 x4.off, .int .i64 x4.n, .int .i64 x4.code, .int .i64 x4.num, .bool x4.done, .int .i64 x4.frm, .int .i64 x4.to_]) (r.e rfl) Try.isAgg73 Try.sizeOf73 rfl (fun j v hj => hO2.pc (i := 1) rfl (hcx4 j v hj))) ?_
    refine LW.op (.free rfl) (OW.alloc (cs := #[.int .i64 0, .int .i64 0, .int .i64 0, .int .i64 0, .int .i64 0, .int .i64 0, .int .i64 0, .bool false, .int .i64 0, .int .i64 0]) rfl hO2 Try.zeroValue73 rfl ?_)
    intro b5 w6 hO7
    refine LW.value (.free rfl) rfl (fun _ r => R.assign (r.e rfl)) ?_
    refine LW.op (.free rfl) (OW.storeall (i := 0) (vs := [.int .i64 x4.th, .int .i64 x4.d, .int .i64 x4.h, .int .i64 x4.off, .int .i64 x4.n, .int .i64 x4.code, .int .i64 x4.num, .bool x4.done, .int .i64 x4.frm, .int .i64 x4.to_]) rfl hO7 rfl rfl rfl rfl Try.sizeOf73 rfl ?_)
    intro w8 hO9
    refine LW.nil (EW.then (?_))
    refine CW.seq ?_
    refine CW.region ?_
    refine LW.value (.free rfl) rfl (fun _ r => R.move (r.e rfl)) ?_
    refine LW.value (.free rfl) rfl (fun _ r => R.move (r.e rfl)) ?_
    obtain ⟨x10, hxx10⟩ : ∃ t, (left)[m]? = some t := ⟨_, List.getElem?_eq_getElem (by omega)⟩
    obtain ⟨blx10, olx10, hax10, hcx10⟩ := hL.at_ _ _ hxx10
    refine LW.value (.free rfl) rfl (fun _ r => R.indexAddr_o (k := olx10 + m * 1) (r.e rfl) hax10 (r.e rfl) Try.runUnderlying50 Try.sizeOf4 (by omega) (by omega) (by simp)) ?_
    refine LW.value (.free rfl) rfl (fun _ r => R.load1 (r.e rfl) Try.isAgg4 (hO9.pc (i := 2) rfl (hcx10 0 _ rfl))) ?_
    refine LW.value (.free rfl) rfl (fun _ r => R.move (r.e rfl)) ?_
    rcases Bool.eq_false_or_eq_true x10 with h11 | h11
    · -- x10
      refine LW.value (.yes rfl rfl (kb h11)) rfl (fun _ r => R.fieldAddr (k := 7) (r.e rfl) Try.runUnderlying73 rfl Try.sizeOf4 rfl) ?_
      refine LW.value (.yes rfl rfl (kb h11)) rfl (fun _ r => R.load1 (r.e rfl) Try.isAgg4 (hO9.cell (i := 0) rfl rfl)) ?_
      refine LW.value (.free rfl) rfl (fun _ r => R.pick_yes (r.e (kb h11)) (r.e rfl)) ?_
      refine LW.nil (EW.then (?_))
      rcases Bool.eq_false_or_eq_true x4.done with h12 | h12
      · -- x4.done
        refine CW.yes (kb h12) ?_
        refine CW.seq ?_
        refine CW.region ?_
        refine LW.value (.free rfl) rfl (fun _ r => R.assign (r.e rfl)) ?_
        refine LW.nil (EW.then (?_))
        refine CW.ret (EW.inB_ret (EW.then_ret (EW.then_ret (EW.inB_ret (EW.then_ret (?_))))))
        refine EW.ret1 rfl rfl ?_
        exact ⟨congrArg Value.bool (decide_eq_false (done_no hxx4 (by rw [hxx10, h11]) h12)).symm, hO9.pick [1, 1, 1] rfl⟩
      · -- not: x4.done
        refine CW.no (kb h12) ?_
        refine CW.skip (EW.inB_normal (EW.then (?_)))
        refine CW.region ?_
        refine LW.value (.free rfl) rfl (fun _ r => R.as (R.add (r.e rfl) (r.e rfl)) (congrArg (Value.int .i64) (wrap_i64 (by omega) (by omega)))) ?_
        refine LW.value (.free rfl) rfl (fun _ r => R.move (r.e rfl)) ?_
        refine LW.nil ?_
        exact EW.sub (env' := [(1, .slice aL nL cL), (10, .slice aC nC cC), (11, .int .i64 (nC : Int)), (12, .int .i64 ((m + 1) : Int))]) ⟨rfl, rfl, rfl, rfl, trivial⟩ (EW.round (m + 1) ⟨rfl, hO9.pick [1, 1, 1] rfl, by omega, doneTo_next hd hxx4 hxx10 (fun _ => h12)⟩ (by omega))
    · -- not: x10
      refine LW.off (.no rfl rfl (kb h11)) rfl ?_
      refine LW.off (.no rfl rfl (kb h11)) rfl ?_
      refine LW.value (.free rfl) rfl (fun _ r => R.pick_no (r.e (kb h11)) (r.e rfl)) ?_
      refine LW.nil (EW.then (?_))
      refine CW.no rfl ?_
      refine CW.skip (EW.inB_normal (EW.then (?_)))
      refine CW.region ?_
      refine LW.value (.free rfl) rfl (fun _ r => R.as (R.add (r.e rfl) (r.e rfl)) (congrArg (Value.int .i64) (wrap_i64 (by omega) (by omega)))) ?_
      refine LW.value (.free rfl) rfl (fun _ r => R.move (r.e rfl)) ?_
      refine LW.nil ?_
      exact EW.sub (env' := [(1, .slice aL nL cL), (10, .slice aC nC cC), (11, .int .i64 (nC : Int)), (12, .int .i64 ((m + 1) : Int))]) ⟨rfl, rfl, rfl, rfl, trivial⟩ (EW.round (m + 1) ⟨rfl, hO9.pick [1, 1, 1] rfl, by omega, doneTo_next hd hxx4 hxx10 (fun h => by rw [h11] at h; cases h)⟩ (by omega))
  · -- not: (m : Int) < (nC : Int)
    refine CW.no (kb (dF h3)) ?_
    refine CW.exit (EW.then_exit (EW.then_exit (EW.inB_same (EW.then (?_)))))
    refine CW.seq ?_
    refine CW.region ?_
    refine LW.value (.free rfl) rfl (fun _ r => R.assign (r.e rfl)) ?_
    refine LW.nil (EW.then (?_))
    refine CW.ret ?_
    refine EW.ret1 rfl rfl ?_
    exact ⟨congrArg Value.bool (decide_eq_true (show AllDone cs left from by rw [show m = cs.length from by omega] at hd; exact hd)).symm, hO2.pick [0, 0, 0] rfl⟩

set_option maxRecDepth 100000 in
set_option maxHeartbeats 400000 in
theorem v_clone (G F : Seg) (aL : Option Addr) (nL cL : Nat) (left : List Bool) (hL : Sl G 1 encB aL nL cL left) (hn : left.length ≤ 1000) (w : World) (hO : Own w [G, F]) : Calls Try.prog 45 [.slice aL nL cL].toArray w (Ret fun v w' => ∃ s, Grow 4 1 encB v s left ∧ Own w' [s, G, F]) := by
  have hlL := hL.hlen
  refine enter (n := 8) Try.func45 rfl rfl rfl ?_
  refine CW.seq ?_
  refine CW.region ?_
  refine LW.value (.free rfl) rfl (fun _ r => R.assign (r.e rfl)) ?_
  refine LW.nil (EW.then (?_))
  refine CW.seq ?_
  refine CW.seq ?_
  refine CW.region ?_
  refine LW.value (.free rfl) rfl (fun _ r => R.move (r.e rfl)) ?_
  refine LW.value (.free rfl) rfl (fun _ r => R.nilSlice (r.e rfl) (r.e rfl) Try.underlying50) ?_
  refine LW.nil (EW.then (?_))
  rcases Bool.eq_false_or_eq_true (aL.isNone) with h1 | h1
  · -- aL
    refine CW.yes (kb h1) ?_
    refine CW.seq ?_
    refine CW.region ?_
    refine LW.value (.free rfl) rfl (fun _ r => R.assign (r.e rfl)) ?_
    refine LW.nil (EW.then (?_))
    refine CW.ret (EW.then_ret (?_))
    refine EW.ret1 rfl rfl ?_
    have he : left = [] := Sl.none_nil (by cases aL with | none => exact hL | some _ => simp at h1)
    exact ⟨[], by rw [he]; exact Grow.start, (hO.pick [0, 0] rfl).nil⟩
  · -- not: aL
    refine CW.no (kb h1) ?_
    refine CW.skip (EW.then (?_))
    refine CW.seq ?_
    refine CW.region ?_
    refine LW.op (.free rfl) (OW.buildSlice (cs := #[]) (e := 4) (vs := []) rfl hO (fun _ r => trivial) (fun _ => by simp [go_sem, Instr.buildSlice, newRow]) ?_)
    intro b2 w3 hO4
    refine LW.value (.free rfl) rfl (fun _ r => R.move (r.e rfl)) ?_
    have hg5 : Grow 4 1 encB (.slice (some ⟨b2, 0, none⟩) 0 0) [(b2, .cells #[] 4 (0, 0))] ([]) := .inr ⟨b2, 0, [], rfl, rfl, rfl, Nat.le_refl _⟩
    have hO6 := hO4.move [0] rfl
    refine LW.op (.free rfl) (OW.append (xs := []) (ys := left) elemBool rfl hO6 rfl rfl hg5 (fun _ _ => rfl) (fun _ _ => rfl) (hL.hlen) (fun hne => let ⟨b, off, e, hc⟩ := hL.cells (fun _ _ => rfl) hne; ⟨b, off, e, fun j u hj => hO6.pc (i := 1) rfl (hc j u hj)⟩) (by simp; omega) (by simp; omega) (by decide) ?_)
    intro v7 s8 w9 hO10 hg11
    change Grow _ _ _ _ _ left at hg11
    refine LW.value (.free rfl) rfl (fun _ r => R.assign (r.e rfl)) ?_
    refine LW.nil (EW.then (?_))
    refine CW.ret ?_
    refine EW.ret1 rfl rfl ?_
    exact ⟨s8, hg11, hO10.pick [0, 0, 0] rfl⟩

set_option maxRecDepth 100000 in
set_option maxHeartbeats 400000 in
theorem v_results (sm : Seg) (pm : Nat) (X : List PT) (T : List Int) (hM : MRef sm pm X T) (hT : T.length ≤ 1000000) (ps : Nat) (wv : Value) (aH : Option Addr) (nH cH : Nat) (G F : Seg) (aC : Option Addr) (nC cC : Nat) (cs : List Cal) (hC : Sl G 10 encL aC nC cC cs) (hn : cs.length ≤ 1000) (hs : List Int) (hH : Sl G 1 encI aH nH cH hs) (hhs : hs.length ≤ 1000) (c : Cal) (w : World) (hO : Own w [sm, [(ps, .cells #[.slice aC nC cC, .slice aH nH cH, wv] 59 (0, 0))], G, F]) : Calls Try.prog 43 [.pointer (some ⟨ps, 0, none⟩), .pointer (some ⟨pm, 0, none⟩), .agg #[.int .i64 c.th, .int .i64 c.d, .int .i64 c.h, .int .i64 c.off, .int .i64 c.n, .int .i64 c.code, .int .i64 c.num, .bool c.done, .int .i64 c.frm, .int .i64 c.to_]].toArray w (Ret fun v w' => ∃ s, Grow 39 2 encR v s (resP X c hs) ∧ Own w' [s, sm, [(ps, .cells #[.slice aC nC cC, .slice aH nH cH, wv] 59 (0, 0))], G, F]) := by
  have hlH := hH.hlen
  refine enter (n := 43) Try.func43 rfl rfl rfl ?_
  refine CW.seq ?_
  refine CW.region ?_
  refine LW.op (.free rfl) (OW.box (cs := #[.int .i64 c.th, .int .i64 c.d, .int .i64 c.h, .int .i64 c.off, .int .i64 c.n, .int .i64 c.code, .int .i64 c.num, .bool c.done, .int .i64 c.frm, .int .i64 c.to_]) rfl hO rfl rfl ?_)
  intro b1 w2 hO3
  refine LW.value (.free rfl) rfl (fun _ r => R.assign (r.e rfl)) ?_
  refine LW.nil (EW.then (?_))
  refine CW.seq ?_
  refine CW.seq ?_
  refine CW.region ?_
  refine LW.value (.free rfl) rfl (fun _ r => R.fieldAddr (k := 7) (r.e rfl) Try.runUnderlying73 rfl Try.sizeOf4 rfl) ?_
  refine LW.value (.free rfl) rfl (fun _ r => R.load1 (r.e rfl) Try.isAgg4 (hO3.cell (i := 0) rfl rfl)) ?_
  refine LW.nil (EW.then (?_))
  rcases Bool.eq_false_or_eq_true c.done with h4 | h4
  · -- c.done
    refine CW.yes (kb h4) ?_
    refine CW.seq ?_
    refine CW.region ?_
    refine LW.value (.free rfl) rfl (fun _ r => R.fieldAddr (k := 5) (r.e rfl) Try.runUnderlying73 rfl Try.sizeOf39 rfl) ?_
    refine LW.value (.free rfl) rfl (fun _ r => R.loadn (vs := [.int .i64 c.code, .int .i64 c.num]) (r.e rfl) Try.isAgg39 Try.sizeOf39 rfl (hO3.cells (i := 0) rfl rfl)) ?_
    refine LW.op (.free rfl) (OW.buildSlice (cs := #[.int .i64 c.code, .int .i64 c.num]) (e := 39) (vs := [(0, .agg #[.int .i64 c.code, .int .i64 c.num])]) rfl hO3 (fun _ r => ⟨⟨r.e rfl, rfl⟩, trivial⟩) (fun _ => by simp [go_sem, Instr.buildSlice, newRow]) ?_)
    intro b5 w6 hO7
    refine LW.value (.free rfl) rfl (fun _ r => R.assign (r.e rfl)) ?_
    refine LW.nil (EW.then (?_))
    refine CW.ret (EW.then_ret (?_))
    refine EW.ret1 rfl rfl ?_
    exact ⟨_, by rw [resP_done h4]; exact .inr ⟨b5, 1, [], rfl, rfl, rfl, Nat.le_refl _⟩, hO7.pick [0, 1, 1, 1, 1] rfl⟩
  · -- not: c.done
    refine CW.no (kb h4) ?_
    refine CW.skip (EW.then (?_))
    refine CW.seq ?_
    refine CW.seq ?_
    refine CW.region ?_
    refine LW.value (.free rfl) rfl (fun _ r => R.move (r.e rfl)) ?_
    refine LW.value (.free rfl) rfl (fun _ r => R.fieldAddr (k := 1) (r.e rfl) Try.runUnderlying73 rfl Try.sizeOf36 rfl) ?_
    refine LW.value (.free rfl) rfl (fun _ r => R.loadn (vs := [.int .i64 c.d, .int .i64 c.h, .int .i64 c.off, .int .i64 c.n]) (r.e rfl) Try.isAgg36 Try.sizeOf36 rfl (hO3.cells (i := 0) rfl rfl)) ?_
    obtain ⟨a8, m9, t10, ha11⟩ : ∃ a m t, ansP X c.d c.h c.off c.n = (a, m, t) := ⟨_, _, _, rfl⟩
    refine LW.op (.free rfl) (OW.calls rfl (fun _ r => R.call (vs := [.pointer (some ⟨pm, 0, none⟩), .agg #[.int .i64 c.d, .int .i64 c.h, .int .i64 c.off, .int .i64 c.n]]) Try.call52 rfl ⟨r.e rfl, r.e rfl, trivial⟩) (l_answer hM (by omega) ha11 (hO3.frame [1] rfl)) ?_)
    rintro _ w12 ⟨rfl, hO13⟩
    replace hO13 := hO13.unframe1
    refine LW.value (.free rfl) rfl (fun _ r => R.move (r.e rfl)) ?_
    refine LW.value (.free rfl) rfl (fun _ r => R.extract (r.e rfl) rfl) ?_
    refine LW.value (.free rfl) rfl (fun _ r => R.extract (r.e rfl) rfl) ?_
    refine LW.op (.free rfl) (OW.alloc (cs := #[.int .i64 0, .int .i64 0]) rfl hO13 Try.zeroValue39 rfl ?_)
    intro b14 w15 hO16
    refine LW.op (.free rfl) (OW.storeall (i := 0) (vs := [.int .i64 a8, .int .i64 m9]) rfl hO16 rfl rfl rfl rfl Try.sizeOf39 rfl ?_)
    intro w17 hO18
    refine LW.value (.free rfl) rfl (fun _ r => R.assign (r.e rfl)) ?_
    refine LW.nil (EW.then (?_))
    refine CW.seq ?_
    refine CW.region ?_
    refine LW.value (.free rfl) rfl (fun _ r => R.move (r.e rfl)) ?_
    refine LW.nil (EW.then (?_))
    rcases Bool.eq_false_or_eq_true t10 with h19 | h19
    · -- t10
      refine CW.yes (kb h19) ?_
      refine CW.seq ?_
      refine CW.region ?_
      refine LW.value (.free rfl) rfl (fun _ r => R.loadn (vs := [.int .i64 a8, .int .i64 m9]) (r.e rfl) Try.isAgg39 Try.sizeOf39 rfl (hO18.cells (i := 0) rfl rfl)) ?_
      refine LW.op (.free rfl) (OW.buildSlice (cs := #[.int .i64 a8, .int .i64 m9]) (e := 39) (vs := [(0, .agg #[.int .i64 a8, .int .i64 m9])]) rfl hO18 (fun _ r => ⟨⟨r.e rfl, rfl⟩, trivial⟩) (fun _ => by simp [go_sem, Instr.buildSlice, newRow]) ?_)
      intro b20 w21 hO22
      refine LW.value (.free rfl) rfl (fun _ r => R.assign (r.e rfl)) ?_
      refine LW.nil (EW.then (?_))
      refine CW.ret (EW.then_ret (?_))
      refine EW.ret1 rfl rfl ?_
      exact ⟨_, by rw [resP_ans h4 (ha11.trans (by rw [h19]))]; exact .inr ⟨b20, 1, [], rfl, rfl, rfl, Nat.le_refl _⟩, hO22.pick [0, 1, 2, 2, 2] rfl⟩
    · -- not: t10
      refine CW.no (kb h19) ?_
      refine CW.skip (EW.then (?_))
      refine CW.seq ?_
      refine CW.region ?_
      refine LW.value (.free rfl) rfl (fun _ r => R.assign (r.e rfl)) ?_
      refine LW.nil (EW.then (?_))
      refine CW.seq ?_
      refine CW.seq ?_
      refine CW.region ?_
      refine LW.value (.free rfl) rfl (fun _ r => R.move (r.e rfl)) ?_
      refine LW.value (.free rfl) rfl (fun _ r => R.nilCheck (r.e rfl)) ?_
      refine LW.value (.free rfl) rfl (fun _ r => R.fieldAddr (k := 1) (r.e rfl) Try.runUnderlying59 rfl Try.sizeOf32 rfl) ?_
      refine LW.value (.free rfl) rfl (fun _ r => R.load1 (r.e rfl) Try.isAgg32 (hO18.cell (i := 3) rfl rfl)) ?_
      refine LW.value (.free rfl) rfl (fun _ r => R.len_slice (r.e rfl) Try.runUnderlying32) ?_
      refine LW.value (.free rfl) rfl (fun _ r => R.move (r.e rfl)) ?_
      refine LW.nil (EW.then (?_))
      refine CW.block ?_
      refine CW.sub (env' := [(9, (.slice none 0 0)), (30, .slice aH nH cH), (31, .int .i64 (nH : Int)), (32, .int .i64 (0 : Int))]) ⟨rfl, rfl, rfl, rfl, trivial⟩ ?_
      refine CW.loop (α := Nat × Value × Seg) (fun (x_ : Nat × Value × Seg) env_ w_ => ∃ i v s, x_ = (i, v, s) ∧ env_ = [(9, v), (30, .slice aH nH cH), (31, .int .i64 (nH : Int)), (32, .int .i64 (i : Int))] ∧ Own w_ [s, sm, [(ps, .cells #[.slice aC nC cC, .slice aH nH cH, wv] 59 (0, 0))], G, F] ∧ (i ≤ hs.length) ∧ (Grow 39 2 encR v s ((hs.take i).map fun h => ((0, h) : Int × Int)))) (fun (x_ : Nat × Value × Seg) => hs.length - x_.1) (0, .slice none 0 0, []) ⟨0, .slice none 0 0, [], rfl, rfl, (hO18.pick [1, 2, 2, 2] rfl).nil, Nat.zero_le _, Grow.start⟩ ?_
      rintro _ _ w23 ⟨i, v, s, rfl, rfl, hO24, hi, hg⟩
      refine CW.seq ?_
      refine CW.region ?_
      refine LW.value (.free rfl) rfl (fun _ r => R.lss (r.e rfl) (r.e rfl)) ?_
      refine LW.nil (EW.then (?_))
      refine CW.seq ?_
      by_cases h25 : (i : Int) < (nH : Int)
      · -- (i : Int) < (nH : Int)
        refine CW.yes (kb (dT h25)) ?_
        refine CW.skip (EW.then (?_))
        refine CW.seq ?_
        refine CW.block ?_
        refine CW.seq ?_
        refine CW.region ?_
        obtain ⟨x26, hxx26⟩ : ∃ t, (hs)[i]? = some t := ⟨_, List.getElem?_eq_getElem (by omega)⟩
        obtain ⟨blx26, olx26, hax26, hcx26⟩ := hH.at_ _ _ hxx26
        refine LW.value (.free rfl) rfl (fun _ r => R.indexAddr_o (k := olx26 + i * 1) (r.e rfl) hax26 (r.e rfl) Try.runUnderlying32 Try.sizeOf3 (by omega) (by omega) (by simp)) ?_
        refine LW.value (.free rfl) rfl (fun _ r => R.load1 (r.e rfl) Try.isAgg3 (hO24.pc (i := 3) rfl (hcx26 0 _ rfl))) ?_
        refine LW.value (.free rfl) rfl (fun _ r => R.assign (r.e rfl)) ?_
        refine LW.nil (EW.then (?_))
        refine CW.region ?_
        refine LW.value (.free rfl) rfl (fun _ r => R.move (r.e rfl)) ?_
        refine LW.value (.free rfl) rfl (fun _ r => R.move (r.e rfl)) ?_
        refine LW.value (.free rfl) rfl (fun _ r => R.build (v := .agg #[.int .i64 0, .int .i64 x26]) (vs := [(1, .int .i64 x26)]) ⟨⟨r.e rfl, rfl⟩, trivial⟩ (by simp [go_sem])) ?_
        refine LW.op (.free rfl) (OW.buildSlice (cs := #[.int .i64 0, .int .i64 x26]) (e := 39) (vs := [(0, .agg #[.int .i64 0, .int .i64 x26])]) rfl hO24 (fun _ r => ⟨⟨r.e rfl, rfl⟩, trivial⟩) (fun _ => by simp [go_sem, Instr.buildSlice, newRow]) ?_)
        intro b27 w28 hO29
        have hO30 := hO29.move [1] rfl
        refine LW.op (.free rfl) (OW.append (xs := ((hs.take i).map fun h => ((0, h) : Int × Int))) (ys := [((0, x26) : Int × Int)]) elemRes rfl hO30 rfl rfl hg (fun _ _ => rfl) (fun _ _ => rfl) rfl (fun _ => src (i := 1) hO30 rfl rfl) (by simp; omega) (by simp; omega) (by decide) ?_)
        intro v31 s32 w33 hO34 hg35
        refine LW.value (.free rfl) rfl (fun _ r => R.assign (r.e rfl)) ?_
        refine LW.nil (EW.inB_normal (EW.then (?_)))
        refine CW.region ?_
        refine LW.value (.free rfl) rfl (fun _ r => R.as (R.add (r.e rfl) (r.e rfl)) (congrArg (Value.int .i64) (wrap_i64 (by omega) (by omega)))) ?_
        refine LW.value (.free rfl) rfl (fun _ r => R.move (r.e rfl)) ?_
        refine LW.nil ?_
        exact EW.sub (env' := [(9, v31), (30, .slice aH nH cH), (31, .int .i64 (nH : Int)), (32, .int .i64 ((i + 1) : Int))]) ⟨rfl, rfl, rfl, rfl, trivial⟩ (EW.round (i + 1, v31, s32) ⟨i + 1, v31, s32, rfl, rfl, hO34.pick [0, 1, 1, 1, 1] rfl, by omega, by rw [List.take_succ_eq_append_getElem (show i < hs.length by omega), List.map_append]; rw [List.getElem?_eq_getElem (show i < hs.length by omega)] at hxx26; cases hxx26; exact hg35⟩ (by dsimp only; omega))
      · -- not: (i : Int) < (nH : Int)
        refine CW.no (kb (dF h25)) ?_
        refine CW.exit (EW.then_exit (EW.then_exit (EW.inB_same (EW.then (?_)))))
        refine CW.seq ?_
        refine CW.region ?_
        refine LW.value (.free rfl) rfl (fun _ r => R.move (r.e rfl)) ?_
        refine LW.value (.free rfl) rfl (fun _ r => R.assign (r.e rfl)) ?_
        refine LW.nil (EW.then (?_))
        refine CW.ret ?_
        refine EW.ret1 rfl rfl ?_
        exact ⟨s, by rw [resP_hs h4 (ha11.trans (by rw [h19])), ← List.take_of_length_le (l := hs) (i := i) (by omega)]; exact hg, hO24.pick [0, 0, 0, 0, 0] rfl⟩

end Go.Sd
