/-
  Layer 8's reference, walked.
-/
import Derived.Test.YtgkbmelecalllaaSe1
set_option linter.unusedSimpArgs false
set_option linter.unusedVariables false
set_option linter.unusedSectionVars false
namespace Go.Sd
open Go Go.Proofs
variable [Str]
set_option maxRecDepth 100000 in
set_option maxHeartbeats 400000 in
theorem e_turn (G F : Seg) (a : Option Addr) (n c : Nat) (l : List Ev) (hs : Sl G 8 encE a n c l) (hn : l.length ≤ 1000000) (k : Nat) (e : Ev) (he : l[k]? = some e) (w : World) (hO : Own w [G, F]) : Calls Try.prog 56 [.slice a n c, .int .i64 (k : Int)].toArray w (Ret fun v w' => v = .int .i64 (turnI l e.th k) ∧ Own w' [G, F]) := by
  have hl := hs.hlen
  have hk := (List.getElem?_eq_some_iff.1 he).1
  refine enter (n := 26) Try.func56 rfl rfl rfl ?_
  refine CW.seq ?_
  refine CW.region ?_
  refine LW.value (.free rfl) rfl (fun _ r => R.assign (r.e rfl)) ?_
  refine LW.nil (EW.then (?_))
  refine CW.seq ?_
  refine CW.region ?_
  refine LW.value (.free rfl) rfl (fun _ r => R.assign (r.e rfl)) ?_
  refine LW.nil (EW.then (?_))
  refine CW.seq ?_
  refine CW.seq ?_
  refine CW.region ?_
  refine LW.value (.free rfl) rfl (fun _ r => R.assign (r.e rfl)) ?_
  refine LW.nil (EW.then (?_))
  refine CW.block ?_
  refine CW.sub (env' := [(0, .slice a n c), (1, .int .i64 (k : Int)), (5, .int .i64 0), (6, .int .i64 (0 : Int))]) ⟨rfl, rfl, rfl, rfl, trivial⟩ ?_
  refine CW.loop (α := Nat × Int) (fun (x_ : Nat × Int) env_ w_ => ∃ i m, x_ = (i, m) ∧ env_ = [(0, .slice a n c), (1, .int .i64 (k : Int)), (5, .int .i64 m), (6, .int .i64 (i : Int))] ∧ Own w_ [G, F] ∧ (i ≤ k) ∧ (m = (turnI l e.th i : Int))) (fun (x_ : Nat × Int) => k - x_.1) (0, 0) ⟨0, 0, rfl, rfl, hO, Nat.zero_le _, by simp [turnI]⟩ ?_
  rintro _ _ w1 ⟨i, m, rfl, rfl, hO2, hi, hm⟩
  have htl := turnI_le l e.th i
  refine CW.seq ?_
  refine CW.seq ?_
  refine CW.region ?_
  refine LW.value (.free rfl) rfl (fun _ r => R.move (r.e rfl)) ?_
  refine LW.value (.free rfl) rfl (fun _ r => R.move (r.e rfl)) ?_
  refine LW.value (.free rfl) rfl (fun _ r => R.lss (r.e rfl) (r.e rfl)) ?_
  refine LW.nil (EW.then (?_))
  by_cases h3 : (i : Int) < (k : Int)
  · -- (i : Int) < (k : Int)
    refine CW.yes (kb (dT h3)) ?_
    refine CW.skip (EW.then (?_))
    refine CW.seq ?_
    refine CW.block ?_
    refine CW.seq ?_
    refine HP.start (I := fun w' => Own w' [G, F]) (.take 0 (.take 1 (.take 2 (.take 3 (.take 4 (.take 5 (.take 6 (.take 7 (.take 8 (.take 9 (.take 10 (.done)))))))))))) Try.mixed (by intro c d v a w h; cases d <;> exact h) hO2 (by kernel_rfl) ?_
    intro w6 hO7
    have hI8 := hO7.pick [0, 0] rfl
    refine HP.take rfl (.free rfl) rfl hI8 (fun _ r _ hI => R.move (r.e rfl)) ?_
    refine HP.take rfl (.free rfl) rfl hI8 (fun _ r _ hI => R.move (r.e rfl)) ?_
    obtain ⟨x9, hxx9⟩ : ∃ t, (l)[i]? = some t := ⟨_, List.getElem?_eq_getElem (by omega)⟩
    obtain ⟨blx9, olx9, hax9, hcx9⟩ := hs.at_ _ _ hxx9
    refine HP.take rfl (.free rfl) rfl hI8 (fun _ r _ hI => R.indexAddr_o (k := olx9 + i * 8) (r.e rfl) hax9 (r.e rfl) Try.runUnderlying22 Try.sizeOf41 (by omega) (by omega) (by simp)) ?_
    refine HP.take rfl (.free rfl) rfl hI8 (fun _ r _ hI => R.fieldAddr (k := olx9 + i * 8) (r.e rfl) Try.runUnderlying41 rfl Try.sizeOf3 rfl) ?_
    refine HP.take rfl (.free rfl) rfl hI8 (fun _ r _ hI => R.load1 (r.e rfl) Try.isAgg3 (hI.pc (i := 0) rfl (hcx9 0 _ rfl))) ?_
    refine HP.take rfl (.free rfl) rfl hI8 (fun _ r _ hI => R.move (r.e rfl)) ?_
    refine HP.take rfl (.free rfl) rfl hI8 (fun _ r _ hI => R.move (r.e rfl)) ?_
    obtain ⟨ble_10, ole_10, hae_10, hce_10⟩ := hs.at_ _ _ he
    refine HP.take rfl (.free rfl) rfl hI8 (fun _ r _ hI => R.indexAddr_o (k := ole_10 + k * 8) (r.e rfl) hae_10 (r.e rfl) Try.runUnderlying22 Try.sizeOf41 (by omega) (by omega) (by simp)) ?_
    refine HP.take rfl (.free rfl) rfl hI8 (fun _ r _ hI => R.fieldAddr (k := ole_10 + k * 8) (r.e rfl) Try.runUnderlying41 rfl Try.sizeOf3 rfl) ?_
    refine HP.take rfl (.free rfl) rfl hI8 (fun _ r _ hI => R.load1 (r.e rfl) Try.isAgg3 (hI.pc (i := 0) rfl (hce_10 0 _ rfl))) ?_
    refine HP.take rfl (.free rfl) rfl hI8 (fun _ r _ hI => R.eql (r.e rfl) (r.e rfl)) ?_
    refine HP.done (EW.then (?_))
    by_cases h11 : x9.th = e.th
    · -- x9.th = e.th
      refine CW.yes (kb (dT h11)) ?_
      refine CW.region ?_
      refine LW.value (.free rfl) rfl (fun _ r => R.move (r.e rfl)) ?_
      refine LW.value (.free rfl) rfl (fun _ r => R.as (R.add (r.e rfl) (r.e rfl)) (congrArg (Value.int .i64) (wrap_i64 (by omega) (by omega)))) ?_
      refine LW.value (.free rfl) rfl (fun _ r => R.assign (r.e rfl)) ?_
      refine LW.nil (EW.inB_normal (EW.then (?_)))
      refine CW.region ?_
      refine LW.value (.free rfl) rfl (fun _ r => R.move (r.e rfl)) ?_
      refine LW.value (.free rfl) rfl (fun _ r => R.as (R.add (r.e rfl) (r.e rfl)) (congrArg (Value.int .i64) (wrap_i64 (by omega) (by omega)))) ?_
      refine LW.value (.free rfl) rfl (fun _ r => R.assign (r.e rfl)) ?_
      refine LW.nil ?_
      exact EW.sub (env' := [(0, .slice a n c), (1, .int .i64 (k : Int)), (5, .int .i64 (m + 1)), (6, .int .i64 ((i + 1) : Int))]) ⟨rfl, rfl, rfl, rfl, trivial⟩ (EW.round (i + 1, m + 1) ⟨i + 1, m + 1, rfl, rfl, hO7, by omega, by rw [turnI_succ hxx9]; simp [h3, h11] <;> omega⟩ (by dsimp only; omega))
    · -- not: x9.th = e.th
      refine CW.no (kb (dF h11)) ?_
      refine CW.skip (EW.inB_normal (EW.then (?_)))
      refine CW.region ?_
      refine LW.value (.free rfl) rfl (fun _ r => R.move (r.e rfl)) ?_
      refine LW.value (.free rfl) rfl (fun _ r => R.as (R.add (r.e rfl) (r.e rfl)) (congrArg (Value.int .i64) (wrap_i64 (by omega) (by omega)))) ?_
      refine LW.value (.free rfl) rfl (fun _ r => R.assign (r.e rfl)) ?_
      refine LW.nil ?_
      exact EW.sub (env' := [(0, .slice a n c), (1, .int .i64 (k : Int)), (5, .int .i64 m), (6, .int .i64 ((i + 1) : Int))]) ⟨rfl, rfl, rfl, rfl, trivial⟩ (EW.round (i + 1, m) ⟨i + 1, m, rfl, rfl, hO7, by omega, by rw [turnI_succ hxx9]; simp [h3, h11] <;> omega⟩ (by dsimp only; omega))
  · -- not: (i : Int) < (k : Int)
    refine CW.no (kb (dF h3)) ?_
    refine CW.exit (EW.then_exit (EW.then_exit (EW.inB_same (EW.then (?_)))))
    refine CW.seq ?_
    refine CW.region ?_
    refine LW.value (.free rfl) rfl (fun _ r => R.move (r.e rfl)) ?_
    refine LW.value (.free rfl) rfl (fun _ r => R.assign (r.e rfl)) ?_
    refine LW.nil (EW.then (?_))
    refine CW.ret ?_
    refine EW.ret1 rfl rfl ?_
    exact ⟨by rw [show i = k from by omega] at hm; rw [hm], hO2.pick [0, 0] rfl⟩

set_option maxRecDepth 100000 in
set_option maxHeartbeats 400000 in
theorem e_answer (G F : Seg) (a : Option Addr) (n c : Nat) (l : List Ev) (hs : Sl G 8 encE a n c l) (hn : l.length ≤ 1000000) (k : Nat) (e : Ev) (he : l[k]? = some e) (w : World) (hO : Own w [G, F]) : Calls Try.prog 35 [.slice a n c, .int .i64 (k : Int)].toArray w (Ret fun v w' => v = .int .i64 (nextI l e.th (k + 1)) ∧ Own w' [G, F]) := by
  have hl := hs.hlen
  have hk := (List.getElem?_eq_some_iff.1 he).1
  refine enter (n := 28) Try.func35 rfl rfl rfl ?_
  refine CW.seq ?_
  refine CW.region ?_
  refine LW.value (.free rfl) rfl (fun _ r => R.assign (r.e rfl)) ?_
  refine LW.nil (EW.then (?_))
  refine CW.seq ?_
  refine CW.seq ?_
  refine CW.region ?_
  refine LW.value (.free rfl) rfl (fun _ r => R.move (r.e rfl)) ?_
  refine LW.value (.free rfl) rfl (fun _ r => R.as (R.add (r.e rfl) (r.e rfl)) (congrArg (Value.int .i64) (wrap_i64 (by omega) (by omega)))) ?_
  refine LW.value (.free rfl) rfl (fun _ r => R.assign (r.e rfl)) ?_
  refine LW.nil (EW.then (?_))
  refine CW.block ?_
  refine CW.sub (env' := [(0, .slice a n c), (1, .int .i64 (k : Int)), (5, .int .i64 ((k + 1) : Int))]) ⟨rfl, rfl, rfl, trivial⟩ ?_
  refine CW.loop (α := Nat) (fun i env_ w_ => env_ = [(0, .slice a n c), (1, .int .i64 (k : Int)), (5, .int .i64 (i : Int))] ∧ Own w_ [G, F] ∧ (k + 1 ≤ i ∧ i ≤ l.length) ∧ (nextI l e.th (k + 1) = nextI l e.th i)) (fun i => l.length - i) (k + 1) ⟨rfl, hO, by omega, rfl⟩ ?_
  rintro i _ w1 ⟨rfl, hO2, hi, hm⟩
  refine CW.seq ?_
  refine CW.seq ?_
  refine CW.region ?_
  refine LW.value (.free rfl) rfl (fun _ r => R.move (r.e rfl)) ?_
  refine LW.value (.free rfl) rfl (fun _ r => R.move (r.e rfl)) ?_
  refine LW.value (.free rfl) rfl (fun _ r => R.len_slice (r.e rfl) Try.runUnderlying22) ?_
  refine LW.value (.free rfl) rfl (fun _ r => R.lss (r.e rfl) (r.e rfl)) ?_
  refine LW.nil (EW.then (?_))
  by_cases h3 : (i : Int) < (n : Int)
  · -- (i : Int) < (n : Int)
    refine CW.yes (kb (dT h3)) ?_
    refine CW.skip (EW.then (?_))
    refine CW.seq ?_
    refine CW.block ?_
    refine CW.seq ?_
    refine HP.start (I := fun w' => Own w' [G, F]) (.take 0 (.take 1 (.take 2 (.take 3 (.take 4 (.take 5 (.take 6 (.take 7 (.take 8 (.take 9 (.take 10 (.done)))))))))))) Try.mixed (by intro c d v a w h; cases d <;> exact h) hO2 (by kernel_rfl) ?_
    intro w6 hO7
    have hI8 := hO7.pick [0, 0] rfl
    refine HP.take rfl (.free rfl) rfl hI8 (fun _ r _ hI => R.move (r.e rfl)) ?_
    refine HP.take rfl (.free rfl) rfl hI8 (fun _ r _ hI => R.move (r.e rfl)) ?_
    obtain ⟨x9, hxx9⟩ : ∃ t, (l)[i]? = some t := ⟨_, List.getElem?_eq_getElem (by omega)⟩
    obtain ⟨blx9, olx9, hax9, hcx9⟩ := hs.at_ _ _ hxx9
    refine HP.take rfl (.free rfl) rfl hI8 (fun _ r _ hI => R.indexAddr_o (k := olx9 + i * 8) (r.e rfl) hax9 (r.e rfl) Try.runUnderlying22 Try.sizeOf41 (by omega) (by omega) (by simp)) ?_
    refine HP.take rfl (.free rfl) rfl hI8 (fun _ r _ hI => R.fieldAddr (k := olx9 + i * 8) (r.e rfl) Try.runUnderlying41 rfl Try.sizeOf3 rfl) ?_
    refine HP.take rfl (.free rfl) rfl hI8 (fun _ r _ hI => R.load1 (r.e rfl) Try.isAgg3 (hI.pc (i := 0) rfl (hcx9 0 _ rfl))) ?_
    refine HP.take rfl (.free rfl) rfl hI8 (fun _ r _ hI => R.move (r.e rfl)) ?_
    refine HP.take rfl (.free rfl) rfl hI8 (fun _ r _ hI => R.move (r.e rfl)) ?_
    obtain ⟨ble_10, ole_10, hae_10, hce_10⟩ := hs.at_ _ _ he
    refine HP.take rfl (.free rfl) rfl hI8 (fun _ r _ hI => R.indexAddr_o (k := ole_10 + k * 8) (r.e rfl) hae_10 (r.e rfl) Try.runUnderlying22 Try.sizeOf41 (by omega) (by omega) (by simp)) ?_
    refine HP.take rfl (.free rfl) rfl hI8 (fun _ r _ hI => R.fieldAddr (k := ole_10 + k * 8) (r.e rfl) Try.runUnderlying41 rfl Try.sizeOf3 rfl) ?_
    refine HP.take rfl (.free rfl) rfl hI8 (fun _ r _ hI => R.load1 (r.e rfl) Try.isAgg3 (hI.pc (i := 0) rfl (hce_10 0 _ rfl))) ?_
    refine HP.take rfl (.free rfl) rfl hI8 (fun _ r _ hI => R.eql (r.e rfl) (r.e rfl)) ?_
    refine HP.done (EW.then (?_))
    by_cases h11 : x9.th = e.th
    · -- x9.th = e.th
      refine CW.yes (kb (dT h11)) ?_
      refine CW.seq ?_
      refine CW.region ?_
      refine LW.value (.free rfl) rfl (fun _ r => R.move (r.e rfl)) ?_
      refine LW.value (.free rfl) rfl (fun _ r => R.assign (r.e rfl)) ?_
      refine LW.nil (EW.then (?_))
      refine CW.ret (EW.inB_ret (EW.then_ret (EW.then_ret (EW.inB_ret (EW.then_ret (?_))))))
      refine EW.ret1 rfl rfl ?_
      exact ⟨by rw [hm, nextI_here hxx9 h11], hO7.pick [0, 0] rfl⟩
    · -- not: x9.th = e.th
      refine CW.no (kb (dF h11)) ?_
      refine CW.skip (EW.inB_normal (EW.then (?_)))
      refine CW.region ?_
      refine LW.value (.free rfl) rfl (fun _ r => R.move (r.e rfl)) ?_
      refine LW.value (.free rfl) rfl (fun _ r => R.as (R.add (r.e rfl) (r.e rfl)) (congrArg (Value.int .i64) (wrap_i64 (by omega) (by omega)))) ?_
      refine LW.value (.free rfl) rfl (fun _ r => R.assign (r.e rfl)) ?_
      refine LW.nil ?_
      exact EW.sub (env' := [(0, .slice a n c), (1, .int .i64 (k : Int)), (5, .int .i64 ((i + 1) : Int))]) ⟨rfl, rfl, rfl, trivial⟩ (EW.round (i + 1) ⟨rfl, hO7, by omega, by rw [hm, nextI_on hxx9 h11]⟩ (by omega))
  · -- not: (i : Int) < (n : Int)
    refine CW.no (kb (dF h3)) ?_
    refine CW.exit (EW.then_exit (EW.then_exit (EW.inB_same (EW.then (?_)))))
    refine CW.seq ?_
    refine CW.region ?_
    refine LW.value (.free rfl) rfl (fun _ r => R.move (r.e rfl)) ?_
    refine LW.value (.free rfl) rfl (fun _ r => R.len_slice (r.e rfl) Try.runUnderlying22) ?_
    refine LW.value (.free rfl) rfl (fun _ r => R.assign (r.e rfl)) ?_
    refine LW.nil (EW.then (?_))
    refine CW.ret ?_
    refine EW.ret1 rfl rfl ?_
    exact ⟨by rw [hm, nextI_end (by omega), hl], hO2.pick [0, 0] rfl⟩

set_option maxRecDepth 100000 in
set_option maxHeartbeats 400000 in
theorem e_check (G F : Seg) (a : Option Addr) (n c : Nat) (l : List Ev) (hs : Sl G 8 encE a n c l) (hn : l.length ≤ 1000000) (w : World) (hO : Own w [G, F]) : Calls Try.prog 34 [.slice a n c].toArray w (Ret fun v w' => v = .int .i64 (checkL l) ∧ Own w' [G, F]) := by
  have hl := hs.hlen
  refine enter (n := 66) Try.func34 rfl rfl rfl ?_
  refine CW.seq ?_
  refine CW.region ?_
  refine LW.value (.free rfl) rfl (fun _ r => R.assign (r.e rfl)) ?_
  refine LW.nil (EW.then (?_))
  refine CW.seq ?_
  refine CW.seq ?_
  refine CW.region ?_
  refine LW.value (.free rfl) rfl (fun _ r => R.assign (r.e rfl)) ?_
  refine LW.nil (EW.then (?_))
  refine CW.block ?_
  refine CW.sub (env' := [(0, .slice a n c), (3, .int .i64 (0 : Int))]) ⟨rfl, rfl, trivial⟩ ?_
  refine CW.loop (α := Nat) (fun i env_ w_ => env_ = [(0, .slice a n c), (3, .int .i64 (i : Int))] ∧ Own w_ [G, F] ∧ (i ≤ l.length) ∧ (∀ j e, j < i → l[j]? = some e → okE l j e = true)) (fun i => l.length - i) 0 ⟨rfl, hO, Nat.zero_le _, fun j e hj => by omega⟩ ?_
  rintro i _ w1 ⟨rfl, hO2, hi, hb⟩
  refine CW.seq ?_
  refine CW.seq ?_
  refine CW.region ?_
  refine LW.value (.free rfl) rfl (fun _ r => R.move (r.e rfl)) ?_
  refine LW.value (.free rfl) rfl (fun _ r => R.move (r.e rfl)) ?_
  refine LW.value (.free rfl) rfl (fun _ r => R.len_slice (r.e rfl) Try.runUnderlying22) ?_
  refine LW.value (.free rfl) rfl (fun _ r => R.lss (r.e rfl) (r.e rfl)) ?_
  refine LW.nil (EW.then (?_))
  by_cases h3 : (i : Int) < (n : Int)
  · -- (i : Int) < (n : Int)
    refine CW.yes (kb (dT h3)) ?_
    refine CW.skip (EW.then (?_))
    refine CW.seq ?_
    refine CW.block ?_
    refine CW.seq ?_
    refine CW.seq ?_
    refine HP.start (I := fun w' => Own w' [G, F]) (.take 0 (.take 1 (.take 2 (.take 3 (.take 4 (.take 5 (.take 6 (.take 7 (.take 8 (.take 9 (.take 10 (.take 11 (.take 12 (.take 13 (.take 14 (.take 15 (.take 16 (.take 17 (.take 18 (.take 19 (.take 20 (.take 21 (.one 22 (.take 23 (.take 24 (.take 25 (.take 26 (.done)))))))))))))))))))))))))))) Try.mixed (by intro c d v a w h; cases d <;> exact h) hO2 (by kernel_rfl) ?_
    intro w7 hO8
    have hI9 := hO8.pick [0, 0] rfl
    refine HP.take rfl (.free rfl) rfl hI9 (fun _ r _ hI => R.move (r.e rfl)) ?_
    refine HP.take rfl (.free rfl) rfl hI9 (fun _ r _ hI => R.move (r.e rfl)) ?_
    obtain ⟨x10, hxx10⟩ : ∃ t, (l)[i]? = some t := ⟨_, List.getElem?_eq_getElem (by omega)⟩
    obtain ⟨blx10, olx10, hax10, hcx10⟩ := hs.at_ _ _ hxx10
    refine HP.take rfl (.free rfl) rfl hI9 (fun _ r _ hI => R.indexAddr_o (k := olx10 + i * 8) (r.e rfl) hax10 (r.e rfl) Try.runUnderlying22 Try.sizeOf41 (by omega) (by omega) (by simp)) ?_
    refine HP.take rfl (.free rfl) rfl hI9 (fun _ r _ hI => R.fieldAddr (k := olx10 + i * 8) (r.e rfl) Try.runUnderlying41 rfl Try.sizeOf3 rfl) ?_
    refine HP.take rfl (.free rfl) rfl hI9 (fun _ r _ hI => R.load1 (r.e rfl) Try.isAgg3 (hI.pc (i := 0) rfl (hcx10 0 _ rfl))) ?_
    refine HP.take rfl (.free rfl) rfl hI9 (fun _ r _ hI => R.lss (r.e rfl) (r.e rfl)) ?_
    refine HP.take rfl (.free rfl) rfl hI9 (fun _ r _ hI => R.move (r.e rfl)) ?_
    by_cases h11 : x10.th < 0
    · -- x10.th < 0
      refine HP.takeOff rfl (.no rfl rfl (kb (dT h11))) rfl hI9 ?_
      refine HP.takeOff rfl (.no rfl rfl (kb (dT h11))) rfl hI9 ?_
      refine HP.takeOff rfl (.no rfl rfl (kb (dT h11))) rfl hI9 ?_
      refine HP.takeOff rfl (.no rfl rfl (kb (dT h11))) rfl hI9 ?_
      refine HP.takeOff rfl (.no rfl rfl (kb (dT h11))) rfl hI9 ?_
      refine HP.takeOff rfl (.no rfl rfl (kb (dT h11))) rfl hI9 ?_
      refine HP.take rfl (.free rfl) rfl hI9 (fun _ r _ hI => R.pick_yes (r.e (kb (dT h11))) (r.e rfl)) ?_
      refine HP.take rfl (.free rfl) rfl hI9 (fun _ r _ hI => R.move (r.e rfl)) ?_
      refine HP.takeOff rfl (.no rfl rfl rfl) rfl hI9 ?_
      refine HP.takeOff rfl (.no rfl rfl rfl) rfl hI9 ?_
      refine HP.takeOff rfl (.no rfl rfl rfl) rfl hI9 ?_
      refine HP.takeOff rfl (.no rfl rfl rfl) rfl hI9 ?_
      refine HP.takeOff rfl (.no rfl rfl rfl) rfl hI9 ?_
      refine HP.takeOff rfl (.no rfl rfl rfl) rfl hI9 ?_
      refine HP.takeOff rfl (.no rfl rfl rfl) rfl hI9 ?_
      refine HP.oneOff rfl (.no rfl rfl rfl) rfl hI9 ?_
      refine HP.takeOff rfl (.no rfl rfl rfl) rfl hI9 ?_
      refine HP.takeOff rfl (.no rfl rfl rfl) rfl hI9 ?_
      refine HP.takeOff rfl (.no rfl rfl rfl) rfl hI9 ?_
      refine HP.take rfl (.free rfl) rfl hI9 (fun _ r _ hI => R.pick_yes (r.e rfl) (r.e rfl)) ?_
      refine HP.done (EW.then (?_))
      refine CW.yes rfl ?_
      refine CW.seq ?_
      refine CW.region ?_
      refine LW.value (.free rfl) rfl (fun _ r => R.assign (r.e rfl)) ?_
      refine LW.nil (EW.then (?_))
      refine CW.ret (EW.then_ret (EW.inB_ret (EW.then_ret (EW.then_ret (EW.inB_ret (EW.then_ret (?_)))))))
      refine EW.ret1 rfl rfl ?_
      exact ⟨by rw [checkL_no hxx10 (by simp_all [okE])], hO8.pick [0, 0] rfl⟩
    · -- not: x10.th < 0
      refine HP.take rfl (.yes rfl rfl (kb (dF h11))) rfl hI9 (fun _ r _ hI => R.move (r.e rfl)) ?_
      refine HP.take rfl (.yes rfl rfl (kb (dF h11))) rfl hI9 (fun _ r _ hI => R.move (r.e rfl)) ?_
      obtain ⟨blx10_12, olx10_12, hax10_12, hcx10_12⟩ := hs.at_ _ _ hxx10
      refine HP.take rfl (.yes rfl rfl (kb (dF h11))) rfl hI9 (fun _ r _ hI => R.indexAddr_o (k := olx10_12 + i * 8) (r.e rfl) hax10_12 (r.e rfl) Try.runUnderlying22 Try.sizeOf41 (by omega) (by omega) (by simp)) ?_
      refine HP.take rfl (.yes rfl rfl (kb (dF h11))) rfl hI9 (fun _ r _ hI => R.fieldAddr (k := olx10_12 + i * 8) (r.e rfl) Try.runUnderlying41 rfl Try.sizeOf3 rfl) ?_
      refine HP.take rfl (.yes rfl rfl (kb (dF h11))) rfl hI9 (fun _ r _ hI => R.load1 (r.e rfl) Try.isAgg3 (hI.pc (i := 0) rfl (hcx10_12 0 _ rfl))) ?_
      refine HP.take rfl (.yes rfl rfl (kb (dF h11))) rfl hI9 (fun _ r _ hI => R.gtr (r.e rfl) (r.e rfl)) ?_
      refine HP.take rfl (.free rfl) rfl hI9 (fun _ r _ hI => R.pick_no (r.e (kb (dF h11))) (r.e rfl)) ?_
      refine HP.take rfl (.free rfl) rfl hI9 (fun _ r _ hI => R.move (r.e rfl)) ?_
      by_cases h13 : 3 < x10.th
      · -- 3 < x10.th
        refine HP.takeOff rfl (.no rfl rfl (kb (dT h13))) rfl hI9 ?_
        refine HP.takeOff rfl (.no rfl rfl (kb (dT h13))) rfl hI9 ?_
        refine HP.takeOff rfl (.no rfl rfl (kb (dT h13))) rfl hI9 ?_
        refine HP.takeOff rfl (.no rfl rfl (kb (dT h13))) rfl hI9 ?_
        refine HP.takeOff rfl (.no rfl rfl (kb (dT h13))) rfl hI9 ?_
        refine HP.takeOff rfl (.no rfl rfl (kb (dT h13))) rfl hI9 ?_
        refine HP.takeOff rfl (.no rfl rfl (kb (dT h13))) rfl hI9 ?_
        refine HP.oneOff rfl (.no rfl rfl (kb (dT h13))) rfl hI9 ?_
        refine HP.takeOff rfl (.no rfl rfl (kb (dT h13))) rfl hI9 ?_
        refine HP.takeOff rfl (.no rfl rfl (kb (dT h13))) rfl hI9 ?_
        refine HP.takeOff rfl (.no rfl rfl (kb (dT h13))) rfl hI9 ?_
        refine HP.take rfl (.free rfl) rfl hI9 (fun _ r _ hI => R.pick_yes (r.e (kb (dT h13))) (r.e rfl)) ?_
        refine HP.done (EW.then (?_))
        refine CW.yes rfl ?_
        refine CW.seq ?_
        refine CW.region ?_
        refine LW.value (.free rfl) rfl (fun _ r => R.assign (r.e rfl)) ?_
        refine LW.nil (EW.then (?_))
        refine CW.ret (EW.then_ret (EW.inB_ret (EW.then_ret (EW.then_ret (EW.inB_ret (EW.then_ret (?_)))))))
        refine EW.ret1 rfl rfl ?_
        exact ⟨by rw [checkL_no hxx10 (by simp_all [okE])], hO8.pick [0, 0] rfl⟩
      · -- not: 3 < x10.th
        refine HP.take rfl (.yes rfl rfl (kb (dF h13))) rfl hI9 (fun _ r _ hI => R.move (r.e rfl)) ?_
        refine HP.take rfl (.yes rfl rfl (kb (dF h13))) rfl hI9 (fun _ r _ hI => R.move (r.e rfl)) ?_
        obtain ⟨blx10_14, olx10_14, hax10_14, hcx10_14⟩ := hs.at_ _ _ hxx10
        refine HP.take rfl (.yes rfl rfl (kb (dF h13))) rfl hI9 (fun _ r _ hI => R.indexAddr_o (k := olx10_14 + i * 8) (r.e rfl) hax10_14 (r.e rfl) Try.runUnderlying22 Try.sizeOf41 (by omega) (by omega) (by simp)) ?_
        refine HP.take rfl (.yes rfl rfl (kb (dF h13))) rfl hI9 (fun _ r _ hI => R.fieldAddr (k := olx10_14 + i * 8 + 1) (r.e rfl) Try.runUnderlying41 rfl Try.sizeOf4 rfl) ?_
        refine HP.take rfl (.yes rfl rfl (kb (dF h13))) rfl hI9 (fun _ r _ hI => R.load1 (r.e rfl) Try.isAgg4 (hI.pc (i := 0) rfl (hcx10_14 1 _ rfl))) ?_
        refine HP.take rfl (.yes rfl rfl (kb (dF h13))) rfl hI9 (fun _ r _ hI => R.move (r.e rfl)) ?_
        refine HP.take rfl (.yes rfl rfl (kb (dF h13))) rfl hI9 (fun _ r _ hI => R.move (r.e rfl)) ?_
        refine HP.one rfl (.yes rfl rfl (kb (dF h13))) (OW.calls rfl (fun _ r => R.call (vs := [.slice a n c, .int .i64 (i : Int)]) Try.call56 rfl ⟨r.e rfl, r.e rfl, trivial⟩) (e_turn G _ _ _ _ l hs hn i x10 hxx10 _ (hO8.frame [0] rfl)) ?_)
        rintro _ w15 ⟨rfl, hO16⟩
        replace hO16 := hO16.unframe1
        have hI17 := hO16.pick [0, 0] rfl
        refine ⟨hI17, ?_⟩
        refine HP.take rfl (.yes rfl rfl (kb (dF h13))) rfl hI17 (fun _ r _ hI => R.rem (r.e rfl) (r.e rfl) (by omega)) ?_
        refine HP.take rfl (.yes rfl rfl (kb (dF h13))) rfl hI17 (fun _ r _ hI => R.eql (r.e rfl) (r.e rfl)) ?_
        refine HP.take rfl (.yes rfl rfl (kb (dF h13))) rfl hI17 (fun _ r _ hI => R.neq_bool Try.underlying4 (r.e rfl) (r.e rfl)) ?_
        refine HP.take rfl (.free rfl) rfl hI17 (fun _ r _ hI => R.pick_no (r.e (kb (dF h13))) (r.e rfl)) ?_
        refine HP.done (EW.then (?_))
        by_cases h18 : x10.back = (decide ((turnI l x10.th i : Int).tmod 2 = 1))
        · -- x10.back = (decide ((turnI l x10.th i : Int).tmod 2 = 1))
          refine CW.no (kb (bN (dT h18))) ?_
          refine CW.skip (EW.then (?_))
          refine CW.seq ?_
          refine CW.seq ?_
          refine CW.region ?_
          refine LW.value (.free rfl) rfl (fun _ r => R.move (r.e rfl)) ?_
          refine LW.value (.free rfl) rfl (fun _ r => R.move (r.e rfl)) ?_
          obtain ⟨blx10_19, olx10_19, hax10_19, hcx10_19⟩ := hs.at_ _ _ hxx10
          refine LW.value (.free rfl) rfl (fun _ r => R.indexAddr_o (k := olx10_19 + i * 8) (r.e rfl) hax10_19 (r.e rfl) Try.runUnderlying22 Try.sizeOf41 (by omega) (by omega) (by simp)) ?_
          refine LW.value (.free rfl) rfl (fun _ r => R.fieldAddr (k := olx10_19 + i * 8 + 1) (r.e rfl) Try.runUnderlying41 rfl Try.sizeOf4 rfl) ?_
          refine LW.value (.free rfl) rfl (fun _ r => R.load1 (r.e rfl) Try.isAgg4 (hO16.pc (i := 0) rfl (hcx10_19 1 _ rfl))) ?_
          refine LW.value (.free rfl) rfl (fun _ r => R.move (r.e rfl)) ?_
          rcases Bool.eq_false_or_eq_true x10.back with h20 | h20
          · -- x10.back
            refine LW.value (.yes rfl rfl (kb h20)) rfl (fun _ r => R.move (r.e rfl)) ?_
            refine LW.value (.yes rfl rfl (kb h20)) rfl (fun _ r => R.move (r.e rfl)) ?_
            obtain ⟨blx10_21, olx10_21, hax10_21, hcx10_21⟩ := hs.at_ _ _ hxx10
            refine LW.value (.yes rfl rfl (kb h20)) rfl (fun _ r => R.indexAddr_o (k := olx10_21 + i * 8) (r.e rfl) hax10_21 (r.e rfl) Try.runUnderlying22 Try.sizeOf41 (by omega) (by omega) (by simp)) ?_
            refine LW.value (.yes rfl rfl (kb h20)) rfl (fun _ r => R.fieldAddr (k := olx10_21 + i * 8 + 2) (r.e rfl) Try.runUnderlying41 rfl Try.sizeOf36 rfl) ?_
            refine LW.value (.yes rfl rfl (kb h20)) rfl (fun _ r => R.loadn (vs := [.int .i64 x10.d, .int .i64 x10.h, .int .i64 x10.off, .int .i64 x10.n]) (r.e rfl) Try.isAgg36 Try.sizeOf36 rfl (fun j v hj => hO16.pc (i := 0) rfl (by have h := hcx10_21 (2 + j) v (take_get (o := 2) (m := 4) hj); simpa [Nat.add_assoc] using h))) ?_
            refine LW.value (.yes rfl rfl (kb h20)) rfl (fun _ r => R.build (v := .agg #[.int .i64 0, .int .i64 0, .int .i64 0, .int .i64 0]) (vs := []) trivial (by simp [go_sem])) ?_
            refine LW.value (.yes rfl rfl (kb h20)) rfl (fun _ r => eq36_neq (r.e rfl) (r.e rfl)) ?_
            refine LW.value (.free rfl) rfl (fun _ r => R.pick_yes (r.e (kb h20)) (r.e rfl)) ?_
            refine LW.nil (EW.then (?_))
            by_cases h22 : x10.d = 0 ∧ x10.h = 0 ∧ x10.off = 0 ∧ x10.n = 0
            · -- x10.d = 0 ∧ x10.h = 0 ∧ x10.off = 0 ∧ x10.n = 0
              refine CW.no (kb (bN (dT h22))) ?_
              refine CW.skip (EW.then (?_))
              refine CW.seq ?_
              refine CW.region ?_
              refine LW.value (.free rfl) rfl (fun _ r => R.move (r.e rfl)) ?_
              refine LW.value (.free rfl) rfl (fun _ r => R.move (r.e rfl)) ?_
              obtain ⟨blx10_23, olx10_23, hax10_23, hcx10_23⟩ := hs.at_ _ _ hxx10
              refine LW.value (.free rfl) rfl (fun _ r => R.indexAddr_o (k := olx10_23 + i * 8) (r.e rfl) hax10_23 (r.e rfl) Try.runUnderlying22 Try.sizeOf41 (by omega) (by omega) (by simp)) ?_
              refine LW.value (.free rfl) rfl (fun _ r => R.fieldAddr (k := olx10_23 + i * 8 + 1) (r.e rfl) Try.runUnderlying41 rfl Try.sizeOf4 rfl) ?_
              refine LW.value (.free rfl) rfl (fun _ r => R.load1 (r.e rfl) Try.isAgg4 (hO16.pc (i := 0) rfl (hcx10_23 1 _ rfl))) ?_
              refine LW.value (.free rfl) rfl (fun _ r => R.not (r.e rfl)) ?_
              refine LW.value (.free rfl) rfl (fun _ r => R.move (r.e rfl)) ?_
              refine LW.off (.no rfl rfl (kb (bN h20))) rfl ?_
              refine LW.off (.no rfl rfl (kb (bN h20))) rfl ?_
              refine LW.off (.no rfl rfl (kb (bN h20))) rfl ?_
              refine LW.off (.no rfl rfl (kb (bN h20))) rfl ?_
              refine LW.off (.no rfl rfl (kb (bN h20))) rfl ?_
              refine LW.off (.no rfl rfl (kb (bN h20))) rfl ?_
              refine LW.off (.no rfl rfl (kb (bN h20))) rfl ?_
              refine LW.value (.free rfl) rfl (fun _ r => R.pick_no (r.e (kb (bN h20))) (r.e rfl)) ?_
              refine LW.nil (EW.then (?_))
              refine CW.no rfl ?_
              refine CW.skip (EW.inB_normal (EW.then (?_)))
              refine CW.region ?_
              refine LW.value (.free rfl) rfl (fun _ r => R.move (r.e rfl)) ?_
              refine LW.value (.free rfl) rfl (fun _ r => R.as (R.add (r.e rfl) (r.e rfl)) (congrArg (Value.int .i64) (wrap_i64 (by omega) (by omega)))) ?_
              refine LW.value (.free rfl) rfl (fun _ r => R.assign (r.e rfl)) ?_
              refine LW.nil ?_
              exact EW.sub (env' := [(0, .slice a n c), (3, .int .i64 ((i + 1) : Int))]) ⟨rfl, rfl, trivial⟩ (EW.round (i + 1) ⟨rfl, hO16, by omega, fun j u hj hu => by
                  rcases Nat.lt_succ_iff_lt_or_eq.1 hj with hj | rfl
                  · exact hb j u hj hu
                  · rw [hxx10] at hu; cases hu; simp_all [okE]⟩ (by omega))
            · -- not: x10.d = 0 ∧ x10.h = 0 ∧ x10.off = 0 ∧ x10.n = 0
              refine CW.yes (kb (bN (dF h22))) ?_
              refine CW.seq ?_
              refine CW.region ?_
              refine LW.value (.free rfl) rfl (fun _ r => R.assign (r.e rfl)) ?_
              refine LW.nil (EW.then (?_))
              refine CW.ret (EW.then_ret (EW.inB_ret (EW.then_ret (EW.then_ret (EW.inB_ret (EW.then_ret (?_)))))))
              refine EW.ret1 rfl rfl ?_
              exact ⟨by rw [checkL_no hxx10 (by simp_all [okE])], hO16.pick [0, 0] rfl⟩
          · -- not: x10.back
            refine LW.off (.no rfl rfl (kb h20)) rfl ?_
            refine LW.off (.no rfl rfl (kb h20)) rfl ?_
            refine LW.off (.no rfl rfl (kb h20)) rfl ?_
            refine LW.off (.no rfl rfl (kb h20)) rfl ?_
            refine LW.off (.no rfl rfl (kb h20)) rfl ?_
            refine LW.off (.no rfl rfl (kb h20)) rfl ?_
            refine LW.off (.no rfl rfl (kb h20)) rfl ?_
            refine LW.value (.free rfl) rfl (fun _ r => R.pick_no (r.e (kb h20)) (r.e rfl)) ?_
            refine LW.nil (EW.then (?_))
            refine CW.no rfl ?_
            refine CW.skip (EW.then (?_))
            refine CW.seq ?_
            refine CW.region ?_
            refine LW.value (.free rfl) rfl (fun _ r => R.move (r.e rfl)) ?_
            refine LW.value (.free rfl) rfl (fun _ r => R.move (r.e rfl)) ?_
            obtain ⟨blx10_24, olx10_24, hax10_24, hcx10_24⟩ := hs.at_ _ _ hxx10
            refine LW.value (.free rfl) rfl (fun _ r => R.indexAddr_o (k := olx10_24 + i * 8) (r.e rfl) hax10_24 (r.e rfl) Try.runUnderlying22 Try.sizeOf41 (by omega) (by omega) (by simp)) ?_
            refine LW.value (.free rfl) rfl (fun _ r => R.fieldAddr (k := olx10_24 + i * 8 + 1) (r.e rfl) Try.runUnderlying41 rfl Try.sizeOf4 rfl) ?_
            refine LW.value (.free rfl) rfl (fun _ r => R.load1 (r.e rfl) Try.isAgg4 (hO16.pc (i := 0) rfl (hcx10_24 1 _ rfl))) ?_
            refine LW.value (.free rfl) rfl (fun _ r => R.not (r.e rfl)) ?_
            refine LW.value (.free rfl) rfl (fun _ r => R.move (r.e rfl)) ?_
            refine LW.value (.yes rfl rfl (kb (bN h20))) rfl (fun _ r => R.move (r.e rfl)) ?_
            refine LW.value (.yes rfl rfl (kb (bN h20))) rfl (fun _ r => R.move (r.e rfl)) ?_
            obtain ⟨blx10_25, olx10_25, hax10_25, hcx10_25⟩ := hs.at_ _ _ hxx10
            refine LW.value (.yes rfl rfl (kb (bN h20))) rfl (fun _ r => R.indexAddr_o (k := olx10_25 + i * 8) (r.e rfl) hax10_25 (r.e rfl) Try.runUnderlying22 Try.sizeOf41 (by omega) (by omega) (by simp)) ?_
            refine LW.value (.yes rfl rfl (kb (bN h20))) rfl (fun _ r => R.fieldAddr (k := olx10_25 + i * 8 + 6) (r.e rfl) Try.runUnderlying41 rfl Try.sizeOf39 rfl) ?_
            refine LW.value (.yes rfl rfl (kb (bN h20))) rfl (fun _ r => R.loadn (vs := [.int .i64 x10.code, .int .i64 x10.num]) (r.e rfl) Try.isAgg39 Try.sizeOf39 rfl (fun j v hj => hO16.pc (i := 0) rfl (by have h := hcx10_25 (6 + j) v (take_get (o := 6) (m := 2) hj); simpa [Nat.add_assoc] using h))) ?_
            refine LW.value (.yes rfl rfl (kb (bN h20))) rfl (fun _ r => R.build (v := .agg #[.int .i64 0, .int .i64 0]) (vs := []) trivial (by simp [go_sem])) ?_
            refine LW.value (.yes rfl rfl (kb (bN h20))) rfl (fun _ r => eq39_neq (r.e rfl) (r.e rfl)) ?_
            refine LW.value (.free rfl) rfl (fun _ r => R.pick_yes (r.e (kb (bN h20))) (r.e rfl)) ?_
            refine LW.nil (EW.then (?_))
            by_cases h26 : x10.code = 0 ∧ x10.num = 0
            · -- x10.code = 0 ∧ x10.num = 0
              refine CW.no (kb (bN (dT h26))) ?_
              refine CW.skip (EW.inB_normal (EW.then (?_)))
              refine CW.region ?_
              refine LW.value (.free rfl) rfl (fun _ r => R.move (r.e rfl)) ?_
              refine LW.value (.free rfl) rfl (fun _ r => R.as (R.add (r.e rfl) (r.e rfl)) (congrArg (Value.int .i64) (wrap_i64 (by omega) (by omega)))) ?_
              refine LW.value (.free rfl) rfl (fun _ r => R.assign (r.e rfl)) ?_
              refine LW.nil ?_
              exact EW.sub (env' := [(0, .slice a n c), (3, .int .i64 ((i + 1) : Int))]) ⟨rfl, rfl, trivial⟩ (EW.round (i + 1) ⟨rfl, hO16, by omega, fun j u hj hu => by
                  rcases Nat.lt_succ_iff_lt_or_eq.1 hj with hj | rfl
                  · exact hb j u hj hu
                  · rw [hxx10] at hu; cases hu; simp_all [okE]⟩ (by omega))
            · -- not: x10.code = 0 ∧ x10.num = 0
              refine CW.yes (kb (bN (dF h26))) ?_
              refine CW.seq ?_
              refine CW.region ?_
              refine LW.value (.free rfl) rfl (fun _ r => R.assign (r.e rfl)) ?_
              refine LW.nil (EW.then (?_))
              refine CW.ret (EW.inB_ret (EW.then_ret (EW.then_ret (EW.inB_ret (EW.then_ret (?_))))))
              refine EW.ret1 rfl rfl ?_
              exact ⟨by rw [checkL_no hxx10 (by simp_all [okE])], hO16.pick [0, 0] rfl⟩
        · -- not: x10.back = (decide ((turnI l x10.th i : Int).tmod 2 = 1))
          refine CW.yes (kb (bN (dF h18))) ?_
          refine CW.seq ?_
          refine CW.region ?_
          refine LW.value (.free rfl) rfl (fun _ r => R.assign (r.e rfl)) ?_
          refine LW.nil (EW.then (?_))
          refine CW.ret (EW.then_ret (EW.inB_ret (EW.then_ret (EW.then_ret (EW.inB_ret (EW.then_ret (?_)))))))
          refine EW.ret1 rfl rfl ?_
          exact ⟨by rw [checkL_no hxx10 (by simp_all [okE])], hO16.pick [0, 0] rfl⟩
  · -- not: (i : Int) < (n : Int)
    refine CW.no (kb (dF h3)) ?_
    refine CW.exit (EW.then_exit (EW.then_exit (EW.inB_same (EW.then (?_)))))
    refine CW.seq ?_
    refine CW.region ?_
    refine LW.value (.free rfl) rfl (fun _ r => R.assign (r.e rfl)) ?_
    refine LW.nil (EW.then (?_))
    refine CW.ret ?_
    refine EW.ret1 rfl rfl ?_
    exact ⟨by rw [checkL_yes (fun j e hj => hb j e (by omega))], hO2.pick [0, 0] rfl⟩

theorem elemCal : ElemT Try.prog 47 70 10 80 (.agg #[.int .i64 0, .int .i64 0, .int .i64 0, .int .i64 0, .int .i64 0, .int .i64 0, .int .i64 0, .bool false, .int .i64 0, .int .i64 0]) := ⟨Try.underlying47, ⟨Try.t70, by kernel_rfl, rfl, rfl, rfl⟩, by decide, rfl⟩

set_option maxRecDepth 100000 in
set_option maxHeartbeats 4000000 in
theorem e_calls (G F : Seg) (a : Option Addr) (n c : Nat) (l : List Ev) (hs : Sl G 8 encE a n c l) (hn : l.length ≤ 1000000) (w : World) (hO : Own w [G, F]) : Calls Try.prog 16 [.slice a n c].toArray w (Ret fun v w' => ∃ u s, v = .tuple #[u, .int .i64 (checkL l)] ∧ Grow 70 10 encL u s (if checkL l = 0 then callsI l l.length else []) ∧ Own w' [s, G, F]) := by
  have hl := hs.hlen
  refine enter (n := 54) Try.func16 rfl rfl rfl ?_
  refine CW.seq ?_
  refine CW.region ?_
  refine LW.value (.free rfl) rfl (fun _ r => R.assign (r.e rfl)) ?_
  refine LW.value (.free rfl) rfl (fun _ r => R.assign (r.e rfl)) ?_
  refine LW.nil (EW.then (?_))
  refine CW.seq ?_
  refine CW.seq ?_
  refine CW.region ?_
  refine LW.value (.free rfl) rfl (fun _ r => R.move (r.e rfl)) ?_
  refine LW.op (.free rfl) (OW.calls rfl (fun _ r => R.call (vs := [.slice a n c]) Try.call34 rfl ⟨r.e rfl, trivial⟩) (e_check G _ _ _ _ l hs hn _ (hO.frame [0] rfl)) ?_)
  rintro _ w1 ⟨rfl, hO2⟩
  replace hO2 := hO2.unframe1
  refine LW.value (.free rfl) rfl (fun _ r => R.neq (r.e rfl) (r.e rfl)) ?_
  refine LW.nil (EW.then (?_))
  by_cases h3 : (checkL l) = 0
  · -- (checkL l) = 0
    refine CW.no (kb (bN (dT h3))) ?_
    refine CW.skip (EW.then (?_))
    refine CW.seq ?_
    refine CW.region ?_
    refine LW.value (.free rfl) rfl (fun _ r => R.assign (r.e rfl)) ?_
    refine LW.nil (EW.then (?_))
    refine CW.seq ?_
    refine CW.seq ?_
    refine CW.region ?_
    refine LW.value (.free rfl) rfl (fun _ r => R.assign (r.e rfl)) ?_
    refine LW.nil (EW.then (?_))
    refine CW.block ?_
    refine CW.sub (env' := [(0, .slice a n c), (4, (.slice none 0 0)), (5, .int .i64 (0 : Int))]) ⟨rfl, rfl, rfl, trivial⟩ ?_
    refine CW.loop (α := Nat × Value × Seg) (fun (x_ : Nat × Value × Seg) env_ w_ => ∃ i v s, x_ = (i, v, s) ∧ env_ = [(0, .slice a n c), (4, v), (5, .int .i64 (i : Int))] ∧ Own w_ [s, G, F] ∧ (i ≤ l.length) ∧ (Grow 70 10 encL v s (callsI l i))) (fun (x_ : Nat × Value × Seg) => l.length - x_.1) (0, .slice none 0 0, []) ⟨0, .slice none 0 0, [], rfl, rfl, (hO2.pick [0, 0] rfl).nil, Nat.zero_le _, Grow.start⟩ ?_
    rintro _ _ w4 ⟨i, v, s, rfl, rfl, hO5, hi, hg⟩
    have hcl := callsI_len l i
    refine CW.seq ?_
    refine CW.seq ?_
    refine CW.region ?_
    refine LW.value (.free rfl) rfl (fun _ r => R.move (r.e rfl)) ?_
    refine LW.value (.free rfl) rfl (fun _ r => R.move (r.e rfl)) ?_
    refine LW.value (.free rfl) rfl (fun _ r => R.len_slice (r.e rfl) Try.runUnderlying22) ?_
    refine LW.value (.free rfl) rfl (fun _ r => R.lss (r.e rfl) (r.e rfl)) ?_
    refine LW.nil (EW.then (?_))
    by_cases h6 : (i : Int) < (n : Int)
    · -- (i : Int) < (n : Int)
      refine CW.yes (kb (dT h6)) ?_
      refine CW.skip (EW.then (?_))
      refine CW.seq ?_
      refine CW.block ?_
      refine CW.seq ?_
      refine CW.seq ?_
      refine CW.region ?_
      refine LW.value (.free rfl) rfl (fun _ r => R.move (r.e rfl)) ?_
      refine LW.value (.free rfl) rfl (fun _ r => R.move (r.e rfl)) ?_
      obtain ⟨x7, hxx7⟩ : ∃ t, (l)[i]? = some t := ⟨_, List.getElem?_eq_getElem (by omega)⟩
      obtain ⟨blx7, olx7, hax7, hcx7⟩ := hs.at_ _ _ hxx7
      refine LW.value (.free rfl) rfl (fun _ r => R.indexAddr_o (k := olx7 + i * 8) (r.e rfl) hax7 (r.e rfl) Try.runUnderlying22 Try.sizeOf41 (by omega) (by omega) (by simp)) ?_
      refine LW.value (.free rfl) rfl (fun _ r => R.fieldAddr (k := olx7 + i * 8 + 1) (r.e rfl) Try.runUnderlying41 rfl Try.sizeOf4 rfl) ?_
      refine LW.value (.free rfl) rfl (fun _ r => R.load1 (r.e rfl) Try.isAgg4 (hO5.pc (i := 1) rfl (hcx7 1 _ rfl))) ?_
      refine LW.nil (EW.then (?_))
      rcases Bool.eq_false_or_eq_true x7.back with h8 | h8
      · -- x7.back
        refine CW.yes (kb h8) ?_
        refine CW.exit (EW.then_exit (EW.inB_same (EW.then (?_))))
        refine CW.region ?_
        refine LW.value (.free rfl) rfl (fun _ r => R.move (r.e rfl)) ?_
        refine LW.value (.free rfl) rfl (fun _ r => R.as (R.add (r.e rfl) (r.e rfl)) (congrArg (Value.int .i64) (wrap_i64 (by omega) (by omega)))) ?_
        refine LW.value (.free rfl) rfl (fun _ r => R.assign (r.e rfl)) ?_
        refine LW.nil ?_
        exact EW.sub (env' := [(0, .slice a n c), (4, v), (5, .int .i64 ((i + 1) : Int))]) ⟨rfl, rfl, rfl, trivial⟩ (EW.round (i + 1, v, s) ⟨i + 1, v, s, rfl, rfl, hO5.pick [0, 0, 0] rfl, by omega, by rw [callsI_back hxx7 h8]; exact hg⟩ (by dsimp only; omega))
      · -- not: x7.back
        refine CW.no (kb h8) ?_
        refine CW.skip (EW.then (?_))
        refine CW.seq ?_
        refine HP.start (I := fun w' => Own w' [G, F]) (.take 0 (.take 1 (.take 2 (.take 3 (.take 4 (.take 5 (.take 6 (.take 7 (.take 8 (.take 9 (.take 10 (.take 11 (.take 12 (.two 13 15 (.take 14 (.one 15 (.one 16 (.done)))) (.one 13 (.take 14 (.one 16 (.done)))))))))))))))))) Try.mixed (by intro c d v a w h; cases d <;> exact h) hO5 (by kernel_rfl) ?_
        intro w11 hO12
        have hI13 := hO12.pick [1, 1] rfl
        refine HP.take rfl (.free rfl) rfl hI13 (fun _ r _ hI => R.move (r.e rfl)) ?_
        refine HP.take rfl (.free rfl) rfl hI13 (fun _ r _ hI => R.move (r.e rfl)) ?_
        obtain ⟨blx7_14, olx7_14, hax7_14, hcx7_14⟩ := hs.at_ _ _ hxx7
        refine HP.take rfl (.free rfl) rfl hI13 (fun _ r _ hI => R.indexAddr_o (k := olx7_14 + i * 8) (r.e rfl) hax7_14 (r.e rfl) Try.runUnderlying22 Try.sizeOf41 (by omega) (by omega) (by simp)) ?_
        refine HP.take rfl (.free rfl) rfl hI13 (fun _ r _ hI => R.fieldAddr (k := olx7_14 + i * 8) (r.e rfl) Try.runUnderlying41 rfl Try.sizeOf3 rfl) ?_
        refine HP.take rfl (.free rfl) rfl hI13 (fun _ r _ hI => R.load1 (r.e rfl) Try.isAgg3 (hI.pc (i := 0) rfl (hcx7_14 0 _ rfl))) ?_
        refine HP.take rfl (.free rfl) rfl hI13 (fun _ r _ hI => R.move (r.e rfl)) ?_
        refine HP.take rfl (.free rfl) rfl hI13 (fun _ r _ hI => R.move (r.e rfl)) ?_
        obtain ⟨blx7_15, olx7_15, hax7_15, hcx7_15⟩ := hs.at_ _ _ hxx7
        refine HP.take rfl (.free rfl) rfl hI13 (fun _ r _ hI => R.indexAddr_o (k := olx7_15 + i * 8) (r.e rfl) hax7_15 (r.e rfl) Try.runUnderlying22 Try.sizeOf41 (by omega) (by omega) (by simp)) ?_
        refine HP.take rfl (.free rfl) rfl hI13 (fun _ r _ hI => R.fieldAddr (k := olx7_15 + i * 8 + 2) (r.e rfl) Try.runUnderlying41 rfl Try.sizeOf36 rfl) ?_
        refine HP.take rfl (.free rfl) rfl hI13 (fun _ r _ hI => R.loadn (vs := [.int .i64 x7.d, .int .i64 x7.h, .int .i64 x7.off, .int .i64 x7.n]) (r.e rfl) Try.isAgg36 Try.sizeOf36 rfl (fun j v hj => hI.pc (i := 0) rfl (by have h := hcx7_15 (2 + j) v (take_get (o := 2) (m := 4) hj); simpa [Nat.add_assoc] using h))) ?_
        refine HP.take rfl (.free rfl) rfl hI13 (fun _ r _ hI => R.move (r.e rfl)) ?_
        refine HP.take rfl (.free rfl) rfl hI13 (fun _ r _ hI => R.move (r.e rfl)) ?_
        refine HP.take rfl (.free rfl) rfl hI13 (fun _ r _ hI => R.move (r.e rfl)) ?_
        refine HP.two rfl rfl (.free rfl) (.free rfl) ?_ ?_
        ·
          obtain ⟨k18, hk19⟩ : ∃ k, nextI l x7.th (i + 1) = k := ⟨_, rfl⟩
          refine OW.calls rfl (fun _ r => R.call (vs := [.slice a n c, .int .i64 (i : Int)]) Try.call35 rfl ⟨r.e rfl, r.e rfl, trivial⟩) (e_answer G _ _ _ _ l hs hn i x7 hxx7 _ (hO12.frame [1] rfl)) ?_
          rw [hk19]
          rintro _ w16 ⟨rfl, hO17⟩
          replace hO17 := hO17.unframe1
          have hI20 := hO17.pick [0, 1] rfl
          refine ⟨hI20, ?_⟩
          refine HP.take rfl (.free rfl) rfl hI20 (fun _ r _ hI => R.build (v := .agg #[.int .i64 x7.th, .int .i64 x7.d, .int .i64 x7.h, .int .i64 x7.off, .int .i64 x7.n, .int .i64 0, .int .i64 0, .bool false, .int .i64 (i : Int), .int .i64 (k18 : Int)]) (vs := [(0, .int .i64 x7.th), (1, .agg #[.int .i64 x7.d, .int .i64 x7.h, .int .i64 x7.off, .int .i64 x7.n]), (4, .int .i64 (i : Int)), (5, .int .i64 (k18 : Int))]) ⟨⟨r.e rfl, rfl⟩, ⟨r.e rfl, rfl⟩, ⟨r.e rfl, rfl⟩, ⟨r.e rfl, rfl⟩, trivial⟩ (by simp [go_sem])) ?_
          refine HP.one rfl (.free rfl) (OW.alloc (cs := #[.int .i64 0, .int .i64 0, .int .i64 0, .int .i64 0, .int .i64 0, .int .i64 0, .int .i64 0, .bool false, .int .i64 0, .int .i64 0]) rfl hO17 Try.zeroValue70 rfl ?_)
          intro b21 w22 hO23
          have hI24 := hO23.pick [1, 2] rfl
          refine ⟨hI24, ?_⟩
          refine HP.one rfl (.free rfl) (OW.storeall (i := 0) (vs := [.int .i64 x7.th, .int .i64 x7.d, .int .i64 x7.h, .int .i64 x7.off, .int .i64 x7.n, .int .i64 0, .int .i64 0, .bool false, .int .i64 (i : Int), .int .i64 (k18 : Int)]) rfl hO23 rfl rfl rfl rfl Try.sizeOf70 rfl ?_)
          intro w25 hO26
          have hI27 := hO26.pick [1, 2] rfl
          refine ⟨hI27, ?_⟩
          refine HP.done (EW.then (?_))
          refine CW.seq ?_
          refine CW.seq ?_
          refine CW.region ?_
          refine LW.value (.free rfl) rfl (fun _ r => R.fieldAddr (k := 9) (r.e rfl) Try.runUnderlying70 rfl Try.sizeOf3 rfl) ?_
          refine LW.value (.free rfl) rfl (fun _ r => R.load1 (r.e rfl) Try.isAgg3 (hO26.cell (i := 0) rfl rfl)) ?_
          refine LW.value (.free rfl) rfl (fun _ r => R.move (r.e rfl)) ?_
          refine LW.value (.free rfl) rfl (fun _ r => R.len_slice (r.e rfl) Try.runUnderlying22) ?_
          refine LW.value (.free rfl) rfl (fun _ r => R.lss (r.e rfl) (r.e rfl)) ?_
          refine LW.nil (EW.then (?_))
          by_cases h28 : (k18 : Int) < (n : Int)
          · -- (k18 : Int) < (n : Int)
            refine CW.yes (kb (dT h28)) ?_
            refine CW.seq ?_
            refine CW.region ?_
            refine LW.value (.free rfl) rfl (fun _ r => R.fieldAddr (k := 7) (r.e rfl) Try.runUnderlying70 rfl Try.sizeOf4 rfl) ?_
            refine LW.op (.free rfl) (OW.store (i := 0) rfl hO26 rfl rfl rfl rfl Try.sizeOf4 rfl ?_)
            intro w29 hO30
            refine LW.nil (EW.then (?_))
            refine CW.region ?_
            refine LW.value (.free rfl) rfl (fun _ r => R.move (r.e rfl)) ?_
            refine LW.value (.free rfl) rfl (fun _ r => R.fieldAddr (k := 9) (r.e rfl) Try.runUnderlying70 rfl Try.sizeOf3 rfl) ?_
            refine LW.value (.free rfl) rfl (fun _ r => R.load1 (r.e rfl) Try.isAgg3 (hO30.cell (i := 0) rfl rfl)) ?_
            obtain ⟨x31, hxx31⟩ : ∃ t, (l)[k18]? = some t := ⟨_, List.getElem?_eq_getElem (by omega)⟩
            obtain ⟨blx31, olx31, hax31, hcx31⟩ := hs.at_ _ _ hxx31
            refine LW.value (.free rfl) rfl (fun _ r => R.indexAddr_o (k := olx31 + k18 * 8) (r.e rfl) hax31 (r.e rfl) Try.runUnderlying22 Try.sizeOf41 (by omega) (by omega) (by simp)) ?_
            refine LW.value (.free rfl) rfl (fun _ r => R.fieldAddr (k := olx31 + k18 * 8 + 6) (r.e rfl) Try.runUnderlying41 rfl Try.sizeOf39 rfl) ?_
            refine LW.value (.free rfl) rfl (fun _ r => R.loadn (vs := [.int .i64 x31.code, .int .i64 x31.num]) (r.e rfl) Try.isAgg39 Try.sizeOf39 rfl (fun j v hj => hO30.pc (i := 1) rfl (by have h := hcx31 (6 + j) v (take_get (o := 6) (m := 2) hj); simpa [Nat.add_assoc] using h))) ?_
            refine LW.value (.free rfl) rfl (fun _ r => R.fieldAddr (k := 5) (r.e rfl) Try.runUnderlying70 rfl Try.sizeOf39 rfl) ?_
            refine LW.op (.free rfl) (OW.storen (i := 0) (vs := [.int .i64 x31.code, .int .i64 x31.num]) rfl hO30 rfl rfl rfl rfl Try.sizeOf39 rfl ?_)
            intro w32 hO33
            refine LW.nil (EW.then (?_))
            refine CW.region ?_
            refine LW.value (.free rfl) rfl (fun _ r => R.move (r.e rfl)) ?_
            refine LW.value (.free rfl) rfl (fun _ r => R.loadn (vs := [.int .i64 x7.th, .int .i64 x7.d, .int .i64 x7.h, .int .i64 x7.off, .int .i64 x7.n, .int .i64 x31.code, .int .i64 x31.num, .bool true, .int .i64 (i : Int), .int .i64 (k18 : Int)]) (r.e rfl) Try.isAgg70 Try.sizeOf70 rfl (hO33.cells (i := 0) rfl rfl)) ?_
            refine LW.op (.free rfl) (OW.buildSlice (cs := #[.int .i64 x7.th, .int .i64 x7.d, .int .i64 x7.h, .int .i64 x7.off, .int .i64 x7.n, .int .i64 x31.code, .int .i64 x31.num, .bool true, .int .i64 (i : Int), .int .i64 (k18 : Int)]) (e := 70) (vs := [(0, .agg #[.int .i64 x7.th, .int .i64 x7.d, .int .i64 x7.h, .int .i64 x7.off, .int .i64 x7.n, .int .i64 x31.code, .int .i64 x31.num, .bool true, .int .i64 (i : Int), .int .i64 (k18 : Int)])]) rfl hO33 (fun _ r => ⟨⟨r.e rfl, rfl⟩, trivial⟩) (fun _ => by simp [go_sem, Instr.buildSlice, newRow]) ?_)
            intro b34 w35 hO36
            have hO37 := hO36.move [3] rfl
            refine LW.op (.free rfl) (OW.append (xs := (callsI l i)) (ys := [(⟨x7.th, x7.d, x7.h, x7.off, x7.n, x31.code, x31.num, true, (i : Int), (k18 : Int)⟩ : Cal)]) elemCal rfl hO37 rfl rfl hg (fun _ _ => rfl) (fun _ _ => rfl) rfl (fun _ => src (i := 1) hO37 rfl rfl) (by simp; omega) (by simp; omega) (by decide) ?_)
            intro v38 s39 w40 hO41 hg42
            refine LW.value (.free rfl) rfl (fun _ r => R.assign (r.e rfl)) ?_
            refine LW.nil (EW.inB_normal (EW.then (?_)))
            refine CW.region ?_
            refine LW.value (.free rfl) rfl (fun _ r => R.move (r.e rfl)) ?_
            refine LW.value (.free rfl) rfl (fun _ r => R.as (R.add (r.e rfl) (r.e rfl)) (congrArg (Value.int .i64) (wrap_i64 (by omega) (by omega)))) ?_
            refine LW.value (.free rfl) rfl (fun _ r => R.assign (r.e rfl)) ?_
            refine LW.nil ?_
            exact EW.sub (env' := [(0, .slice a n c), (4, v38), (5, .int .i64 ((i + 1) : Int))]) ⟨rfl, rfl, rfl, trivial⟩ (EW.round (i + 1, v38, s39) ⟨i + 1, v38, s39, rfl, rfl, hO41.pick [0, 2, 2] rfl, by omega, by rw [callsI_call hxx7 h8, callOf_done hk19 hxx31]; exact hg42⟩ (by dsimp only; omega))
          · -- not: (k18 : Int) < (n : Int)
            refine CW.no (kb (dF h28)) ?_
            refine CW.skip (EW.then (?_))
            refine CW.region ?_
            refine LW.value (.free rfl) rfl (fun _ r => R.move (r.e rfl)) ?_
            refine LW.value (.free rfl) rfl (fun _ r => R.loadn (vs := [.int .i64 x7.th, .int .i64 x7.d, .int .i64 x7.h, .int .i64 x7.off, .int .i64 x7.n, .int .i64 0, .int .i64 0, .bool false, .int .i64 (i : Int), .int .i64 (k18 : Int)]) (r.e rfl) Try.isAgg70 Try.sizeOf70 rfl (hO26.cells (i := 0) rfl rfl)) ?_
            refine LW.op (.free rfl) (OW.buildSlice (cs := #[.int .i64 x7.th, .int .i64 x7.d, .int .i64 x7.h, .int .i64 x7.off, .int .i64 x7.n, .int .i64 0, .int .i64 0, .bool false, .int .i64 (i : Int), .int .i64 (k18 : Int)]) (e := 70) (vs := [(0, .agg #[.int .i64 x7.th, .int .i64 x7.d, .int .i64 x7.h, .int .i64 x7.off, .int .i64 x7.n, .int .i64 0, .int .i64 0, .bool false, .int .i64 (i : Int), .int .i64 (k18 : Int)])]) rfl hO26 (fun _ r => ⟨⟨r.e rfl, rfl⟩, trivial⟩) (fun _ => by simp [go_sem, Instr.buildSlice, newRow]) ?_)
            intro b43 w44 hO45
            have hO46 := hO45.move [3] rfl
            refine LW.op (.free rfl) (OW.append (xs := (callsI l i)) (ys := [(⟨x7.th, x7.d, x7.h, x7.off, x7.n, 0, 0, false, (i : Int), (k18 : Int)⟩ : Cal)]) elemCal rfl hO46 rfl rfl hg (fun _ _ => rfl) (fun _ _ => rfl) rfl (fun _ => src (i := 1) hO46 rfl rfl) (by simp; omega) (by simp; omega) (by decide) ?_)
            intro v47 s48 w49 hO50 hg51
            refine LW.value (.free rfl) rfl (fun _ r => R.assign (r.e rfl)) ?_
            refine LW.nil (EW.inB_normal (EW.then (?_)))
            refine CW.region ?_
            refine LW.value (.free rfl) rfl (fun _ r => R.move (r.e rfl)) ?_
            refine LW.value (.free rfl) rfl (fun _ r => R.as (R.add (r.e rfl) (r.e rfl)) (congrArg (Value.int .i64) (wrap_i64 (by omega) (by omega)))) ?_
            refine LW.value (.free rfl) rfl (fun _ r => R.assign (r.e rfl)) ?_
            refine LW.nil ?_
            exact EW.sub (env' := [(0, .slice a n c), (4, v47), (5, .int .i64 ((i + 1) : Int))]) ⟨rfl, rfl, rfl, trivial⟩ (EW.round (i + 1, v47, s48) ⟨i + 1, v47, s48, rfl, rfl, hO50.pick [0, 2, 2] rfl, by omega, by rw [callsI_call hxx7 h8, callOf_open hk19 (by omega)]; exact hg51⟩ (by dsimp only; omega))
        ·
          refine OW.alloc (cs := #[.int .i64 0, .int .i64 0, .int .i64 0, .int .i64 0, .int .i64 0, .int .i64 0, .int .i64 0, .bool false, .int .i64 0, .int .i64 0]) rfl hO12 Try.zeroValue70 rfl ?_
          intro b52 w53 hO54
          have hI55 := hO54.pick [2, 2] rfl
          refine ⟨hI55, ?_⟩
          obtain ⟨k58, hk59⟩ : ∃ k, nextI l x7.th (i + 1) = k := ⟨_, rfl⟩
          refine HP.one rfl (.free rfl) (OW.calls rfl (fun _ r => R.call (vs := [.slice a n c, .int .i64 (i : Int)]) Try.call35 rfl ⟨r.e rfl, r.e rfl, trivial⟩) (e_answer G _ _ _ _ l hs hn i x7 hxx7 _ (hO54.frame [2] rfl)) ?_)
          rw [hk59]
          rintro _ w56 ⟨rfl, hO57⟩
          replace hO57 := hO57.unframe1
          have hI60 := hO57.pick [0, 2] rfl
          refine ⟨hI60, ?_⟩
          refine HP.take rfl (.free rfl) rfl hI60 (fun _ r _ hI => R.build (v := .agg #[.int .i64 x7.th, .int .i64 x7.d, .int .i64 x7.h, .int .i64 x7.off, .int .i64 x7.n, .int .i64 0, .int .i64 0, .bool false, .int .i64 (i : Int), .int .i64 (k58 : Int)]) (vs := [(0, .int .i64 x7.th), (1, .agg #[.int .i64 x7.d, .int .i64 x7.h, .int .i64 x7.off, .int .i64 x7.n]), (4, .int .i64 (i : Int)), (5, .int .i64 (k58 : Int))]) ⟨⟨r.e rfl, rfl⟩, ⟨r.e rfl, rfl⟩, ⟨r.e rfl, rfl⟩, ⟨r.e rfl, rfl⟩, trivial⟩ (by simp [go_sem])) ?_
          refine HP.one rfl (.free rfl) (OW.storeall (i := 1) (vs := [.int .i64 x7.th, .int .i64 x7.d, .int .i64 x7.h, .int .i64 x7.off, .int .i64 x7.n, .int .i64 0, .int .i64 0, .bool false, .int .i64 (i : Int), .int .i64 (k58 : Int)]) rfl hO57 rfl rfl rfl rfl Try.sizeOf70 rfl ?_)
          intro w61 hO62
          have hI63 := hO62.pick [0, 2] rfl
          refine ⟨hI63, ?_⟩
          refine HP.done (EW.then (?_))
          refine CW.seq ?_
          refine CW.seq ?_
          refine CW.region ?_
          refine LW.value (.free rfl) rfl (fun _ r => R.fieldAddr (k := 9) (r.e rfl) Try.runUnderlying70 rfl Try.sizeOf3 rfl) ?_
          refine LW.value (.free rfl) rfl (fun _ r => R.load1 (r.e rfl) Try.isAgg3 (hO62.cell (i := 1) rfl rfl)) ?_
          refine LW.value (.free rfl) rfl (fun _ r => R.move (r.e rfl)) ?_
          refine LW.value (.free rfl) rfl (fun _ r => R.len_slice (r.e rfl) Try.runUnderlying22) ?_
          refine LW.value (.free rfl) rfl (fun _ r => R.lss (r.e rfl) (r.e rfl)) ?_
          refine LW.nil (EW.then (?_))
          by_cases h64 : (k58 : Int) < (n : Int)
          · -- (k58 : Int) < (n : Int)
            refine CW.yes (kb (dT h64)) ?_
            refine CW.seq ?_
            refine CW.region ?_
            refine LW.value (.free rfl) rfl (fun _ r => R.fieldAddr (k := 7) (r.e rfl) Try.runUnderlying70 rfl Try.sizeOf4 rfl) ?_
            refine LW.op (.free rfl) (OW.store (i := 1) rfl hO62 rfl rfl rfl rfl Try.sizeOf4 rfl ?_)
            intro w65 hO66
            refine LW.nil (EW.then (?_))
            refine CW.region ?_
            refine LW.value (.free rfl) rfl (fun _ r => R.move (r.e rfl)) ?_
            refine LW.value (.free rfl) rfl (fun _ r => R.fieldAddr (k := 9) (r.e rfl) Try.runUnderlying70 rfl Try.sizeOf3 rfl) ?_
            refine LW.value (.free rfl) rfl (fun _ r => R.load1 (r.e rfl) Try.isAgg3 (hO66.cell (i := 1) rfl rfl)) ?_
            obtain ⟨x67, hxx67⟩ : ∃ t, (l)[k58]? = some t := ⟨_, List.getElem?_eq_getElem (by omega)⟩
            obtain ⟨blx67, olx67, hax67, hcx67⟩ := hs.at_ _ _ hxx67
            refine LW.value (.free rfl) rfl (fun _ r => R.indexAddr_o (k := olx67 + k58 * 8) (r.e rfl) hax67 (r.e rfl) Try.runUnderlying22 Try.sizeOf41 (by omega) (by omega) (by simp)) ?_
            refine LW.value (.free rfl) rfl (fun _ r => R.fieldAddr (k := olx67 + k58 * 8 + 6) (r.e rfl) Try.runUnderlying41 rfl Try.sizeOf39 rfl) ?_
            refine LW.value (.free rfl) rfl (fun _ r => R.loadn (vs := [.int .i64 x67.code, .int .i64 x67.num]) (r.e rfl) Try.isAgg39 Try.sizeOf39 rfl (fun j v hj => hO66.pc (i := 0) rfl (by have h := hcx67 (6 + j) v (take_get (o := 6) (m := 2) hj); simpa [Nat.add_assoc] using h))) ?_
            refine LW.value (.free rfl) rfl (fun _ r => R.fieldAddr (k := 5) (r.e rfl) Try.runUnderlying70 rfl Try.sizeOf39 rfl) ?_
            refine LW.op (.free rfl) (OW.storen (i := 1) (vs := [.int .i64 x67.code, .int .i64 x67.num]) rfl hO66 rfl rfl rfl rfl Try.sizeOf39 rfl ?_)
            intro w68 hO69
            refine LW.nil (EW.then (?_))
            refine CW.region ?_
            refine LW.value (.free rfl) rfl (fun _ r => R.move (r.e rfl)) ?_
            refine LW.value (.free rfl) rfl (fun _ r => R.loadn (vs := [.int .i64 x7.th, .int .i64 x7.d, .int .i64 x7.h, .int .i64 x7.off, .int .i64 x7.n, .int .i64 x67.code, .int .i64 x67.num, .bool true, .int .i64 (i : Int), .int .i64 (k58 : Int)]) (r.e rfl) Try.isAgg70 Try.sizeOf70 rfl (hO69.cells (i := 1) rfl rfl)) ?_
            refine LW.op (.free rfl) (OW.buildSlice (cs := #[.int .i64 x7.th, .int .i64 x7.d, .int .i64 x7.h, .int .i64 x7.off, .int .i64 x7.n, .int .i64 x67.code, .int .i64 x67.num, .bool true, .int .i64 (i : Int), .int .i64 (k58 : Int)]) (e := 70) (vs := [(0, .agg #[.int .i64 x7.th, .int .i64 x7.d, .int .i64 x7.h, .int .i64 x7.off, .int .i64 x7.n, .int .i64 x67.code, .int .i64 x67.num, .bool true, .int .i64 (i : Int), .int .i64 (k58 : Int)])]) rfl hO69 (fun _ r => ⟨⟨r.e rfl, rfl⟩, trivial⟩) (fun _ => by simp [go_sem, Instr.buildSlice, newRow]) ?_)
            intro b70 w71 hO72
            have hO73 := hO72.move [3] rfl
            refine LW.op (.free rfl) (OW.append (xs := (callsI l i)) (ys := [(⟨x7.th, x7.d, x7.h, x7.off, x7.n, x67.code, x67.num, true, (i : Int), (k58 : Int)⟩ : Cal)]) elemCal rfl hO73 rfl rfl hg (fun _ _ => rfl) (fun _ _ => rfl) rfl (fun _ => src (i := 1) hO73 rfl rfl) (by simp; omega) (by simp; omega) (by decide) ?_)
            intro v74 s75 w76 hO77 hg78
            refine LW.value (.free rfl) rfl (fun _ r => R.assign (r.e rfl)) ?_
            refine LW.nil (EW.inB_normal (EW.then (?_)))
            refine CW.region ?_
            refine LW.value (.free rfl) rfl (fun _ r => R.move (r.e rfl)) ?_
            refine LW.value (.free rfl) rfl (fun _ r => R.as (R.add (r.e rfl) (r.e rfl)) (congrArg (Value.int .i64) (wrap_i64 (by omega) (by omega)))) ?_
            refine LW.value (.free rfl) rfl (fun _ r => R.assign (r.e rfl)) ?_
            refine LW.nil ?_
            exact EW.sub (env' := [(0, .slice a n c), (4, v74), (5, .int .i64 ((i + 1) : Int))]) ⟨rfl, rfl, rfl, trivial⟩ (EW.round (i + 1, v74, s75) ⟨i + 1, v74, s75, rfl, rfl, hO77.pick [0, 1, 2] rfl, by omega, by rw [callsI_call hxx7 h8, callOf_done hk59 hxx67]; exact hg78⟩ (by dsimp only; omega))
          · -- not: (k58 : Int) < (n : Int)
            refine CW.no (kb (dF h64)) ?_
            refine CW.skip (EW.then (?_))
            refine CW.region ?_
            refine LW.value (.free rfl) rfl (fun _ r => R.move (r.e rfl)) ?_
            refine LW.value (.free rfl) rfl (fun _ r => R.loadn (vs := [.int .i64 x7.th, .int .i64 x7.d, .int .i64 x7.h, .int .i64 x7.off, .int .i64 x7.n, .int .i64 0, .int .i64 0, .bool false, .int .i64 (i : Int), .int .i64 (k58 : Int)]) (r.e rfl) Try.isAgg70 Try.sizeOf70 rfl (hO62.cells (i := 1) rfl rfl)) ?_
            refine LW.op (.free rfl) (OW.buildSlice (cs := #[.int .i64 x7.th, .int .i64 x7.d, .int .i64 x7.h, .int .i64 x7.off, .int .i64 x7.n, .int .i64 0, .int .i64 0, .bool false, .int .i64 (i : Int), .int .i64 (k58 : Int)]) (e := 70) (vs := [(0, .agg #[.int .i64 x7.th, .int .i64 x7.d, .int .i64 x7.h, .int .i64 x7.off, .int .i64 x7.n, .int .i64 0, .int .i64 0, .bool false, .int .i64 (i : Int), .int .i64 (k58 : Int)])]) rfl hO62 (fun _ r => ⟨⟨r.e rfl, rfl⟩, trivial⟩) (fun _ => by simp [go_sem, Instr.buildSlice, newRow]) ?_)
            intro b79 w80 hO81
            have hO82 := hO81.move [3] rfl
            refine LW.op (.free rfl) (OW.append (xs := (callsI l i)) (ys := [(⟨x7.th, x7.d, x7.h, x7.off, x7.n, 0, 0, false, (i : Int), (k58 : Int)⟩ : Cal)]) elemCal rfl hO82 rfl rfl hg (fun _ _ => rfl) (fun _ _ => rfl) rfl (fun _ => src (i := 1) hO82 rfl rfl) (by simp; omega) (by simp; omega) (by decide) ?_)
            intro v83 s84 w85 hO86 hg87
            refine LW.value (.free rfl) rfl (fun _ r => R.assign (r.e rfl)) ?_
            refine LW.nil (EW.inB_normal (EW.then (?_)))
            refine CW.region ?_
            refine LW.value (.free rfl) rfl (fun _ r => R.move (r.e rfl)) ?_
            refine LW.value (.free rfl) rfl (fun _ r => R.as (R.add (r.e rfl) (r.e rfl)) (congrArg (Value.int .i64) (wrap_i64 (by omega) (by omega)))) ?_
            refine LW.value (.free rfl) rfl (fun _ r => R.assign (r.e rfl)) ?_
            refine LW.nil ?_
            exact EW.sub (env' := [(0, .slice a n c), (4, v83), (5, .int .i64 ((i + 1) : Int))]) ⟨rfl, rfl, rfl, trivial⟩ (EW.round (i + 1, v83, s84) ⟨i + 1, v83, s84, rfl, rfl, hO86.pick [0, 1, 2] rfl, by omega, by rw [callsI_call hxx7 h8, callOf_open hk59 (by omega)]; exact hg87⟩ (by dsimp only; omega))
    · -- not: (i : Int) < (n : Int)
      refine CW.no (kb (dF h6)) ?_
      refine CW.exit (EW.then_exit (EW.then_exit (EW.inB_same (EW.then (?_)))))
      refine CW.seq ?_
      refine CW.region ?_
      refine LW.value (.free rfl) rfl (fun _ r => R.move (r.e rfl)) ?_
      refine LW.value (.free rfl) rfl (fun _ r => R.assign (r.e rfl)) ?_
      refine LW.value (.free rfl) rfl (fun _ r => R.assign (r.e rfl)) ?_
      refine LW.nil (EW.then (?_))
      refine CW.ret ?_
      refine EW.ret2 rfl rfl rfl ?_
      exact ⟨_, s, by rw [h3], by rw [show i = l.length from by omega] at hg; rw [if_pos h3]; exact hg, hO5.pick [0, 0, 0] rfl⟩
  · -- not: (checkL l) = 0
    refine CW.yes (kb (bN (dF h3))) ?_
    refine CW.seq ?_
    refine CW.region ?_
    refine LW.value (.free rfl) rfl (fun _ r => R.assign (r.e rfl)) ?_
    refine LW.value (.free rfl) rfl (fun _ r => R.assign (r.e rfl)) ?_
    refine LW.nil (EW.then (?_))
    refine CW.ret (EW.then_ret (?_))
    refine EW.ret2 rfl rfl rfl ?_
    exact ⟨_, [], by rw [checkL_bad h3], by rw [if_neg h3]; exact Grow.start, (hO2.pick [0, 0] rfl).nil⟩

end Go.Sd
