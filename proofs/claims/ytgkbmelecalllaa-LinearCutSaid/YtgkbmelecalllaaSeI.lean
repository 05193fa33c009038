/-
  Handles of a history, walked.
-/
import Derived.Test.YtgkbmelecalllaaSeH
set_option linter.unusedSimpArgs false
set_option linter.unusedVariables false
set_option linter.unusedSectionVars false
namespace Go.Sd
open Go Go.Proofs
variable [Str]
set_option maxRecDepth 100000 in
set_option maxHeartbeats 400000 in
theorem v_handles (G F : Seg) (a : Option Addr) (n c : Nat) (l : List Ev) (hs : Sl G 8 encE a n c l) (hn : l.length ≤ 1000000) (w : World) (hO : Own w [G, F]) : Calls Try.prog 20 [.slice a n c].toArray w (Ret fun v w' => ∃ s, Grow 3 1 encI v s (handV l) ∧ Own w' [s, G, F]) := by
  have hl := hs.hlen
  refine enter (n := 31) Try.func20 rfl rfl rfl ?_
  refine CW.seq ?_
  refine CW.region ?_
  refine LW.value (.free rfl) rfl (fun _ r => R.assign (r.e rfl)) ?_
  refine LW.nil (EW.then (?_))
  refine CW.seq ?_
  refine CW.region ?_
  refine LW.value (.free rfl) rfl (fun _ r => R.assign (r.e rfl)) ?_
  refine LW.nil (EW.then (?_))
  refine CW.seq ?_
  refine CW.seq ?_
  refine CW.region ?_
  refine LW.value (.free rfl) rfl (fun _ r => R.move (r.e rfl)) ?_
  refine LW.value (.free rfl) rfl (fun _ r => R.len_slice (r.e rfl) Try.runUnderlying22) ?_
  refine LW.value (.free rfl) rfl (fun _ r => R.move (r.e rfl)) ?_
  refine LW.nil (EW.then (?_))
  refine CW.block ?_
  refine CW.sub (env' := [(3, (.slice none 0 0)), (6, .slice a n c), (7, .int .i64 (n : Int)), (8, .int .i64 (0 : Int))]) ⟨rfl, rfl, rfl, rfl, trivial⟩ ?_
  refine CW.loop (α := Nat × Value × Seg) (fun (x_ : Nat × Value × Seg) env_ w_ => ∃ i v s, x_ = (i, v, s) ∧ env_ = [(3, v), (6, .slice a n c), (7, .int .i64 (n : Int)), (8, .int .i64 (i : Int))] ∧ Own w_ [s, G, F] ∧ (i ≤ l.length) ∧ (Grow 3 1 encI v s ((l.take i).map hOf))) (fun (x_ : Nat × Value × Seg) => l.length - x_.1) (0, .slice none 0 0, []) ⟨0, .slice none 0 0, [], rfl, rfl, (hO.pick [0, 0] rfl).nil, Nat.zero_le _, Grow.start⟩ ?_
  rintro _ _ w1 ⟨i, v, s, rfl, rfl, hO2, hi, hg⟩
  refine CW.seq ?_
  refine CW.region ?_
  refine LW.value (.free rfl) rfl (fun _ r => R.lss (r.e rfl) (r.e rfl)) ?_
  refine LW.nil (EW.then (?_))
  refine CW.seq ?_
  by_cases h3 : (i : Int) < (n : Int)
  · -- (i : Int) < (n : Int)
    refine CW.yes (kb (dT h3)) ?_
    refine CW.skip (EW.then (?_))
    refine CW.seq ?_
    refine CW.block ?_
    refine CW.seq ?_
    refine CW.region ?_
    obtain ⟨x4, hxx4⟩ : ∃ t, (l)[i]? = some t := ⟨_, List.getElem?_eq_getElem (by omega)⟩
    obtain ⟨blx4, olx4, hax4, hcx4⟩ := hs.at_ _ _ hxx4
    refine LW.value (.free rfl) rfl (fun _ r => R.indexAddr_o (k := olx4 + i * 8) (r.e rfl) hax4 (r.e rfl) Try.runUnderlying22 Try.sizeOf41 (by omega) (by omega) (by simp)) ?_
    refine LW.value (.free rfl) rfl (fun _ r => R.loadn (vs := [.int .i64 x4.th, .bool x4.back, .int .i64 x4.d, .int .i64 x4.h, .int .i64 x4.off, .int .i64 x4.n, .int .i64 x4.code, .int .i64 x4.num]) (r.e rfl) Try.isAgg41 Try.sizeOf41 rfl (fun j v hj => hO2.pc (i := 1) rfl (hcx4 j v hj))) ?_
    refine LW.op (.free rfl) (OW.alloc (cs := #[.int .i64 0, .bool false, .int .i64 0, .int .i64 0, .int .i64 0, .int .i64 0, .int .i64 0, .int .i64 0]) rfl hO2 Try.zeroValue41 rfl ?_)
    intro b5 w6 hO7
    refine LW.op (.free rfl) (OW.storeall (i := 0) (vs := [.int .i64 x4.th, .bool x4.back, .int .i64 x4.d, .int .i64 x4.h, .int .i64 x4.off, .int .i64 x4.n, .int .i64 x4.code, .int .i64 x4.num]) rfl hO7 rfl rfl rfl rfl Try.sizeOf41 rfl ?_)
    intro w8 hO9
    refine LW.nil (EW.then (?_))
    refine CW.seq ?_
    refine CW.region ?_
    refine LW.value (.free rfl) rfl (fun _ r => R.fieldAddr (k := 1) (r.e rfl) Try.runUnderlying41 rfl Try.sizeOf4 rfl) ?_
    refine LW.value (.free rfl) rfl (fun _ r => R.load1 (r.e rfl) Try.isAgg4 (hO9.cell (i := 0) rfl rfl)) ?_
    refine LW.nil (EW.then (?_))
    rcases Bool.eq_false_or_eq_true x4.back with h10 | h10
    · -- x4.back
      refine CW.yes (kb h10) ?_
      refine CW.region ?_
      refine LW.value (.free rfl) rfl (fun _ r => R.move (r.e rfl)) ?_
      refine LW.value (.free rfl) rfl (fun _ r => R.fieldAddr (k := 6) (r.e rfl) Try.runUnderlying41 rfl Try.sizeOf39 rfl) ?_
      refine LW.value (.free rfl) rfl (fun _ r => R.fieldAddr (k := 7) (r.e rfl) Try.runUnderlying39 rfl Try.sizeOf3 rfl) ?_
      refine LW.value (.free rfl) rfl (fun _ r => R.load1 (r.e rfl) Try.isAgg3 (hO9.cell (i := 0) rfl rfl)) ?_
      refine LW.op (.free rfl) (OW.buildSlice (cs := #[.int .i64 x4.num]) (e := 3) (vs := [(0, .int .i64 x4.num)]) rfl hO9 (fun _ r => ⟨⟨r.e rfl, rfl⟩, trivial⟩) (fun _ => by simp [go_sem, Instr.buildSlice, newRow]) ?_)
      intro b11 w12 hO13
      have hO14 := hO13.move [2] rfl
      refine LW.op (.free rfl) (OW.append (xs := ((l.take i).map hOf)) (ys := [x4.num]) elem29 rfl hO14 rfl rfl hg (fun _ _ => rfl) (fun _ _ => rfl) rfl (fun _ => src (i := 1) hO14 rfl rfl) (by simp; omega) (by simp; omega) (by decide) ?_)
      intro v15 s16 w17 hO18 hg19
      refine LW.value (.free rfl) rfl (fun _ r => R.assign (r.e rfl)) ?_
      refine LW.nil (EW.inB_normal (EW.then (?_)))
      refine CW.region ?_
      refine LW.value (.free rfl) rfl (fun _ r => R.as (R.add (r.e rfl) (r.e rfl)) (congrArg (Value.int .i64) (wrap_i64 (by omega) (by omega)))) ?_
      refine LW.value (.free rfl) rfl (fun _ r => R.move (r.e rfl)) ?_
      refine LW.nil ?_
      exact EW.sub (env' := [(3, v15), (6, .slice a n c), (7, .int .i64 (n : Int)), (8, .int .i64 ((i + 1) : Int))]) ⟨rfl, rfl, rfl, rfl, trivial⟩ (EW.round (i + 1, v15, s16) ⟨i + 1, v15, s16, rfl, rfl, hO18.pick [0, 2, 2] rfl, by omega, by rw [List.take_succ_eq_append_getElem (show i < l.length by omega), List.map_append]; rw [List.getElem?_eq_getElem (show i < l.length by omega)] at hxx4; cases hxx4; simpa [hOf, h10] using hg19⟩ (by dsimp only; omega))
    · -- not: x4.back
      refine CW.no (kb h10) ?_
      refine CW.region ?_
      refine LW.value (.free rfl) rfl (fun _ r => R.move (r.e rfl)) ?_
      refine LW.value (.free rfl) rfl (fun _ r => R.fieldAddr (k := 2) (r.e rfl) Try.runUnderlying41 rfl Try.sizeOf36 rfl) ?_
      refine LW.value (.free rfl) rfl (fun _ r => R.fieldAddr (k := 3) (r.e rfl) Try.runUnderlying36 rfl Try.sizeOf3 rfl) ?_
      refine LW.value (.free rfl) rfl (fun _ r => R.load1 (r.e rfl) Try.isAgg3 (hO9.cell (i := 0) rfl rfl)) ?_
      refine LW.op (.free rfl) (OW.buildSlice (cs := #[.int .i64 x4.h]) (e := 3) (vs := [(0, .int .i64 x4.h)]) rfl hO9 (fun _ r => ⟨⟨r.e rfl, rfl⟩, trivial⟩) (fun _ => by simp [go_sem, Instr.buildSlice, newRow]) ?_)
      intro b20 w21 hO22
      have hO23 := hO22.move [2] rfl
      refine LW.op (.free rfl) (OW.append (xs := ((l.take i).map hOf)) (ys := [x4.h]) elem29 rfl hO23 rfl rfl hg (fun _ _ => rfl) (fun _ _ => rfl) rfl (fun _ => src (i := 1) hO23 rfl rfl) (by simp; omega) (by simp; omega) (by decide) ?_)
      intro v24 s25 w26 hO27 hg28
      refine LW.value (.free rfl) rfl (fun _ r => R.assign (r.e rfl)) ?_
      refine LW.nil (EW.inB_normal (EW.then (?_)))
      refine CW.region ?_
      refine LW.value (.free rfl) rfl (fun _ r => R.as (R.add (r.e rfl) (r.e rfl)) (congrArg (Value.int .i64) (wrap_i64 (by omega) (by omega)))) ?_
      refine LW.value (.free rfl) rfl (fun _ r => R.move (r.e rfl)) ?_
      refine LW.nil ?_
      exact EW.sub (env' := [(3, v24), (6, .slice a n c), (7, .int .i64 (n : Int)), (8, .int .i64 ((i + 1) : Int))]) ⟨rfl, rfl, rfl, rfl, trivial⟩ (EW.round (i + 1, v24, s25) ⟨i + 1, v24, s25, rfl, rfl, hO27.pick [0, 2, 2] rfl, by omega, by rw [List.take_succ_eq_append_getElem (show i < l.length by omega), List.map_append]; rw [List.getElem?_eq_getElem (show i < l.length by omega)] at hxx4; cases hxx4; simpa [hOf, h10] using hg28⟩ (by dsimp only; omega))
  · -- not: (i : Int) < (n : Int)
    refine CW.no (kb (dF h3)) ?_
    refine CW.exit (EW.then_exit (EW.then_exit (EW.inB_same (EW.then (?_)))))
    refine CW.seq ?_
    refine CW.region ?_
    refine LW.value (.free rfl) rfl (fun _ r => R.move (r.e rfl)) ?_
    refine LW.op (.free rfl) (OW.calls rfl (fun _ r => R.call (vs := [v]) Try.call39 rfl ⟨r.e rfl, trivial⟩) (h_sort hg (by simp; omega) (hO2.frame [0] rfl)) ?_)
    rintro v33 w30 ⟨s29, hg31, hO32⟩
    replace hO32 := hO32.unframe1
    refine LW.nil (EW.then (?_))
    refine CW.seq ?_
    refine CW.region ?_
    refine LW.value (.free rfl) rfl (fun _ r => R.move (r.e rfl)) ?_
    refine LW.op (.free rfl) (OW.calls rfl (fun _ r => R.call (vs := [v]) Try.call40 rfl ⟨r.e rfl, trivial⟩) (h_compact hg31 (by simp; omega) (hO32.frame [0] rfl)) ?_)
    rintro v38 w35 ⟨s34, hg36, hO37⟩
    replace hO37 := hO37.unframe1
    refine LW.value (.free rfl) rfl (fun _ r => R.assign (r.e rfl)) ?_
    refine LW.nil (EW.then (?_))
    refine CW.ret ?_
    refine EW.ret1 rfl rfl ?_
    have he : i = l.length := by omega
    subst he
    rw [List.take_length] at hg36
    exact ⟨s34, hg36, hO37.pick [0, 0, 0] rfl⟩

set_option maxRecDepth 100000 in
set_option maxHeartbeats 400000 in
theorem e_handles (G F : Seg) (a : Option Addr) (n c : Nat) (l : List Ev) (hs : Sl G 8 encE a n c l) (hn : l.length ≤ 1000000) (w : World) (hO : Own w [G, F]) : Calls Try.prog 18 [.slice a n c].toArray w (Ret fun v w' => ∃ s, Grow 3 1 encI v s (handR l l.length) ∧ Own w' [s, G, F]) := by
  have hl := hs.hlen
  refine enter (n := 73) Try.func18 rfl rfl rfl ?_
  refine CW.seq ?_
  refine CW.region ?_
  refine LW.value (.free rfl) rfl (fun _ r => R.assign (r.e rfl)) ?_
  refine LW.nil (EW.then (?_))
  refine CW.seq ?_
  refine CW.region ?_
  refine LW.value (.free rfl) rfl (fun _ r => R.assign (r.e rfl)) ?_
  refine LW.nil (EW.then (?_))
  refine CW.seq ?_
  refine CW.seq ?_
  refine CW.region ?_
  refine LW.value (.free rfl) rfl (fun _ r => R.assign (r.e rfl)) ?_
  refine LW.nil (EW.then (?_))
  refine CW.block ?_
  refine CW.sub (env' := [(0, .slice a n c), (3, (.slice none 0 0)), (4, .int .i64 (0 : Int))]) ⟨rfl, rfl, rfl, trivial⟩ ?_
  refine CW.loop (α := Nat × Value × Seg) (fun (x_ : Nat × Value × Seg) env_ w_ => ∃ i v s, x_ = (i, v, s) ∧ env_ = [(0, .slice a n c), (3, v), (4, .int .i64 (i : Int))] ∧ Own w_ [s, G, F] ∧ (i ≤ l.length) ∧ (Grow 3 1 encI v s (handR l i))) (fun (x_ : Nat × Value × Seg) => l.length - x_.1) (0, .slice none 0 0, []) ⟨0, .slice none 0 0, [], rfl, rfl, (hO.pick [0, 0] rfl).nil, Nat.zero_le _, Grow.start⟩ ?_
  rintro _ _ w1 ⟨i, v, s, rfl, rfl, hO2, hi, hg⟩
  have hrl := (handR_mem l i hi).2
  refine CW.seq ?_
  refine CW.seq ?_
  refine CW.region ?_
  refine LW.value (.free rfl) rfl (fun _ r => R.move (r.e rfl)) ?_
  refine LW.value (.free rfl) rfl (fun _ r => R.move (r.e rfl)) ?_
  refine LW.value (.free rfl) rfl (fun _ r => R.len_slice (r.e rfl) Try.runUnderlying22) ?_
  refine LW.value (.free rfl) rfl (fun _ r => R.lss (r.e rfl) (r.e rfl)) ?_
  refine LW.nil (EW.then (?_))
  by_cases h3 : (i : Int) < (n : Int)
  · -- (i : Int) < (n : Int)
    refine CW.yes (kb (dT h3)) ?_
    refine CW.skip (EW.then (?_))
    refine CW.seq ?_
    refine CW.block ?_
    refine CW.seq ?_
    refine CW.region ?_
    refine LW.value (.free rfl) rfl (fun _ r => R.move (r.e rfl)) ?_
    refine LW.value (.free rfl) rfl (fun _ r => R.move (r.e rfl)) ?_
    obtain ⟨x4, hxx4⟩ : ∃ t, (l)[i]? = some t := ⟨_, List.getElem?_eq_getElem (by omega)⟩
    obtain ⟨blx4, olx4, hax4, hcx4⟩ := hs.at_ _ _ hxx4
    refine LW.value (.free rfl) rfl (fun _ r => R.indexAddr_o (k := olx4 + i * 8) (r.e rfl) hax4 (r.e rfl) Try.runUnderlying22 Try.sizeOf41 (by omega) (by omega) (by simp)) ?_
    refine LW.value (.free rfl) rfl (fun _ r => R.fieldAddr (k := olx4 + i * 8 + 2) (r.e rfl) Try.runUnderlying41 rfl Try.sizeOf36 rfl) ?_
    refine LW.value (.free rfl) rfl (fun _ r => R.fieldAddr (k := olx4 + i * 8 + 2 + 1) (r.e rfl) Try.runUnderlying36 rfl Try.sizeOf3 rfl) ?_
    refine LW.value (.free rfl) rfl (fun _ r => R.load1 (r.e rfl) Try.isAgg3 (hO2.pc (i := 1) rfl (hcx4 3 _ rfl))) ?_
    refine LW.value (.free rfl) rfl (fun _ r => R.assign (r.e rfl)) ?_
    refine LW.nil (EW.then (?_))
    refine CW.seq ?_
    refine CW.seq ?_
    refine CW.region ?_
    refine LW.value (.free rfl) rfl (fun _ r => R.move (r.e rfl)) ?_
    refine LW.value (.free rfl) rfl (fun _ r => R.move (r.e rfl)) ?_
    obtain ⟨blx4_5, olx4_5, hax4_5, hcx4_5⟩ := hs.at_ _ _ hxx4
    refine LW.value (.free rfl) rfl (fun _ r => R.indexAddr_o (k := olx4_5 + i * 8) (r.e rfl) hax4_5 (r.e rfl) Try.runUnderlying22 Try.sizeOf41 (by omega) (by omega) (by simp)) ?_
    refine LW.value (.free rfl) rfl (fun _ r => R.fieldAddr (k := olx4_5 + i * 8 + 1) (r.e rfl) Try.runUnderlying41 rfl Try.sizeOf4 rfl) ?_
    refine LW.value (.free rfl) rfl (fun _ r => R.load1 (r.e rfl) Try.isAgg4 (hO2.pc (i := 1) rfl (hcx4_5 1 _ rfl))) ?_
    refine LW.nil (EW.then (?_))
    rcases Bool.eq_false_or_eq_true x4.back with h6 | h6
    · -- x4.back
      refine CW.yes (kb h6) ?_
      refine CW.region ?_
      refine LW.value (.free rfl) rfl (fun _ r => R.move (r.e rfl)) ?_
      refine LW.value (.free rfl) rfl (fun _ r => R.move (r.e rfl)) ?_
      obtain ⟨blx4_7, olx4_7, hax4_7, hcx4_7⟩ := hs.at_ _ _ hxx4
      refine LW.value (.free rfl) rfl (fun _ r => R.indexAddr_o (k := olx4_7 + i * 8) (r.e rfl) hax4_7 (r.e rfl) Try.runUnderlying22 Try.sizeOf41 (by omega) (by omega) (by simp)) ?_
      refine LW.value (.free rfl) rfl (fun _ r => R.fieldAddr (k := olx4_7 + i * 8 + 6) (r.e rfl) Try.runUnderlying41 rfl Try.sizeOf39 rfl) ?_
      refine LW.value (.free rfl) rfl (fun _ r => R.fieldAddr (k := olx4_7 + i * 8 + 6 + 1) (r.e rfl) Try.runUnderlying39 rfl Try.sizeOf3 rfl) ?_
      refine LW.value (.free rfl) rfl (fun _ r => R.load1 (r.e rfl) Try.isAgg3 (hO2.pc (i := 1) rfl (hcx4_7 7 _ rfl))) ?_
      refine LW.value (.free rfl) rfl (fun _ r => R.assign (r.e rfl)) ?_
      refine LW.nil (EW.then (?_))
      refine CW.seq ?_
      refine CW.region ?_
      refine LW.value (.free rfl) rfl (fun _ r => R.assign (r.e rfl)) ?_
      refine LW.nil (EW.then (?_))
      refine CW.seq ?_
      refine CW.region ?_
      refine LW.value (.free rfl) rfl (fun _ r => R.assign (r.e rfl)) ?_
      refine LW.nil (EW.then (?_))
      refine CW.seq ?_
      refine CW.seq ?_
      refine CW.region ?_
      refine LW.value (.free rfl) rfl (fun _ r => R.assign (r.e rfl)) ?_
      refine LW.nil (EW.then (?_))
      refine CW.block ?_
      refine CW.sub (env' := [(0, .slice a n c), (3, v), (4, .int .i64 (i : Int)), (5, .int .i64 x4.num), (6, (.slice none 0 0)), (7, .bool false), (8, .int .i64 (0 : Int))]) ⟨rfl, rfl, rfl, rfl, rfl, rfl, rfl, trivial⟩ ?_
      refine CW.loop (α := Nat × List Int × Bool × Value × Seg) (fun (x_ : Nat × List Int × Bool × Value × Seg) env_ w_ => ∃ k o b u s2, x_ = (k, o, b, u, s2) ∧ env_ = [(0, .slice a n c), (3, v), (4, .int .i64 (i : Int)), (5, .int .i64 x4.num), (6, u), (7, .bool b), (8, .int .i64 (k : Int))] ∧ Own w_ [s2, s, G, F] ∧ (k ≤ (handR l i).length) ∧ (insI x4.num (handR l i) k = (o, b)) ∧ (Grow 3 1 encI u s2 o)) (fun (x_ : Nat × List Int × Bool × Value × Seg) => (handR l i).length - x_.1) (0, [], false, .slice none 0 0, []) ⟨0, [], false, .slice none 0 0, [], rfl, rfl, (hO2.pick [0, 0, 0] rfl).nil, Nat.zero_le _, rfl, Grow.start⟩ ?_
      rintro _ _ w8 ⟨k, o, b, u, s2, rfl, rfl, hO9, hk, hp, hg2⟩
      have hol := (insI_mem hp hk).2; have hol' : o.length ≤ i + 1 := by cases b <;> simp at hol <;> omega
      refine CW.seq ?_
      refine CW.seq ?_
      refine CW.region ?_
      refine LW.value (.free rfl) rfl (fun _ r => R.move (r.e rfl)) ?_
      refine LW.value (.free rfl) rfl (fun _ r => R.move (r.e rfl)) ?_
      obtain ⟨a10, cap11, hv12⟩ := Grow.slice hg
      refine LW.value (.free rfl) rfl (fun _ r => R.len_slice_v (r.e rfl) hv12 Try.runUnderlying32) ?_
      refine LW.value (.free rfl) rfl (fun _ r => R.lss (r.e rfl) (r.e rfl)) ?_
      refine LW.nil (EW.then (?_))
      by_cases h13 : (k : Int) < (((handR l i)).length : Int)
      · -- (k : Int) < (((handR l i)).length : Int)
        refine CW.yes (kb (dT h13)) ?_
        refine CW.skip (EW.then (?_))
        refine CW.seq ?_
        refine CW.block ?_
        refine CW.seq ?_
        refine CW.seq ?_
        refine CW.region ?_
        refine LW.value (.free rfl) rfl (fun _ r => R.move (r.e rfl)) ?_
        refine LW.value (.free rfl) rfl (fun _ r => R.not (r.e rfl)) ?_
        refine LW.value (.free rfl) rfl (fun _ r => R.move (r.e rfl)) ?_
        rcases Bool.eq_false_or_eq_true b with h14 | h14
        · -- b
          refine LW.off (.no rfl rfl (kb (bN h14))) rfl ?_
          refine LW.off (.no rfl rfl (kb (bN h14))) rfl ?_
          refine LW.off (.no rfl rfl (kb (bN h14))) rfl ?_
          refine LW.off (.no rfl rfl (kb (bN h14))) rfl ?_
          refine LW.off (.no rfl rfl (kb (bN h14))) rfl ?_
          refine LW.off (.no rfl rfl (kb (bN h14))) rfl ?_
          refine LW.value (.free rfl) rfl (fun _ r => R.pick_no (r.e (kb (bN h14))) (r.e rfl)) ?_
          refine LW.nil (EW.then (?_))
          refine CW.no rfl ?_
          refine CW.skip (EW.then (?_))
          refine CW.seq ?_
          refine CW.region ?_
          refine LW.value (.free rfl) rfl (fun _ r => R.move (r.e rfl)) ?_
          refine LW.value (.free rfl) rfl (fun _ r => R.move (r.e rfl)) ?_
          have hl15 : k < ((handR l i)).length := by (try simp only [List.length_append, List.length_set, List.length_singleton]); omega
          obtain ⟨b16, cap17, hv18⟩ := Grow.opened hg (by omega)
          have hg19 := hg
          rw [hv18] at hg19
          obtain ⟨q20, hq21⟩ : ∃ t, ((handR l i))[k]? = some t := ⟨_, List.getElem?_eq_getElem hl15⟩
          refine LW.value (.free rfl) rfl (fun _ r => R.indexAddr_v (k := k * 1) (r.e rfl) hv18 (r.e rfl) Try.runUnderlying32 Try.sizeOf3 (by omega) (by omega) (by simp)) ?_
          refine LW.value (.free rfl) rfl (fun _ r => R.load1 (r.e rfl) Try.isAgg3 (hg19.cellAt hO9 (i := 1) (j := 0) rfl (fun _ _ => rfl) hq21 rfl)) ?_
          refine LW.value (.free rfl) rfl (fun _ r => R.move (r.e rfl)) ?_
          refine LW.value (.free rfl) rfl (fun _ r => R.neq (r.e rfl) (r.e rfl)) ?_
          refine LW.nil (EW.then (?_))
          by_cases h22 : q20 = x4.num
          · -- q20 = x4.num
            refine CW.no (kb (bN (dT h22))) ?_
            refine CW.skip (EW.inB_normal (EW.then (?_)))
            refine CW.region ?_
            refine LW.value (.free rfl) rfl (fun _ r => R.move (r.e rfl)) ?_
            refine LW.value (.free rfl) rfl (fun _ r => R.as (R.add (r.e rfl) (r.e rfl)) (congrArg (Value.int .i64) (wrap_i64 (by omega) (by omega)))) ?_
            refine LW.value (.free rfl) rfl (fun _ r => R.assign (r.e rfl)) ?_
            refine LW.nil ?_
            exact EW.sub (env' := [(0, .slice a n c), (3, v), (4, .int .i64 (i : Int)), (5, .int .i64 x4.num), (6, u), (7, .bool b), (8, .int .i64 ((k + 1) : Int))]) ⟨rfl, rfl, rfl, rfl, rfl, rfl, rfl, trivial⟩ (EW.round (k + 1, o, b, u, s2) ⟨k + 1, o, b, u, s2, rfl, rfl, hO9.pick [0, 0, 0, 0] rfl, by omega, by rw [insI_succ hq21, hp]; simp [insS, h3, h6, h13, h14, h22] <;> omega, hg2⟩ (by dsimp only; omega))
          · -- not: q20 = x4.num
            refine CW.yes (kb (bN (dF h22))) ?_
            refine CW.region ?_
            refine LW.value (.free rfl) rfl (fun _ r => R.move (r.e rfl)) ?_
            refine LW.value (.free rfl) rfl (fun _ r => R.move (r.e rfl)) ?_
            refine LW.value (.free rfl) rfl (fun _ r => R.move (r.e rfl)) ?_
            have hl23 : k < ((handR l i)).length := by (try simp only [List.length_append, List.length_set, List.length_singleton]); omega
            refine LW.value (.free rfl) rfl (fun _ r => R.indexAddr_v (k := k * 1) (r.e rfl) hv18 (r.e rfl) Try.runUnderlying32 Try.sizeOf3 (by omega) (by omega) (by simp)) ?_
            refine LW.value (.free rfl) rfl (fun _ r => R.load1 (r.e rfl) Try.isAgg3 (hg19.cellAt hO9 (i := 1) (j := 0) rfl (fun _ _ => rfl) hq21 rfl)) ?_
            refine LW.op (.free rfl) (OW.buildSlice (cs := #[.int .i64 q20]) (e := 3) (vs := [(0, .int .i64 q20)]) rfl hO9 (fun _ r => ⟨⟨r.e rfl, rfl⟩, trivial⟩) (fun _ => by simp [go_sem, Instr.buildSlice, newRow]) ?_)
            intro b24 w25 hO26
            have hO27 := hO26.move [1] rfl
            refine LW.op (.free rfl) (OW.append (xs := o) (ys := [q20]) elem29 rfl hO27 rfl rfl hg2 (fun _ _ => rfl) (fun _ _ => rfl) rfl (fun _ => src (i := 1) hO27 rfl rfl) (by simp; omega) (by simp; omega) (by decide) ?_)
            intro v28 s29 w30 hO31 hg32
            refine LW.value (.free rfl) rfl (fun _ r => R.assign (r.e rfl)) ?_
            refine LW.nil (EW.inB_normal (EW.then (?_)))
            refine CW.region ?_
            refine LW.value (.free rfl) rfl (fun _ r => R.move (r.e rfl)) ?_
            refine LW.value (.free rfl) rfl (fun _ r => R.as (R.add (r.e rfl) (r.e rfl)) (congrArg (Value.int .i64) (wrap_i64 (by omega) (by omega)))) ?_
            refine LW.value (.free rfl) rfl (fun _ r => R.assign (r.e rfl)) ?_
            refine LW.nil ?_
            exact EW.sub (env' := [(0, .slice a n c), (3, v), (4, .int .i64 (i : Int)), (5, .int .i64 x4.num), (6, v28), (7, .bool b), (8, .int .i64 ((k + 1) : Int))]) ⟨rfl, rfl, rfl, rfl, rfl, rfl, rfl, trivial⟩ (EW.round (k + 1, (o ++ [q20]), b, v28, s29) ⟨k + 1, (o ++ [q20]), b, v28, s29, rfl, rfl, hO31.pick [0, 1, 1, 1] rfl, by omega, by rw [insI_succ hq21, hp]; simp [insS, h3, h6, h13, h14, h22] <;> omega, hg32⟩ (by dsimp only; omega))
        · -- not: b
          refine LW.value (.yes rfl rfl (kb (bN h14))) rfl (fun _ r => R.move (r.e rfl)) ?_
          refine LW.value (.yes rfl rfl (kb (bN h14))) rfl (fun _ r => R.move (r.e rfl)) ?_
          have hl33 : k < ((handR l i)).length := by (try simp only [List.length_append, List.length_set, List.length_singleton]); omega
          obtain ⟨b34, cap35, hv36⟩ := Grow.opened hg (by omega)
          have hg37 := hg
          rw [hv36] at hg37
          obtain ⟨q38, hq39⟩ : ∃ t, ((handR l i))[k]? = some t := ⟨_, List.getElem?_eq_getElem hl33⟩
          refine LW.value (.yes rfl rfl (kb (bN h14))) rfl (fun _ r => R.indexAddr_v (k := k * 1) (r.e rfl) hv36 (r.e rfl) Try.runUnderlying32 Try.sizeOf3 (by omega) (by omega) (by simp)) ?_
          refine LW.value (.yes rfl rfl (kb (bN h14))) rfl (fun _ r => R.load1 (r.e rfl) Try.isAgg3 (hg37.cellAt hO9 (i := 1) (j := 0) rfl (fun _ _ => rfl) hq39 rfl)) ?_
          refine LW.value (.yes rfl rfl (kb (bN h14))) rfl (fun _ r => R.move (r.e rfl)) ?_
          refine LW.value (.yes rfl rfl (kb (bN h14))) rfl (fun _ r => R.geq (r.e rfl) (r.e rfl)) ?_
          refine LW.value (.free rfl) rfl (fun _ r => R.pick_yes (r.e (kb (bN h14))) (r.e rfl)) ?_
          refine LW.nil (EW.then (?_))
          by_cases h40 : x4.num ≤ q38
          · -- x4.num ≤ q38
            refine CW.yes (kb (dT h40)) ?_
            refine CW.seq ?_
            refine CW.region ?_
            refine LW.value (.free rfl) rfl (fun _ r => R.move (r.e rfl)) ?_
            refine LW.value (.free rfl) rfl (fun _ r => R.move (r.e rfl)) ?_
            refine LW.op (.free rfl) (OW.buildSlice (cs := #[.int .i64 x4.num]) (e := 3) (vs := [(0, .int .i64 x4.num)]) rfl hO9 (fun _ r => ⟨⟨r.e rfl, rfl⟩, trivial⟩) (fun _ => by simp [go_sem, Instr.buildSlice, newRow]) ?_)
            intro b41 w42 hO43
            have hO44 := hO43.move [1] rfl
            refine LW.op (.free rfl) (OW.append (xs := o) (ys := [x4.num]) elem29 rfl hO44 rfl rfl hg2 (fun _ _ => rfl) (fun _ _ => rfl) rfl (fun _ => src (i := 1) hO44 rfl rfl) (by simp; omega) (by simp; omega) (by decide) ?_)
            intro v45 s46 w47 hO48 hg49
            refine LW.value (.free rfl) rfl (fun _ r => R.assign (r.e rfl)) ?_
            refine LW.nil (EW.then (?_))
            refine CW.region ?_
            refine LW.value (.free rfl) rfl (fun _ r => R.assign (r.e rfl)) ?_
            refine LW.nil (EW.then (?_))
            refine CW.seq ?_
            refine CW.region ?_
            refine LW.value (.free rfl) rfl (fun _ r => R.move (r.e rfl)) ?_
            refine LW.value (.free rfl) rfl (fun _ r => R.move (r.e rfl)) ?_
            have hl50 : k < ((handR l i)).length := by (try simp only [List.length_append, List.length_set, List.length_singleton]); omega
            refine LW.value (.free rfl) rfl (fun _ r => R.indexAddr_v (k := k * 1) (r.e rfl) hv36 (r.e rfl) Try.runUnderlying32 Try.sizeOf3 (by omega) (by omega) (by simp)) ?_
            refine LW.value (.free rfl) rfl (fun _ r => R.load1 (r.e rfl) Try.isAgg3 (hg37.cellAt hO48 (i := 2) (j := 0) rfl (fun _ _ => rfl) hq39 rfl)) ?_
            refine LW.value (.free rfl) rfl (fun _ r => R.move (r.e rfl)) ?_
            refine LW.value (.free rfl) rfl (fun _ r => R.neq (r.e rfl) (r.e rfl)) ?_
            refine LW.nil (EW.then (?_))
            by_cases h51 : q38 = x4.num
            · -- q38 = x4.num
              refine CW.no (kb (bN (dT h51))) ?_
              refine CW.skip (EW.inB_normal (EW.then (?_)))
              refine CW.region ?_
              refine LW.value (.free rfl) rfl (fun _ r => R.move (r.e rfl)) ?_
              refine LW.value (.free rfl) rfl (fun _ r => R.as (R.add (r.e rfl) (r.e rfl)) (congrArg (Value.int .i64) (wrap_i64 (by omega) (by omega)))) ?_
              refine LW.value (.free rfl) rfl (fun _ r => R.assign (r.e rfl)) ?_
              refine LW.nil ?_
              exact EW.sub (env' := [(0, .slice a n c), (3, v), (4, .int .i64 (i : Int)), (5, .int .i64 x4.num), (6, v45), (7, .bool true), (8, .int .i64 ((k + 1) : Int))]) ⟨rfl, rfl, rfl, rfl, rfl, rfl, rfl, trivial⟩ (EW.round (k + 1, (o ++ [x4.num]), true, v45, s46) ⟨k + 1, (o ++ [x4.num]), true, v45, s46, rfl, rfl, hO48.pick [0, 1, 1, 1] rfl, by omega, by rw [insI_succ hq39, hp]; simp [insS, h3, h6, h13, h14, h40, h51] <;> omega, hg49⟩ (by dsimp only; omega))
            · -- not: q38 = x4.num
              refine CW.yes (kb (bN (dF h51))) ?_
              refine CW.region ?_
              refine LW.value (.free rfl) rfl (fun _ r => R.move (r.e rfl)) ?_
              refine LW.value (.free rfl) rfl (fun _ r => R.move (r.e rfl)) ?_
              refine LW.value (.free rfl) rfl (fun _ r => R.move (r.e rfl)) ?_
              have hl52 : k < ((handR l i)).length := by (try simp only [List.length_append, List.length_set, List.length_singleton]); omega
              refine LW.value (.free rfl) rfl (fun _ r => R.indexAddr_v (k := k * 1) (r.e rfl) hv36 (r.e rfl) Try.runUnderlying32 Try.sizeOf3 (by omega) (by omega) (by simp)) ?_
              refine LW.value (.free rfl) rfl (fun _ r => R.load1 (r.e rfl) Try.isAgg3 (hg37.cellAt hO48 (i := 2) (j := 0) rfl (fun _ _ => rfl) hq39 rfl)) ?_
              refine LW.op (.free rfl) (OW.buildSlice (cs := #[.int .i64 q38]) (e := 3) (vs := [(0, .int .i64 q38)]) rfl hO48 (fun _ r => ⟨⟨r.e rfl, rfl⟩, trivial⟩) (fun _ => by simp [go_sem, Instr.buildSlice, newRow]) ?_)
              intro b53 w54 hO55
              have hO56 := hO55.move [1] rfl
              refine LW.op (.free rfl) (OW.append (xs := (o ++ [x4.num])) (ys := [q38]) elem29 rfl hO56 rfl rfl hg49 (fun _ _ => rfl) (fun _ _ => rfl) rfl (fun _ => src (i := 1) hO56 rfl rfl) (by simp; omega) (by simp; omega) (by decide) ?_)
              intro v57 s58 w59 hO60 hg61
              refine LW.value (.free rfl) rfl (fun _ r => R.assign (r.e rfl)) ?_
              refine LW.nil (EW.inB_normal (EW.then (?_)))
              refine CW.region ?_
              refine LW.value (.free rfl) rfl (fun _ r => R.move (r.e rfl)) ?_
              refine LW.value (.free rfl) rfl (fun _ r => R.as (R.add (r.e rfl) (r.e rfl)) (congrArg (Value.int .i64) (wrap_i64 (by omega) (by omega)))) ?_
              refine LW.value (.free rfl) rfl (fun _ r => R.assign (r.e rfl)) ?_
              refine LW.nil ?_
              exact EW.sub (env' := [(0, .slice a n c), (3, v), (4, .int .i64 (i : Int)), (5, .int .i64 x4.num), (6, v57), (7, .bool true), (8, .int .i64 ((k + 1) : Int))]) ⟨rfl, rfl, rfl, rfl, rfl, rfl, rfl, trivial⟩ (EW.round (k + 1, ((o ++ [x4.num]) ++ [q38]), true, v57, s58) ⟨k + 1, ((o ++ [x4.num]) ++ [q38]), true, v57, s58, rfl, rfl, hO60.pick [0, 2, 2, 2] rfl, by omega, by rw [insI_succ hq39, hp]; simp [insS, h3, h6, h13, h14, h40, h51] <;> omega, hg61⟩ (by dsimp only; omega))
          · -- not: x4.num ≤ q38
            refine CW.no (kb (dF h40)) ?_
            refine CW.skip (EW.then (?_))
            refine CW.seq ?_
            refine CW.region ?_
            refine LW.value (.free rfl) rfl (fun _ r => R.move (r.e rfl)) ?_
            refine LW.value (.free rfl) rfl (fun _ r => R.move (r.e rfl)) ?_
            have hl62 : k < ((handR l i)).length := by (try simp only [List.length_append, List.length_set, List.length_singleton]); omega
            refine LW.value (.free rfl) rfl (fun _ r => R.indexAddr_v (k := k * 1) (r.e rfl) hv36 (r.e rfl) Try.runUnderlying32 Try.sizeOf3 (by omega) (by omega) (by simp)) ?_
            refine LW.value (.free rfl) rfl (fun _ r => R.load1 (r.e rfl) Try.isAgg3 (hg37.cellAt hO9 (i := 1) (j := 0) rfl (fun _ _ => rfl) hq39 rfl)) ?_
            refine LW.value (.free rfl) rfl (fun _ r => R.move (r.e rfl)) ?_
            refine LW.value (.free rfl) rfl (fun _ r => R.neq (r.e rfl) (r.e rfl)) ?_
            refine LW.nil (EW.then (?_))
            by_cases h63 : q38 = x4.num
            · -- q38 = x4.num
              refine CW.no (kb (bN (dT h63))) ?_
              refine CW.skip (EW.inB_normal (EW.then (?_)))
              refine CW.region ?_
              refine LW.value (.free rfl) rfl (fun _ r => R.move (r.e rfl)) ?_
              refine LW.value (.free rfl) rfl (fun _ r => R.as (R.add (r.e rfl) (r.e rfl)) (congrArg (Value.int .i64) (wrap_i64 (by omega) (by omega)))) ?_
              refine LW.value (.free rfl) rfl (fun _ r => R.assign (r.e rfl)) ?_
              refine LW.nil ?_
              exact EW.sub (env' := [(0, .slice a n c), (3, v), (4, .int .i64 (i : Int)), (5, .int .i64 x4.num), (6, u), (7, .bool b), (8, .int .i64 ((k + 1) : Int))]) ⟨rfl, rfl, rfl, rfl, rfl, rfl, rfl, trivial⟩ (EW.round (k + 1, o, b, u, s2) ⟨k + 1, o, b, u, s2, rfl, rfl, hO9.pick [0, 0, 0, 0] rfl, by omega, by rw [insI_succ hq39, hp]; simp [insS, h3, h6, h13, h14, h40, h63] <;> omega, hg2⟩ (by dsimp only; omega))
            · -- not: q38 = x4.num
              refine CW.yes (kb (bN (dF h63))) ?_
              refine CW.region ?_
              refine LW.value (.free rfl) rfl (fun _ r => R.move (r.e rfl)) ?_
              refine LW.value (.free rfl) rfl (fun _ r => R.move (r.e rfl)) ?_
              refine LW.value (.free rfl) rfl (fun _ r => R.move (r.e rfl)) ?_
              have hl64 : k < ((handR l i)).length := by (try simp only [List.length_append, List.length_set, List.length_singleton]); omega
              refine LW.value (.free rfl) rfl (fun _ r => R.indexAddr_v (k := k * 1) (r.e rfl) hv36 (r.e rfl) Try.runUnderlying32 Try.sizeOf3 (by omega) (by omega) (by simp)) ?_
              refine LW.value (.free rfl) rfl (fun _ r => R.load1 (r.e rfl) Try.isAgg3 (hg37.cellAt hO9 (i := 1) (j := 0) rfl (fun _ _ => rfl) hq39 rfl)) ?_
              refine LW.op (.free rfl) (OW.buildSlice (cs := #[.int .i64 q38]) (e := 3) (vs := [(0, .int .i64 q38)]) rfl hO9 (fun _ r => ⟨⟨r.e rfl, rfl⟩, trivial⟩) (fun _ => by simp [go_sem, Instr.buildSlice, newRow]) ?_)
              intro b65 w66 hO67
              have hO68 := hO67.move [1] rfl
              refine LW.op (.free rfl) (OW.append (xs := o) (ys := [q38]) elem29 rfl hO68 rfl rfl hg2 (fun _ _ => rfl) (fun _ _ => rfl) rfl (fun _ => src (i := 1) hO68 rfl rfl) (by simp; omega) (by simp; omega) (by decide) ?_)
              intro v69 s70 w71 hO72 hg73
              refine LW.value (.free rfl) rfl (fun _ r => R.assign (r.e rfl)) ?_
              refine LW.nil (EW.inB_normal (EW.then (?_)))
              refine CW.region ?_
              refine LW.value (.free rfl) rfl (fun _ r => R.move (r.e rfl)) ?_
              refine LW.value (.free rfl) rfl (fun _ r => R.as (R.add (r.e rfl) (r.e rfl)) (congrArg (Value.int .i64) (wrap_i64 (by omega) (by omega)))) ?_
              refine LW.value (.free rfl) rfl (fun _ r => R.assign (r.e rfl)) ?_
              refine LW.nil ?_
              exact EW.sub (env' := [(0, .slice a n c), (3, v), (4, .int .i64 (i : Int)), (5, .int .i64 x4.num), (6, v69), (7, .bool b), (8, .int .i64 ((k + 1) : Int))]) ⟨rfl, rfl, rfl, rfl, rfl, rfl, rfl, trivial⟩ (EW.round (k + 1, (o ++ [q38]), b, v69, s70) ⟨k + 1, (o ++ [q38]), b, v69, s70, rfl, rfl, hO72.pick [0, 1, 1, 1] rfl, by omega, by rw [insI_succ hq39, hp]; simp [insS, h3, h6, h13, h14, h40, h63] <;> omega, hg73⟩ (by dsimp only; omega))
      · -- not: (k : Int) < (((handR l i)).length : Int)
        refine CW.no (kb (dF h13)) ?_
        refine CW.exit (EW.then_exit (EW.then_exit (EW.inB_same (EW.then (?_)))))
        refine CW.seq ?_
        refine CW.seq ?_
        refine CW.region ?_
        refine LW.value (.free rfl) rfl (fun _ r => R.move (r.e rfl)) ?_
        refine LW.value (.free rfl) rfl (fun _ r => R.not (r.e rfl)) ?_
        refine LW.nil (EW.then (?_))
        rcases Bool.eq_false_or_eq_true b with h74 | h74
        · -- b
          refine CW.no (kb (bN h74)) ?_
          refine CW.skip (EW.then (?_))
          refine CW.region ?_
          refine LW.value (.free rfl) rfl (fun _ r => R.move (r.e rfl)) ?_
          refine LW.value (.free rfl) rfl (fun _ r => R.assign (r.e rfl)) ?_
          refine LW.nil (EW.inB_normal (EW.then (?_)))
          refine CW.region ?_
          refine LW.value (.free rfl) rfl (fun _ r => R.move (r.e rfl)) ?_
          refine LW.value (.free rfl) rfl (fun _ r => R.as (R.add (r.e rfl) (r.e rfl)) (congrArg (Value.int .i64) (wrap_i64 (by omega) (by omega)))) ?_
          refine LW.value (.free rfl) rfl (fun _ r => R.assign (r.e rfl)) ?_
          refine LW.nil ?_
          exact EW.sub (env' := [(0, .slice a n c), (3, u), (4, .int .i64 ((i + 1) : Int))]) ⟨rfl, rfl, rfl, trivial⟩ (EW.round (i + 1, u, s2) ⟨i + 1, u, s2, rfl, rfl, hO9.pick [0, 1, 1] rfl, by omega, by rw [handR_succ hxx4, show hOf x4 = x4.num from by simp [hOf, h6], insT_eq hp (by omega)]; simpa [h74] using hg2⟩ (by dsimp only; omega))
        · -- not: b
          refine CW.yes (kb (bN h74)) ?_
          refine CW.region ?_
          refine LW.value (.free rfl) rfl (fun _ r => R.move (r.e rfl)) ?_
          refine LW.value (.free rfl) rfl (fun _ r => R.move (r.e rfl)) ?_
          refine LW.op (.free rfl) (OW.buildSlice (cs := #[.int .i64 x4.num]) (e := 3) (vs := [(0, .int .i64 x4.num)]) rfl hO9 (fun _ r => ⟨⟨r.e rfl, rfl⟩, trivial⟩) (fun _ => by simp [go_sem, Instr.buildSlice, newRow]) ?_)
          intro b75 w76 hO77
          have hO78 := hO77.move [1] rfl
          refine LW.op (.free rfl) (OW.append (xs := o) (ys := [x4.num]) elem29 rfl hO78 rfl rfl hg2 (fun _ _ => rfl) (fun _ _ => rfl) rfl (fun _ => src (i := 1) hO78 rfl rfl) (by simp; omega) (by simp; omega) (by decide) ?_)
          intro v79 s80 w81 hO82 hg83
          refine LW.value (.free rfl) rfl (fun _ r => R.assign (r.e rfl)) ?_
          refine LW.nil (EW.then (?_))
          refine CW.region ?_
          refine LW.value (.free rfl) rfl (fun _ r => R.move (r.e rfl)) ?_
          refine LW.value (.free rfl) rfl (fun _ r => R.assign (r.e rfl)) ?_
          refine LW.nil (EW.inB_normal (EW.then (?_)))
          refine CW.region ?_
          refine LW.value (.free rfl) rfl (fun _ r => R.move (r.e rfl)) ?_
          refine LW.value (.free rfl) rfl (fun _ r => R.as (R.add (r.e rfl) (r.e rfl)) (congrArg (Value.int .i64) (wrap_i64 (by omega) (by omega)))) ?_
          refine LW.value (.free rfl) rfl (fun _ r => R.assign (r.e rfl)) ?_
          refine LW.nil ?_
          exact EW.sub (env' := [(0, .slice a n c), (3, v79), (4, .int .i64 ((i + 1) : Int))]) ⟨rfl, rfl, rfl, trivial⟩ (EW.round (i + 1, v79, s80) ⟨i + 1, v79, s80, rfl, rfl, hO82.pick [0, 2, 2] rfl, by omega, by rw [handR_succ hxx4, show hOf x4 = x4.num from by simp [hOf, h6], insT_eq hp (by omega)]; simpa [h74] using hg83⟩ (by dsimp only; omega))
    · -- not: x4.back
      refine CW.no (kb h6) ?_
      refine CW.skip (EW.then (?_))
      refine CW.seq ?_
      refine CW.region ?_
      refine LW.value (.free rfl) rfl (fun _ r => R.assign (r.e rfl)) ?_
      refine LW.nil (EW.then (?_))
      refine CW.seq ?_
      refine CW.region ?_
      refine LW.value (.free rfl) rfl (fun _ r => R.assign (r.e rfl)) ?_
      refine LW.nil (EW.then (?_))
      refine CW.seq ?_
      refine CW.seq ?_
      refine CW.region ?_
      refine LW.value (.free rfl) rfl (fun _ r => R.assign (r.e rfl)) ?_
      refine LW.nil (EW.then (?_))
      refine CW.block ?_
      refine CW.sub (env' := [(0, .slice a n c), (3, v), (4, .int .i64 (i : Int)), (5, .int .i64 x4.h), (6, (.slice none 0 0)), (7, .bool false), (8, .int .i64 (0 : Int))]) ⟨rfl, rfl, rfl, rfl, rfl, rfl, rfl, trivial⟩ ?_
      refine CW.loop (α := Nat × List Int × Bool × Value × Seg) (fun (x_ : Nat × List Int × Bool × Value × Seg) env_ w_ => ∃ k o b u s2, x_ = (k, o, b, u, s2) ∧ env_ = [(0, .slice a n c), (3, v), (4, .int .i64 (i : Int)), (5, .int .i64 x4.h), (6, u), (7, .bool b), (8, .int .i64 (k : Int))] ∧ Own w_ [s2, s, G, F] ∧ (k ≤ (handR l i).length) ∧ (insI x4.h (handR l i) k = (o, b)) ∧ (Grow 3 1 encI u s2 o)) (fun (x_ : Nat × List Int × Bool × Value × Seg) => (handR l i).length - x_.1) (0, [], false, .slice none 0 0, []) ⟨0, [], false, .slice none 0 0, [], rfl, rfl, (hO2.pick [0, 0, 0] rfl).nil, Nat.zero_le _, rfl, Grow.start⟩ ?_
      rintro _ _ w84 ⟨k, o, b, u, s2, rfl, rfl, hO85, hk, hp, hg2⟩
      have hol := (insI_mem hp hk).2; have hol' : o.length ≤ i + 1 := by cases b <;> simp at hol <;> omega
      refine CW.seq ?_
      refine CW.seq ?_
      refine CW.region ?_
      refine LW.value (.free rfl) rfl (fun _ r => R.move (r.e rfl)) ?_
      refine LW.value (.free rfl) rfl (fun _ r => R.move (r.e rfl)) ?_
      obtain ⟨a86, cap87, hv88⟩ := Grow.slice hg
      refine LW.value (.free rfl) rfl (fun _ r => R.len_slice_v (r.e rfl) hv88 Try.runUnderlying32) ?_
      refine LW.value (.free rfl) rfl (fun _ r => R.lss (r.e rfl) (r.e rfl)) ?_
      refine LW.nil (EW.then (?_))
      by_cases h89 : (k : Int) < (((handR l i)).length : Int)
      · -- (k : Int) < (((handR l i)).length : Int)
        refine CW.yes (kb (dT h89)) ?_
        refine CW.skip (EW.then (?_))
        refine CW.seq ?_
        refine CW.block ?_
        refine CW.seq ?_
        refine CW.seq ?_
        refine CW.region ?_
        refine LW.value (.free rfl) rfl (fun _ r => R.move (r.e rfl)) ?_
        refine LW.value (.free rfl) rfl (fun _ r => R.not (r.e rfl)) ?_
        refine LW.value (.free rfl) rfl (fun _ r => R.move (r.e rfl)) ?_
        rcases Bool.eq_false_or_eq_true b with h90 | h90
        · -- b
          refine LW.off (.no rfl rfl (kb (bN h90))) rfl ?_
          refine LW.off (.no rfl rfl (kb (bN h90))) rfl ?_
          refine LW.off (.no rfl rfl (kb (bN h90))) rfl ?_
          refine LW.off (.no rfl rfl (kb (bN h90))) rfl ?_
          refine LW.off (.no rfl rfl (kb (bN h90))) rfl ?_
          refine LW.off (.no rfl rfl (kb (bN h90))) rfl ?_
          refine LW.value (.free rfl) rfl (fun _ r => R.pick_no (r.e (kb (bN h90))) (r.e rfl)) ?_
          refine LW.nil (EW.then (?_))
          refine CW.no rfl ?_
          refine CW.skip (EW.then (?_))
          refine CW.seq ?_
          refine CW.region ?_
          refine LW.value (.free rfl) rfl (fun _ r => R.move (r.e rfl)) ?_
          refine LW.value (.free rfl) rfl (fun _ r => R.move (r.e rfl)) ?_
          have hl91 : k < ((handR l i)).length := by (try simp only [List.length_append, List.length_set, List.length_singleton]); omega
          obtain ⟨b92, cap93, hv94⟩ := Grow.opened hg (by omega)
          have hg95 := hg
          rw [hv94] at hg95
          obtain ⟨q96, hq97⟩ : ∃ t, ((handR l i))[k]? = some t := ⟨_, List.getElem?_eq_getElem hl91⟩
          refine LW.value (.free rfl) rfl (fun _ r => R.indexAddr_v (k := k * 1) (r.e rfl) hv94 (r.e rfl) Try.runUnderlying32 Try.sizeOf3 (by omega) (by omega) (by simp)) ?_
          refine LW.value (.free rfl) rfl (fun _ r => R.load1 (r.e rfl) Try.isAgg3 (hg95.cellAt hO85 (i := 1) (j := 0) rfl (fun _ _ => rfl) hq97 rfl)) ?_
          refine LW.value (.free rfl) rfl (fun _ r => R.move (r.e rfl)) ?_
          refine LW.value (.free rfl) rfl (fun _ r => R.neq (r.e rfl) (r.e rfl)) ?_
          refine LW.nil (EW.then (?_))
          by_cases h98 : q96 = x4.h
          · -- q96 = x4.h
            refine CW.no (kb (bN (dT h98))) ?_
            refine CW.skip (EW.inB_normal (EW.then (?_)))
            refine CW.region ?_
            refine LW.value (.free rfl) rfl (fun _ r => R.move (r.e rfl)) ?_
            refine LW.value (.free rfl) rfl (fun _ r => R.as (R.add (r.e rfl) (r.e rfl)) (congrArg (Value.int .i64) (wrap_i64 (by omega) (by omega)))) ?_
            refine LW.value (.free rfl) rfl (fun _ r => R.assign (r.e rfl)) ?_
            refine LW.nil ?_
            exact EW.sub (env' := [(0, .slice a n c), (3, v), (4, .int .i64 (i : Int)), (5, .int .i64 x4.h), (6, u), (7, .bool b), (8, .int .i64 ((k + 1) : Int))]) ⟨rfl, rfl, rfl, rfl, rfl, rfl, rfl, trivial⟩ (EW.round (k + 1, o, b, u, s2) ⟨k + 1, o, b, u, s2, rfl, rfl, hO85.pick [0, 0, 0, 0] rfl, by omega, by rw [insI_succ hq97, hp]; simp [insS, h3, h6, h89, h90, h98] <;> omega, hg2⟩ (by dsimp only; omega))
          · -- not: q96 = x4.h
            refine CW.yes (kb (bN (dF h98))) ?_
            refine CW.region ?_
            refine LW.value (.free rfl) rfl (fun _ r => R.move (r.e rfl)) ?_
            refine LW.value (.free rfl) rfl (fun _ r => R.move (r.e rfl)) ?_
            refine LW.value (.free rfl) rfl (fun _ r => R.move (r.e rfl)) ?_
            have hl99 : k < ((handR l i)).length := by (try simp only [List.length_append, List.length_set, List.length_singleton]); omega
            refine LW.value (.free rfl) rfl (fun _ r => R.indexAddr_v (k := k * 1) (r.e rfl) hv94 (r.e rfl) Try.runUnderlying32 Try.sizeOf3 (by omega) (by omega) (by simp)) ?_
            refine LW.value (.free rfl) rfl (fun _ r => R.load1 (r.e rfl) Try.isAgg3 (hg95.cellAt hO85 (i := 1) (j := 0) rfl (fun _ _ => rfl) hq97 rfl)) ?_
            refine LW.op (.free rfl) (OW.buildSlice (cs := #[.int .i64 q96]) (e := 3) (vs := [(0, .int .i64 q96)]) rfl hO85 (fun _ r => ⟨⟨r.e rfl, rfl⟩, trivial⟩) (fun _ => by simp [go_sem, Instr.buildSlice, newRow]) ?_)
            intro b100 w101 hO102
            have hO103 := hO102.move [1] rfl
            refine LW.op (.free rfl) (OW.append (xs := o) (ys := [q96]) elem29 rfl hO103 rfl rfl hg2 (fun _ _ => rfl) (fun _ _ => rfl) rfl (fun _ => src (i := 1) hO103 rfl rfl) (by simp; omega) (by simp; omega) (by decide) ?_)
            intro v104 s105 w106 hO107 hg108
            refine LW.value (.free rfl) rfl (fun _ r => R.assign (r.e rfl)) ?_
            refine LW.nil (EW.inB_normal (EW.then (?_)))
            refine CW.region ?_
            refine LW.value (.free rfl) rfl (fun _ r => R.move (r.e rfl)) ?_
            refine LW.value (.free rfl) rfl (fun _ r => R.as (R.add (r.e rfl) (r.e rfl)) (congrArg (Value.int .i64) (wrap_i64 (by omega) (by omega)))) ?_
            refine LW.value (.free rfl) rfl (fun _ r => R.assign (r.e rfl)) ?_
            refine LW.nil ?_
            exact EW.sub (env' := [(0, .slice a n c), (3, v), (4, .int .i64 (i : Int)), (5, .int .i64 x4.h), (6, v104), (7, .bool b), (8, .int .i64 ((k + 1) : Int))]) ⟨rfl, rfl, rfl, rfl, rfl, rfl, rfl, trivial⟩ (EW.round (k + 1, (o ++ [q96]), b, v104, s105) ⟨k + 1, (o ++ [q96]), b, v104, s105, rfl, rfl, hO107.pick [0, 1, 1, 1] rfl, by omega, by rw [insI_succ hq97, hp]; simp [insS, h3, h6, h89, h90, h98] <;> omega, hg108⟩ (by dsimp only; omega))
        · -- not: b
          refine LW.value (.yes rfl rfl (kb (bN h90))) rfl (fun _ r => R.move (r.e rfl)) ?_
          refine LW.value (.yes rfl rfl (kb (bN h90))) rfl (fun _ r => R.move (r.e rfl)) ?_
          have hl109 : k < ((handR l i)).length := by (try simp only [List.length_append, List.length_set, List.length_singleton]); omega
          obtain ⟨b110, cap111, hv112⟩ := Grow.opened hg (by omega)
          have hg113 := hg
          rw [hv112] at hg113
          obtain ⟨q114, hq115⟩ : ∃ t, ((handR l i))[k]? = some t := ⟨_, List.getElem?_eq_getElem hl109⟩
          refine LW.value (.yes rfl rfl (kb (bN h90))) rfl (fun _ r => R.indexAddr_v (k := k * 1) (r.e rfl) hv112 (r.e rfl) Try.runUnderlying32 Try.sizeOf3 (by omega) (by omega) (by simp)) ?_
          refine LW.value (.yes rfl rfl (kb (bN h90))) rfl (fun _ r => R.load1 (r.e rfl) Try.isAgg3 (hg113.cellAt hO85 (i := 1) (j := 0) rfl (fun _ _ => rfl) hq115 rfl)) ?_
          refine LW.value (.yes rfl rfl (kb (bN h90))) rfl (fun _ r => R.move (r.e rfl)) ?_
          refine LW.value (.yes rfl rfl (kb (bN h90))) rfl (fun _ r => R.geq (r.e rfl) (r.e rfl)) ?_
          refine LW.value (.free rfl) rfl (fun _ r => R.pick_yes (r.e (kb (bN h90))) (r.e rfl)) ?_
          refine LW.nil (EW.then (?_))
          by_cases h116 : x4.h ≤ q114
          · -- x4.h ≤ q114
            refine CW.yes (kb (dT h116)) ?_
            refine CW.seq ?_
            refine CW.region ?_
            refine LW.value (.free rfl) rfl (fun _ r => R.move (r.e rfl)) ?_
            refine LW.value (.free rfl) rfl (fun _ r => R.move (r.e rfl)) ?_
            refine LW.op (.free rfl) (OW.buildSlice (cs := #[.int .i64 x4.h]) (e := 3) (vs := [(0, .int .i64 x4.h)]) rfl hO85 (fun _ r => ⟨⟨r.e rfl, rfl⟩, trivial⟩) (fun _ => by simp [go_sem, Instr.buildSlice, newRow]) ?_)
            intro b117 w118 hO119
            have hO120 := hO119.move [1] rfl
            refine LW.op (.free rfl) (OW.append (xs := o) (ys := [x4.h]) elem29 rfl hO120 rfl rfl hg2 (fun _ _ => rfl) (fun _ _ => rfl) rfl (fun _ => src (i := 1) hO120 rfl rfl) (by simp; omega) (by simp; omega) (by decide) ?_)
            intro v121 s122 w123 hO124 hg125
            refine LW.value (.free rfl) rfl (fun _ r => R.assign (r.e rfl)) ?_
            refine LW.nil (EW.then (?_))
            refine CW.region ?_
            refine LW.value (.free rfl) rfl (fun _ r => R.assign (r.e rfl)) ?_
            refine LW.nil (EW.then (?_))
            refine CW.seq ?_
            refine CW.region ?_
            refine LW.value (.free rfl) rfl (fun _ r => R.move (r.e rfl)) ?_
            refine LW.value (.free rfl) rfl (fun _ r => R.move (r.e rfl)) ?_
            have hl126 : k < ((handR l i)).length := by (try simp only [List.length_append, List.length_set, List.length_singleton]); omega
            refine LW.value (.free rfl) rfl (fun _ r => R.indexAddr_v (k := k * 1) (r.e rfl) hv112 (r.e rfl) Try.runUnderlying32 Try.sizeOf3 (by omega) (by omega) (by simp)) ?_
            refine LW.value (.free rfl) rfl (fun _ r => R.load1 (r.e rfl) Try.isAgg3 (hg113.cellAt hO124 (i := 2) (j := 0) rfl (fun _ _ => rfl) hq115 rfl)) ?_
            refine LW.value (.free rfl) rfl (fun _ r => R.move (r.e rfl)) ?_
            refine LW.value (.free rfl) rfl (fun _ r => R.neq (r.e rfl) (r.e rfl)) ?_
            refine LW.nil (EW.then (?_))
            by_cases h127 : q114 = x4.h
            · -- q114 = x4.h
              refine CW.no (kb (bN (dT h127))) ?_
              refine CW.skip (EW.inB_normal (EW.then (?_)))
              refine CW.region ?_
              refine LW.value (.free rfl) rfl (fun _ r => R.move (r.e rfl)) ?_
              refine LW.value (.free rfl) rfl (fun _ r => R.as (R.add (r.e rfl) (r.e rfl)) (congrArg (Value.int .i64) (wrap_i64 (by omega) (by omega)))) ?_
              refine LW.value (.free rfl) rfl (fun _ r => R.assign (r.e rfl)) ?_
              refine LW.nil ?_
              exact EW.sub (env' := [(0, .slice a n c), (3, v), (4, .int .i64 (i : Int)), (5, .int .i64 x4.h), (6, v121), (7, .bool true), (8, .int .i64 ((k + 1) : Int))]) ⟨rfl, rfl, rfl, rfl, rfl, rfl, rfl, trivial⟩ (EW.round (k + 1, (o ++ [x4.h]), true, v121, s122) ⟨k + 1, (o ++ [x4.h]), true, v121, s122, rfl, rfl, hO124.pick [0, 1, 1, 1] rfl, by omega, by rw [insI_succ hq115, hp]; simp [insS, h3, h6, h89, h90, h116, h127] <;> omega, hg125⟩ (by dsimp only; omega))
            · -- not: q114 = x4.h
              refine CW.yes (kb (bN (dF h127))) ?_
              refine CW.region ?_
              refine LW.value (.free rfl) rfl (fun _ r => R.move (r.e rfl)) ?_
              refine LW.value (.free rfl) rfl (fun _ r => R.move (r.e rfl)) ?_
              refine LW.value (.free rfl) rfl (fun _ r => R.move (r.e rfl)) ?_
              have hl128 : k < ((handR l i)).length := by (try simp only [List.length_append, List.length_set, List.length_singleton]); omega
              refine LW.value (.free rfl) rfl (fun _ r => R.indexAddr_v (k := k * 1) (r.e rfl) hv112 (r.e rfl) Try.runUnderlying32 Try.sizeOf3 (by omega) (by omega) (by simp)) ?_
              refine LW.value (.free rfl) rfl (fun _ r => R.load1 (r.e rfl) Try.isAgg3 (hg113.cellAt hO124 (i := 2) (j := 0) rfl (fun _ _ => rfl) hq115 rfl)) ?_
              refine LW.op (.free rfl) (OW.buildSlice (cs := #[.int .i64 q114]) (e := 3) (vs := [(0, .int .i64 q114)]) rfl hO124 (fun _ r => ⟨⟨r.e rfl, rfl⟩, trivial⟩) (fun _ => by simp [go_sem, Instr.buildSlice, newRow]) ?_)
              intro b129 w130 hO131
              have hO132 := hO131.move [1] rfl
              refine LW.op (.free rfl) (OW.append (xs := (o ++ [x4.h])) (ys := [q114]) elem29 rfl hO132 rfl rfl hg125 (fun _ _ => rfl) (fun _ _ => rfl) rfl (fun _ => src (i := 1) hO132 rfl rfl) (by simp; omega) (by simp; omega) (by decide) ?_)
              intro v133 s134 w135 hO136 hg137
              refine LW.value (.free rfl) rfl (fun _ r => R.assign (r.e rfl)) ?_
              refine LW.nil (EW.inB_normal (EW.then (?_)))
              refine CW.region ?_
              refine LW.value (.free rfl) rfl (fun _ r => R.move (r.e rfl)) ?_
              refine LW.value (.free rfl) rfl (fun _ r => R.as (R.add (r.e rfl) (r.e rfl)) (congrArg (Value.int .i64) (wrap_i64 (by omega) (by omega)))) ?_
              refine LW.value (.free rfl) rfl (fun _ r => R.assign (r.e rfl)) ?_
              refine LW.nil ?_
              exact EW.sub (env' := [(0, .slice a n c), (3, v), (4, .int .i64 (i : Int)), (5, .int .i64 x4.h), (6, v133), (7, .bool true), (8, .int .i64 ((k + 1) : Int))]) ⟨rfl, rfl, rfl, rfl, rfl, rfl, rfl, trivial⟩ (EW.round (k + 1, ((o ++ [x4.h]) ++ [q114]), true, v133, s134) ⟨k + 1, ((o ++ [x4.h]) ++ [q114]), true, v133, s134, rfl, rfl, hO136.pick [0, 2, 2, 2] rfl, by omega, by rw [insI_succ hq115, hp]; simp [insS, h3, h6, h89, h90, h116, h127] <;> omega, hg137⟩ (by dsimp only; omega))
          · -- not: x4.h ≤ q114
            refine CW.no (kb (dF h116)) ?_
            refine CW.skip (EW.then (?_))
            refine CW.seq ?_
            refine CW.region ?_
            refine LW.value (.free rfl) rfl (fun _ r => R.move (r.e rfl)) ?_
            refine LW.value (.free rfl) rfl (fun _ r => R.move (r.e rfl)) ?_
            have hl138 : k < ((handR l i)).length := by (try simp only [List.length_append, List.length_set, List.length_singleton]); omega
            refine LW.value (.free rfl) rfl (fun _ r => R.indexAddr_v (k := k * 1) (r.e rfl) hv112 (r.e rfl) Try.runUnderlying32 Try.sizeOf3 (by omega) (by omega) (by simp)) ?_
            refine LW.value (.free rfl) rfl (fun _ r => R.load1 (r.e rfl) Try.isAgg3 (hg113.cellAt hO85 (i := 1) (j := 0) rfl (fun _ _ => rfl) hq115 rfl)) ?_
            refine LW.value (.free rfl) rfl (fun _ r => R.move (r.e rfl)) ?_
            refine LW.value (.free rfl) rfl (fun _ r => R.neq (r.e rfl) (r.e rfl)) ?_
            refine LW.nil (EW.then (?_))
            by_cases h139 : q114 = x4.h
            · -- q114 = x4.h
              refine CW.no (kb (bN (dT h139))) ?_
              refine CW.skip (EW.inB_normal (EW.then (?_)))
              refine CW.region ?_
              refine LW.value (.free rfl) rfl (fun _ r => R.move (r.e rfl)) ?_
              refine LW.value (.free rfl) rfl (fun _ r => R.as (R.add (r.e rfl) (r.e rfl)) (congrArg (Value.int .i64) (wrap_i64 (by omega) (by omega)))) ?_
              refine LW.value (.free rfl) rfl (fun _ r => R.assign (r.e rfl)) ?_
              refine LW.nil ?_
              exact EW.sub (env' := [(0, .slice a n c), (3, v), (4, .int .i64 (i : Int)), (5, .int .i64 x4.h), (6, u), (7, .bool b), (8, .int .i64 ((k + 1) : Int))]) ⟨rfl, rfl, rfl, rfl, rfl, rfl, rfl, trivial⟩ (EW.round (k + 1, o, b, u, s2) ⟨k + 1, o, b, u, s2, rfl, rfl, hO85.pick [0, 0, 0, 0] rfl, by omega, by rw [insI_succ hq115, hp]; simp [insS, h3, h6, h89, h90, h116, h139] <;> omega, hg2⟩ (by dsimp only; omega))
            · -- not: q114 = x4.h
              refine CW.yes (kb (bN (dF h139))) ?_
              refine CW.region ?_
              refine LW.value (.free rfl) rfl (fun _ r => R.move (r.e rfl)) ?_
              refine LW.value (.free rfl) rfl (fun _ r => R.move (r.e rfl)) ?_
              refine LW.value (.free rfl) rfl (fun _ r => R.move (r.e rfl)) ?_
              have hl140 : k < ((handR l i)).length := by (try simp only [List.length_append, List.length_set, List.length_singleton]); omega
              refine LW.value (.free rfl) rfl (fun _ r => R.indexAddr_v (k := k * 1) (r.e rfl) hv112 (r.e rfl) Try.runUnderlying32 Try.sizeOf3 (by omega) (by omega) (by simp)) ?_
              refine LW.value (.free rfl) rfl (fun _ r => R.load1 (r.e rfl) Try.isAgg3 (hg113.cellAt hO85 (i := 1) (j := 0) rfl (fun _ _ => rfl) hq115 rfl)) ?_
              refine LW.op (.free rfl) (OW.buildSlice (cs := #[.int .i64 q114]) (e := 3) (vs := [(0, .int .i64 q114)]) rfl hO85 (fun _ r => ⟨⟨r.e rfl, rfl⟩, trivial⟩) (fun _ => by simp [go_sem, Instr.buildSlice, newRow]) ?_)
              intro b141 w142 hO143
              have hO144 := hO143.move [1] rfl
              refine LW.op (.free rfl) (OW.append (xs := o) (ys := [q114]) elem29 rfl hO144 rfl rfl hg2 (fun _ _ => rfl) (fun _ _ => rfl) rfl (fun _ => src (i := 1) hO144 rfl rfl) (by simp; omega) (by simp; omega) (by decide) ?_)
              intro v145 s146 w147 hO148 hg149
              refine LW.value (.free rfl) rfl (fun _ r => R.assign (r.e rfl)) ?_
              refine LW.nil (EW.inB_normal (EW.then (?_)))
              refine CW.region ?_
              refine LW.value (.free rfl) rfl (fun _ r => R.move (r.e rfl)) ?_
              refine LW.value (.free rfl) rfl (fun _ r => R.as (R.add (r.e rfl) (r.e rfl)) (congrArg (Value.int .i64) (wrap_i64 (by omega) (by omega)))) ?_
              refine LW.value (.free rfl) rfl (fun _ r => R.assign (r.e rfl)) ?_
              refine LW.nil ?_
              exact EW.sub (env' := [(0, .slice a n c), (3, v), (4, .int .i64 (i : Int)), (5, .int .i64 x4.h), (6, v145), (7, .bool b), (8, .int .i64 ((k + 1) : Int))]) ⟨rfl, rfl, rfl, rfl, rfl, rfl, rfl, trivial⟩ (EW.round (k + 1, (o ++ [q114]), b, v145, s146) ⟨k + 1, (o ++ [q114]), b, v145, s146, rfl, rfl, hO148.pick [0, 1, 1, 1] rfl, by omega, by rw [insI_succ hq115, hp]; simp [insS, h3, h6, h89, h90, h116, h139] <;> omega, hg149⟩ (by dsimp only; omega))
      · -- not: (k : Int) < (((handR l i)).length : Int)
        refine CW.no (kb (dF h89)) ?_
        refine CW.exit (EW.then_exit (EW.then_exit (EW.inB_same (EW.then (?_)))))
        refine CW.seq ?_
        refine CW.seq ?_
        refine CW.region ?_
        refine LW.value (.free rfl) rfl (fun _ r => R.move (r.e rfl)) ?_
        refine LW.value (.free rfl) rfl (fun _ r => R.not (r.e rfl)) ?_
        refine LW.nil (EW.then (?_))
        rcases Bool.eq_false_or_eq_true b with h150 | h150
        · -- b
          refine CW.no (kb (bN h150)) ?_
          refine CW.skip (EW.then (?_))
          refine CW.region ?_
          refine LW.value (.free rfl) rfl (fun _ r => R.move (r.e rfl)) ?_
          refine LW.value (.free rfl) rfl (fun _ r => R.assign (r.e rfl)) ?_
          refine LW.nil (EW.inB_normal (EW.then (?_)))
          refine CW.region ?_
          refine LW.value (.free rfl) rfl (fun _ r => R.move (r.e rfl)) ?_
          refine LW.value (.free rfl) rfl (fun _ r => R.as (R.add (r.e rfl) (r.e rfl)) (congrArg (Value.int .i64) (wrap_i64 (by omega) (by omega)))) ?_
          refine LW.value (.free rfl) rfl (fun _ r => R.assign (r.e rfl)) ?_
          refine LW.nil ?_
          exact EW.sub (env' := [(0, .slice a n c), (3, u), (4, .int .i64 ((i + 1) : Int))]) ⟨rfl, rfl, rfl, trivial⟩ (EW.round (i + 1, u, s2) ⟨i + 1, u, s2, rfl, rfl, hO85.pick [0, 1, 1] rfl, by omega, by rw [handR_succ hxx4, show hOf x4 = x4.h from by simp [hOf, h6], insT_eq hp (by omega)]; simpa [h150] using hg2⟩ (by dsimp only; omega))
        · -- not: b
          refine CW.yes (kb (bN h150)) ?_
          refine CW.region ?_
          refine LW.value (.free rfl) rfl (fun _ r => R.move (r.e rfl)) ?_
          refine LW.value (.free rfl) rfl (fun _ r => R.move (r.e rfl)) ?_
          refine LW.op (.free rfl) (OW.buildSlice (cs := #[.int .i64 x4.h]) (e := 3) (vs := [(0, .int .i64 x4.h)]) rfl hO85 (fun _ r => ⟨⟨r.e rfl, rfl⟩, trivial⟩) (fun _ => by simp [go_sem, Instr.buildSlice, newRow]) ?_)
          intro b151 w152 hO153
          have hO154 := hO153.move [1] rfl
          refine LW.op (.free rfl) (OW.append (xs := o) (ys := [x4.h]) elem29 rfl hO154 rfl rfl hg2 (fun _ _ => rfl) (fun _ _ => rfl) rfl (fun _ => src (i := 1) hO154 rfl rfl) (by simp; omega) (by simp; omega) (by decide) ?_)
          intro v155 s156 w157 hO158 hg159
          refine LW.value (.free rfl) rfl (fun _ r => R.assign (r.e rfl)) ?_
          refine LW.nil (EW.then (?_))
          refine CW.region ?_
          refine LW.value (.free rfl) rfl (fun _ r => R.move (r.e rfl)) ?_
          refine LW.value (.free rfl) rfl (fun _ r => R.assign (r.e rfl)) ?_
          refine LW.nil (EW.inB_normal (EW.then (?_)))
          refine CW.region ?_
          refine LW.value (.free rfl) rfl (fun _ r => R.move (r.e rfl)) ?_
          refine LW.value (.free rfl) rfl (fun _ r => R.as (R.add (r.e rfl) (r.e rfl)) (congrArg (Value.int .i64) (wrap_i64 (by omega) (by omega)))) ?_
          refine LW.value (.free rfl) rfl (fun _ r => R.assign (r.e rfl)) ?_
          refine LW.nil ?_
          exact EW.sub (env' := [(0, .slice a n c), (3, v155), (4, .int .i64 ((i + 1) : Int))]) ⟨rfl, rfl, rfl, trivial⟩ (EW.round (i + 1, v155, s156) ⟨i + 1, v155, s156, rfl, rfl, hO158.pick [0, 2, 2] rfl, by omega, by rw [handR_succ hxx4, show hOf x4 = x4.h from by simp [hOf, h6], insT_eq hp (by omega)]; simpa [h150] using hg159⟩ (by dsimp only; omega))
  · -- not: (i : Int) < (n : Int)
    refine CW.no (kb (dF h3)) ?_
    refine CW.exit (EW.then_exit (EW.then_exit (EW.inB_same (EW.then (?_)))))
    refine CW.seq ?_
    refine CW.region ?_
    refine LW.value (.free rfl) rfl (fun _ r => R.move (r.e rfl)) ?_
    refine LW.value (.free rfl) rfl (fun _ r => R.assign (r.e rfl)) ?_
    refine LW.nil (EW.then (?_))
    refine CW.ret ?_
    refine EW.ret1 rfl rfl ?_
    have he : i = l.length := by omega
    subst he
    exact ⟨s, hg, hO2.pick [0, 0, 0] rfl⟩

end Go.Sd
