/-
  Package linear: the range over the calls.
-/
import Derived.Test.YtgkbmelecalllaaSf7
import Derived.Test.YtgkbmelecalllaaSf6
set_option linter.unusedSimpArgs false
set_option linter.unusedVariables false
set_option linter.unusedSectionVars false
namespace Go.Sd
open Go Go.Proofs
variable [Str]
set_option maxRecDepth 100000 in
set_option maxHeartbeats 400000 in
theorem v_resultsG (ps : Nat) (wv : Value) (aH : Option Addr) (nH cH : Nat) (G F : Seg) (aC : Option Addr) (nC cC : Nat) (cs : List Cal) (hC : Sl G 10 encL aC nC cC cs) (hn : cs.length ≤ 1000) (hs : List Int) (hH : Sl G 1 encI aH nH cH hs) (hhs : hs.length ≤ 1000)(pm : Nat) (X : List PT) (T : List Int) (hM : MIn G pm X T) (hT : T.length ≤ 1000000)  (c : Cal) (w : World) (hO : Own w [[(ps, .cells #[.slice aC nC cC, .slice aH nH cH, wv] 59 (0, 0))], G, F]) : Calls Try.prog 43 [.pointer (some ⟨ps, 0, none⟩), .pointer (some ⟨pm, 0, none⟩), .agg #[.int .i64 c.th, .int .i64 c.d, .int .i64 c.h, .int .i64 c.off, .int .i64 c.n, .int .i64 c.code, .int .i64 c.num, .bool c.done, .int .i64 c.frm, .int .i64 c.to_]].toArray w (Ret fun v w' => ∃ s, Grow 39 2 encR v s (resP X c hs) ∧ Own w' [s, [(ps, .cells #[.slice aC nC cC, .slice aH nH cH, wv] 59 (0, 0))], G, F]) := by
  have hlH := hH.hlen
  refine enter (n := 43) Try.func43 rfl rfl rfl ?_
  refine CW.seq ?_
  refine CW.region ?_
  refine LW.op (.free rfl) (OW.box (cs := #[.int .i64 c.th, .int .i64 c.d, .int .i64 c.h, .int .i64 c.off, .int .i64 c.n, .int .i64 c.code, .int .i64 c.num, .bool c.done, .int .i64 c.frm, .int .i64 c.to_]) rfl hO rfl rfl ?_)
  intro b1 w2 hO3
  refine LW.value (.free rfl) rfl (fun _ r => R.assign (r.e rfl)) ?_
  refine LW.nil (EW.then (?_))
  refine CW.seq ?_
  refine CW.seq ?_
  refine CW.region ?_
  refine LW.value (.free rfl) rfl (fun _ r => R.fieldAddr (k := 7) (r.e rfl) Try.runUnderlying73 rfl Try.sizeOf4 rfl) ?_
  refine LW.value (.free rfl) rfl (fun _ r => R.load1 (r.e rfl) Try.isAgg4 (hO3.cell (i := 0) rfl rfl)) ?_
  refine LW.nil (EW.then (?_))
  rcases Bool.eq_false_or_eq_true c.done with h4 | h4
  · -- c.done
    refine CW.yes (kb h4) ?_
    refine CW.seq ?_
    refine CW.region ?_
    refine LW.value (.free rfl) rfl (fun _ r => R.fieldAddr (k := 5) (r.e rfl) Try.runUnderlying73 rfl Try.sizeOf39 rfl) ?_
    refine LW.value (.free rfl) rfl (fun _ r => R.loadn (vs := [.int .i64 c.code, .int .i64 c.num]) (r.e rfl) Try.isAgg39 Try.sizeOf39 rfl (hO3.cells (i := 0) rfl rfl)) ?_
    refine LW.op (.free rfl) (OW.buildSlice (cs := #[.int .i64 c.code, .int .i64 c.num]) (e := 39) (vs := [(0, .agg #[.int .i64 c.code, .int .i64 c.num])]) rfl hO3 (fun _ r => ⟨⟨r.e rfl, rfl⟩, trivial⟩) (fun _ => by simp [go_sem, Instr.buildSlice, newRow]) ?_)
    intro b5 w6 hO7
    refine LW.value (.free rfl) rfl (fun _ r => R.assign (r.e rfl)) ?_
    refine LW.nil (EW.then (?_))
    refine CW.ret (EW.then_ret (?_))
    refine EW.ret1 rfl rfl ?_
    exact ⟨_, by rw [resP_done h4]; exact .inr ⟨b5, 1, [], rfl, rfl, rfl, Nat.le_refl _⟩, hO7.pick [0, 1, 1, 1] rfl⟩
  · -- not: c.done
    refine CW.no (kb h4) ?_
    refine CW.skip (EW.then (?_))
    refine CW.seq ?_
    refine CW.seq ?_
    refine CW.region ?_
    refine LW.value (.free rfl) rfl (fun _ r => R.move (r.e rfl)) ?_
    refine LW.value (.free rfl) rfl (fun _ r => R.fieldAddr (k := 1) (r.e rfl) Try.runUnderlying73 rfl Try.sizeOf36 rfl) ?_
    refine LW.value (.free rfl) rfl (fun _ r => R.loadn (vs := [.int .i64 c.d, .int .i64 c.h, .int .i64 c.off, .int .i64 c.n]) (r.e rfl) Try.isAgg36 Try.sizeOf36 rfl (hO3.cells (i := 0) rfl rfl)) ?_
    obtain ⟨a8, m9, t10, ha11⟩ : ∃ a m t, ansP X c.d c.h c.off c.n = (a, m, t) := ⟨_, _, _, rfl⟩
    refine LW.op (.free rfl) (OW.calls rfl (fun _ r => R.call (vs := [.pointer (some ⟨pm, 0, none⟩), .agg #[.int .i64 c.d, .int .i64 c.h, .int .i64 c.off, .int .i64 c.n]]) Try.call52 rfl ⟨r.e rfl, r.e rfl, trivial⟩) (g_answer hM hT ha11 (hO3.frame [2] rfl)) ?_)
    rintro _ w12 ⟨rfl, hO13⟩
    replace hO13 := hO13.unframe1
    refine LW.value (.free rfl) rfl (fun _ r => R.move (r.e rfl)) ?_
    refine LW.value (.free rfl) rfl (fun _ r => R.extract (r.e rfl) rfl) ?_
    refine LW.value (.free rfl) rfl (fun _ r => R.extract (r.e rfl) rfl) ?_
    refine LW.op (.free rfl) (OW.alloc (cs := #[.int .i64 0, .int .i64 0]) rfl hO13 Try.zeroValue39 rfl ?_)
    intro b14 w15 hO16
    refine LW.op (.free rfl) (OW.storeall (i := 0) (vs := [.int .i64 a8, .int .i64 m9]) rfl hO16 rfl rfl rfl rfl Try.sizeOf39 rfl ?_)
    intro w17 hO18
    refine LW.value (.free rfl) rfl (fun _ r => R.assign (r.e rfl)) ?_
    refine LW.nil (EW.then (?_))
    refine CW.seq ?_
    refine CW.region ?_
    refine LW.value (.free rfl) rfl (fun _ r => R.move (r.e rfl)) ?_
    refine LW.nil (EW.then (?_))
    rcases Bool.eq_false_or_eq_true t10 with h19 | h19
    · -- t10
      refine CW.yes (kb h19) ?_
      refine CW.seq ?_
      refine CW.region ?_
      refine LW.value (.free rfl) rfl (fun _ r => R.loadn (vs := [.int .i64 a8, .int .i64 m9]) (r.e rfl) Try.isAgg39 Try.sizeOf39 rfl (hO18.cells (i := 0) rfl rfl)) ?_
      refine LW.op (.free rfl) (OW.buildSlice (cs := #[.int .i64 a8, .int .i64 m9]) (e := 39) (vs := [(0, .agg #[.int .i64 a8, .int .i64 m9])]) rfl hO18 (fun _ r => ⟨⟨r.e rfl, rfl⟩, trivial⟩) (fun _ => by simp [go_sem, Instr.buildSlice, newRow]) ?_)
      intro b20 w21 hO22
      refine LW.value (.free rfl) rfl (fun _ r => R.assign (r.e rfl)) ?_
      refine LW.nil (EW.then (?_))
      refine CW.ret (EW.then_ret (?_))
      refine EW.ret1 rfl rfl ?_
      exact ⟨_, by rw [resP_ans h4 (ha11.trans (by rw [h19]))]; exact .inr ⟨b20, 1, [], rfl, rfl, rfl, Nat.le_refl _⟩, hO22.pick [0, 3, 1, 2] rfl⟩
    · -- not: t10
      refine CW.no (kb h19) ?_
      refine CW.skip (EW.then (?_))
      refine CW.seq ?_
      refine CW.region ?_
      refine LW.value (.free rfl) rfl (fun _ r => R.assign (r.e rfl)) ?_
      refine LW.nil (EW.then (?_))
      refine CW.seq ?_
      refine CW.seq ?_
      refine CW.region ?_
      refine LW.value (.free rfl) rfl (fun _ r => R.move (r.e rfl)) ?_
      refine LW.value (.free rfl) rfl (fun _ r => R.nilCheck (r.e rfl)) ?_
      refine LW.value (.free rfl) rfl (fun _ r => R.fieldAddr (k := 1) (r.e rfl) Try.runUnderlying59 rfl Try.sizeOf32 rfl) ?_
      refine LW.value (.free rfl) rfl (fun _ r => R.load1 (r.e rfl) Try.isAgg32 (hO18.cell (i := 3) rfl rfl)) ?_
      refine LW.value (.free rfl) rfl (fun _ r => R.len_slice (r.e rfl) Try.runUnderlying32) ?_
      refine LW.value (.free rfl) rfl (fun _ r => R.move (r.e rfl)) ?_
      refine LW.nil (EW.then (?_))
      refine CW.block ?_
      refine CW.sub (env' := [(9, (.slice none 0 0)), (30, .slice aH nH cH), (31, .int .i64 (nH : Int)), (32, .int .i64 (0 : Int))]) ⟨rfl, rfl, rfl, rfl, trivial⟩ ?_
      refine CW.loop (α := Nat × Value × Seg) (fun (x_ : Nat × Value × Seg) env_ w_ => ∃ i v s, x_ = (i, v, s) ∧ env_ = [(9, v), (30, .slice aH nH cH), (31, .int .i64 (nH : Int)), (32, .int .i64 (i : Int))] ∧ Own w_ [s, [(ps, .cells #[.slice aC nC cC, .slice aH nH cH, wv] 59 (0, 0))], G, F] ∧ (i ≤ hs.length) ∧ (Grow 39 2 encR v s ((hs.take i).map fun h => ((0, h) : Int × Int)))) (fun (x_ : Nat × Value × Seg) => hs.length - x_.1) (0, .slice none 0 0, []) ⟨0, .slice none 0 0, [], rfl, rfl, (hO18.pick [3, 1, 2] rfl).nil, Nat.zero_le _, Grow.start⟩ ?_
      rintro _ _ w23 ⟨i, v, s, rfl, rfl, hO24, hi, hg⟩
      refine CW.seq ?_
      refine CW.region ?_
      refine LW.value (.free rfl) rfl (fun _ r => R.lss (r.e rfl) (r.e rfl)) ?_
      refine LW.nil (EW.then (?_))
      refine CW.seq ?_
      by_cases h25 : (i : Int) < (nH : Int)
      · -- (i : Int) < (nH : Int)
        refine CW.yes (kb (dT h25)) ?_
        refine CW.skip (EW.then (?_))
        refine CW.seq ?_
        refine CW.block ?_
        refine CW.seq ?_
        refine CW.region ?_
        obtain ⟨x26, hxx26⟩ : ∃ t, (hs)[i]? = some t := ⟨_, List.getElem?_eq_getElem (by omega)⟩
        obtain ⟨blx26, olx26, hax26, hcx26⟩ := hH.at_ _ _ hxx26
        refine LW.value (.free rfl) rfl (fun _ r => R.indexAddr_o (k := olx26 + i * 1) (r.e rfl) hax26 (r.e rfl) Try.runUnderlying32 Try.sizeOf3 (by omega) (by omega) (by simp)) ?_
        refine LW.value (.free rfl) rfl (fun _ r => R.load1 (r.e rfl) Try.isAgg3 (hO24.pc (i := 2) rfl (hcx26 0 _ rfl))) ?_
        refine LW.value (.free rfl) rfl (fun _ r => R.assign (r.e rfl)) ?_
        refine LW.nil (EW.then (?_))
        refine CW.region ?_
        refine LW.value (.free rfl) rfl (fun _ r => R.move (r.e rfl)) ?_
        refine LW.value (.free rfl) rfl (fun _ r => R.move (r.e rfl)) ?_
        refine LW.value (.free rfl) rfl (fun _ r => R.build (v := .agg #[.int .i64 0, .int .i64 x26]) (vs := [(1, .int .i64 x26)]) ⟨⟨r.e rfl, rfl⟩, trivial⟩ (by simp [go_sem])) ?_
        refine LW.op (.free rfl) (OW.buildSlice (cs := #[.int .i64 0, .int .i64 x26]) (e := 39) (vs := [(0, .agg #[.int .i64 0, .int .i64 x26])]) rfl hO24 (fun _ r => ⟨⟨r.e rfl, rfl⟩, trivial⟩) (fun _ => by simp [go_sem, Instr.buildSlice, newRow]) ?_)
        intro b27 w28 hO29
        have hO30 := hO29.move [1] rfl
        refine LW.op (.free rfl) (OW.append (xs := ((hs.take i).map fun h => ((0, h) : Int × Int))) (ys := [((0, x26) : Int × Int)]) elemRes rfl hO30 rfl rfl hg (fun _ _ => rfl) (fun _ _ => rfl) rfl (fun _ => src (i := 1) hO30 rfl rfl) (by simp; omega) (by simp; omega) (by decide) ?_)
        intro v31 s32 w33 hO34 hg35
        refine LW.value (.free rfl) rfl (fun _ r => R.assign (r.e rfl)) ?_
        refine LW.nil (EW.inB_normal (EW.then (?_)))
        refine CW.region ?_
        refine LW.value (.free rfl) rfl (fun _ r => R.as (R.add (r.e rfl) (r.e rfl)) (congrArg (Value.int .i64) (wrap_i64 (by omega) (by omega)))) ?_
        refine LW.value (.free rfl) rfl (fun _ r => R.move (r.e rfl)) ?_
        refine LW.nil ?_
        exact EW.sub (env' := [(9, v31), (30, .slice aH nH cH), (31, .int .i64 (nH : Int)), (32, .int .i64 ((i + 1) : Int))]) ⟨rfl, rfl, rfl, rfl, trivial⟩ (EW.round (i + 1, v31, s32) ⟨i + 1, v31, s32, rfl, rfl, hO34.pick [0, 1, 1, 1] rfl, by omega, by rw [List.take_succ_eq_append_getElem (show i < hs.length by omega), List.map_append]; rw [List.getElem?_eq_getElem (show i < hs.length by omega)] at hxx26; cases hxx26; exact hg35⟩ (by dsimp only; omega))
      · -- not: (i : Int) < (nH : Int)
        refine CW.no (kb (dF h25)) ?_
        refine CW.exit (EW.then_exit (EW.then_exit (EW.inB_same (EW.then (?_)))))
        refine CW.seq ?_
        refine CW.region ?_
        refine LW.value (.free rfl) rfl (fun _ r => R.move (r.e rfl)) ?_
        refine LW.value (.free rfl) rfl (fun _ r => R.assign (r.e rfl)) ?_
        refine LW.nil (EW.then (?_))
        refine CW.ret ?_
        refine EW.ret1 rfl rfl ?_
        exact ⟨s, by rw [resP_hs h4 (ha11.trans (by rw [h19])), ← List.take_of_length_le (l := hs) (i := i) (by omega)]; exact hg, hO24.pick [0, 0, 0, 0] rfl⟩

set_option maxRecDepth 100000 in
set_option maxHeartbeats 400000 in
theorem v_backward (aC : Option Addr) (nC cC : Nat) (F : Seg) (w : World) (hO : Own w [F]) : Calls Try.prog 42 [.slice aC nC cC].toArray w (Ret fun v w' => ∃ bx, v = .func (.func 61) #[] #[.pointer (some ⟨bx, 0, none⟩)] ∧ Own w' [[(bx, .cells #[.slice aC nC cC] 53 (0, 0))], F]) := by
  refine enter (n := 4) Try.func42 rfl rfl rfl ?_
  refine CW.seq ?_
  refine CW.region ?_
  refine LW.op (.free rfl) (OW.box (cs := #[.slice aC nC cC]) rfl hO rfl rfl ?_)
  intro b1 w2 hO3
  refine LW.value (.free rfl) rfl (fun _ r => R.assign (r.e rfl)) ?_
  refine LW.nil (EW.then (?_))
  refine CW.seq ?_
  refine CW.region ?_
  refine LW.value (.free rfl) rfl (fun _ r => R.makeFunc (vs := [.pointer (some ⟨b1, 0, none⟩)]) ⟨r.e rfl, trivial⟩) ?_
  refine LW.value (.free rfl) rfl (fun _ r => R.assign (r.e rfl)) ?_
  refine LW.nil (EW.then (?_))
  refine CW.ret ?_
  refine EW.ret1 rfl rfl ?_
  exact ⟨b1, rfl, hO3.pick [0, 0] rfl⟩

set_option maxRecDepth 100000 in
set_option maxHeartbeats 1000000 in
theorem b_iter (l D bx : Nat) (fn0 : FuncId) (tm : Array Value) (ps : Array Tmp) (assign body : Code) (hps : ps.size = 2) (G : Seg) (aC : Option Addr) (nC cC : Nat) (cs : List Cal) (hC : Sl G 10 encL aC nC cC cs) (hn : cs.length ≤ 1000) (I : Nat → World → Prop)
    (hI : ∀ k w, I k w → ∃ G' R : Seg, (∀ p ∈ G, p ∈ G') ∧ Own w [[(l, lrec fn0 tm ps assign body D .ready)], [(bx, .cells #[.slice aC nC cC] 53 (0, 0))], G', R])
    (hround : ∀ (k : Nat) (w : World) (c : Cal), cs[k]? = some c → I (k + 1) w → RoundIn Fence.wide 0 Try.prog l fn0 ((ps.zip [.int .i64 k, .agg #[.int .i64 c.th, .int .i64 c.d, .int .i64 c.h, .int .i64 c.off, .int .i64 c.n, .int .i64 c.code, .int .i64 c.num, .bool c.done, .int .i64 c.frm, .int .i64 c.to_]].toArray).foldl (fun tmps (t, a) => tmps.setIfInBounds t a) tm) assign body w (fun e w' => e = .returned (.bool true) ∧ I k w'))
    (w : World) (h0 : I cs.length w) : Calls Try.prog 61 [.func (.yield l) #[] #[], .pointer (some ⟨bx, 0, none⟩)].toArray w (Ret fun v w' => I 0 w') := by
  have hlC := hC.hlen
  refine enter (n := 19) Try.func61 rfl rfl rfl ?_
  obtain ⟨G1, R2, hs3, hO4⟩ := hI _ _ h0
  refine CW.seq ?_
  refine CW.region ?_
  refine LW.value (.free rfl) rfl (fun _ r => R.load1 (r.e rfl) Try.isAgg53 (hO4.cell (i := 1) rfl rfl)) ?_
  refine LW.value (.free rfl) rfl (fun _ r => R.len_slice (r.e rfl) Try.runUnderlying53) ?_
  refine LW.value (.free rfl) rfl (fun _ r => R.as (R.sub (r.e rfl) (r.e rfl)) (congrArg (Value.int .i64) (wrap_i64 (by omega) (by omega)))) ?_
  refine LW.value (.free rfl) rfl (fun _ r => R.assign (r.e rfl)) ?_
  refine LW.nil (EW.then (?_))
  refine CW.block ?_
  refine CW.sub (env' := [(0, .func (.yield l) #[] #[]), (1, .pointer (some ⟨bx, 0, none⟩)), (3, .int .i64 ((nC : Int) - 1))]) ⟨rfl, rfl, rfl, trivial⟩ ?_
  refine CW.loop (α := Nat × Int) (fun x_ env_ w_ => env_ = [(0, .func (.yield l) #[] #[]), (1, .pointer (some ⟨bx, 0, none⟩)), (3, .int .i64 x_.2)] ∧ x_.1 ≤ cs.length ∧ x_.2 = (x_.1 : Int) - 1 ∧ I x_.1 w_) (fun x_ => x_.1) (cs.length, (nC : Int) - 1) ⟨rfl, Nat.le_refl _, by omega, h0⟩ ?_
  rintro ⟨k, j⟩ _ w2 ⟨rfl, hk, hj, hIk⟩
  dsimp only at hk hj hIk
  obtain ⟨G5, R6, hs7, hO8⟩ := hI _ _ hIk
  refine CW.seq ?_
  refine CW.seq ?_
  refine CW.region ?_
  refine LW.value (.free rfl) rfl (fun _ r => R.move (r.e rfl)) ?_
  refine LW.value (.free rfl) rfl (fun _ r => R.geq (r.e rfl) (r.e rfl)) ?_
  refine LW.nil (EW.then (?_))
  by_cases h9 : 0 ≤ j
  · -- 0 ≤ j
    refine CW.yes (kb (dT h9)) ?_
    refine CW.skip (EW.then (?_))
    refine CW.seq ?_
    refine CW.block ?_
    refine CW.seq ?_
    refine CW.regionI ?_
    refine LWI.value (.free rfl) rfl (fun _ r => R.move (r.e rfl)) rfl ?_
    refine LWI.value (.free rfl) rfl (fun _ r => R.move (r.e rfl)) rfl ?_
    refine LWI.value (.free rfl) rfl (fun _ r => R.load1 (r.e rfl) Try.isAgg53 (hO8.cell (i := 1) rfl rfl)) rfl ?_
    refine LWI.value (.free rfl) rfl (fun _ r => R.move (r.e rfl)) rfl ?_
    obtain ⟨x10, hxx10⟩ : ∃ t, (cs)[j.toNat]? = some t := ⟨_, List.getElem?_eq_getElem (by omega)⟩
    obtain ⟨blx10, olx10, hax10, hcx10⟩ := (hC.mono hs7).at_ _ _ hxx10
    refine LWI.value (.free rfl) rfl (fun _ r => R.indexAddr_o (k := olx10 + j.toNat * 10) (r.e rfl) hax10 (r.e rfl) Try.runUnderlying53 Try.sizeOf73 (by omega) (by omega) rfl) rfl ?_
    refine LWI.value (.free rfl) rfl (fun _ r => R.loadn (vs := [.int .i64 x10.th, .int .i64 x10.d, .int .i64 x10.h, .int .i64 x10.off, .int .i64 x10.n, .int .i64 x10.code, .int .i64 x10.num, .bool x10.done, .int .i64 x10.frm, .int .i64 x10.to_]) (r.e rfl) Try.isAgg73 Try.sizeOf73 rfl (fun j v hj => hO8.pc (i := 2) rfl (hcx10 j v hj))) rfl ?_
    have hjj : ((j.toNat : Nat) : Int) = j := by omega
    have hR := hround j.toNat _ x10 hxx10 (by rw [show j.toNat + 1 = k from by omega]; exact hIk)
    rw [hjj] at hR
    refine LWI.round (i := 0) (vs := [.int .i64 j, .agg #[.int .i64 x10.th, .int .i64 x10.d, .int .i64 x10.h, .int .i64 x10.off, .int .i64 x10.n, .int .i64 x10.code, .int .i64 x10.num, .bool x10.done, .int .i64 x10.frm, .int .i64 x10.to_]]) (.free rfl) rfl hO8 rfl rfl (fun _ r => ⟨r.e rfl, r.e rfl, trivial⟩) (by simpa using hps.symm) hR ?_
    intro w11 hI2
    refine LWI.value (.free rfl) rfl (fun _ r => R.not (r.e rfl)) rfl ?_
    refine LWI.nil (EW.then (?_))
    refine CW.no rfl ?_
    refine CW.skip (EW.inB_normal (EW.then (?_)))
    refine CW.region ?_
    refine LW.value (.free rfl) rfl (fun _ r => R.move (r.e rfl)) ?_
    refine LW.value (.free rfl) rfl (fun _ r => R.as (R.sub (r.e rfl) (r.e rfl)) (congrArg (Value.int .i64) (wrap_i64 (by omega) (by omega)))) ?_
    refine LW.value (.free rfl) rfl (fun _ r => R.assign (r.e rfl)) ?_
    refine LW.nil ?_
    exact EW.sub (env' := [(0, .func (.yield l) #[] #[]), (1, .pointer (some ⟨bx, 0, none⟩)), (3, .int .i64 (j - 1))]) ⟨rfl, rfl, rfl, trivial⟩ (EW.round (j.toNat, j - 1) ⟨rfl, by dsimp only; omega, by dsimp only; omega, hI2⟩ (by dsimp only; omega))
  · -- not: 0 ≤ j
    refine CW.no (kb (dF h9)) ?_
    refine CW.exit (EW.then_exit (EW.then_exit (EW.inB_same (?_))))
    refine EW.end0 rfl ?_
    have hk0 : k = 0 := by omega
    subst hk0
    exact hIk

/-- The range over the calls, from the last one down. -/
theorem CW.rangeBack {n : Nat} {Q : Exit → Act → World → Prop} {env : Env} {w : World} {g : Operand} {assign body : Code} {t1 t2 bx : Nat} {G : Seg} {aC : Option Addr} {nC cC : Nat} {cs : List Cal} {R0 : List Seg} (J : Nat → List Seg → Prop) (hC : Sl G 10 encL aC nC cC cs) (hn : cs.length ≤ 1000)
    (hO : Own w ([(bx, .cells #[.slice aC nC cC] 53 (0, 0))] :: R0)) (hg : evo env g = some (.func (.func 61) #[] [.pointer (some ⟨bx, 0, none⟩)].toArray)) (ht1 : Nat.blt t1 n = true) (ht2 : Nat.blt t2 n = true) (hJG : ∀ k R, J k R → ∃ G' R', R = G' :: R' ∧ ∀ p ∈ G, p ∈ G') (h0 : J cs.length R0)
    (hround : ∀ (l D : Nat) (fn0 : FuncId) (tm : Array Value) (k : Nat) (c : Cal) (w : World) (R : List Seg), cs[k]? = some c → J (k + 1) R → Own w ([(l, lrec fn0 tm #[t1, t2] assign body D .ready)] :: [(D, dblk)] :: [(bx, .cells #[.slice aC nC cC] 53 (0, 0))] :: R) →
      CW (rd := some l) Try.prog n assign (Exit.then (fun a₁ w₁ => ∃ w₂, (Instr.beginRound l).run Try.prog w₁ = .ok () w₂ ∧ wpx (some l) Try.prog body (roundPost Try.prog l (fun e w' => e = .returned (.bool true) ∧ ∃ R', J k R' ∧ Own w' ([(l, lrec fn0 tm #[t1, t2] assign body D .ready)] :: [(D, dblk)] :: [(bx, .cells #[.slice aC nC cC] 53 (0, 0))] :: R'))) a₁ w₂) (fun _ _ _ => False)) ((t2, .agg #[.int .i64 c.th, .int .i64 c.d, .int .i64 c.h, .int .i64 c.off, .int .i64 c.n, .int .i64 c.code, .int .i64 c.num, .bool c.done, .int .i64 c.frm, .int .i64 c.to_]) :: (t1, .int .i64 k) :: env) w)
    (hend : ∀ (a : Act) (D : Nat) (w' : World) (R : List Seg), Real n env a → w'.heap[D]? = some dblk → J 0 R → Own (w'.putObj D (.deferred none)) R → Q .normal { a with defers := [{ target := .collected D, args := #[] }] } w') : CW (rd := none) Try.prog n (.rangeFunc g #[t1, t2] assign body) Q env w := by
  refine CW.rangeFunc (K := fun w'' => ∃ R, J 0 R ∧ Own w'' R) hO hg Try.call61 ?_ (fun a D w' ha hD ⟨R, hJ, hK⟩ => hend a D w' R ha hD hJ hK)
  intro a l D w2 fn0 ha hO2
  refine Ret.mono (b_iter l D bx fn0 a.tmps #[t1, t2] assign body rfl G aC nC cC cs hC hn (fun k w => ∃ R, J k R ∧ Own w ([(l, lrec fn0 a.tmps #[t1, t2] assign body D .ready)] :: [(D, dblk)] :: [(bx, .cells #[.slice aC nC cC] 53 (0, 0))] :: R)) ?_ ?_ w2 ⟨R0, h0, hO2⟩) ?_
  · rintro k w ⟨R, hJ, hO3⟩
    obtain ⟨G', R', rfl, hs⟩ := hJG k R hJ
    refine ⟨G', [(D, dblk)] ++ R'.flatten, hs, hO3.perm' ?_⟩
    simp only [List.flatten_cons, List.flatten_nil, List.append_nil, List.cons_append, List.nil_append]
    refine .cons _ ?_
    refine (List.Perm.swap _ _ _).trans (.cons _ ?_)
    exact (List.perm_middle (l₁ := G') (a := (D, dblk)) (l₂ := R'.flatten)).symm
  · rintro k w c hc ⟨R, hJ, hO3⟩
    have hr := hround l D fn0 a.tmps k c w R hc hJ hO3
    have h1 : ((#[t1, t2] : Array Tmp).zip [.int .i64 (k : Int), .agg #[.int .i64 c.th, .int .i64 c.d, .int .i64 c.h, .int .i64 c.off, .int .i64 c.n, .int .i64 c.code, .int .i64 c.num, .bool c.done, .int .i64 c.frm, .int .i64 c.to_]].toArray).foldl (fun tmps (t, a) => tmps.setIfInBounds t a) a.tmps = ((a.put (some t1) (.int .i64 (k : Int))).put (some t2) (.agg #[.int .i64 c.th, .int .i64 c.d, .int .i64 c.h, .int .i64 c.off, .int .i64 c.n, .int .i64 c.code, .int .i64 c.num, .bool c.done, .int .i64 c.frm, .int .i64 c.to_])).tmps := by simp [Act.put]
    have h2 : Real n ((t2, .agg #[.int .i64 c.th, .int .i64 c.d, .int .i64 c.h, .int .i64 c.off, .int .i64 c.n, .int .i64 c.code, .int .i64 c.num, .bool c.done, .int .i64 c.frm, .int .i64 c.to_]) :: (t1, .int .i64 (k : Int)) :: env) ((a.put (some t1) (.int .i64 (k : Int))).put (some t2) (.agg #[.int .i64 c.th, .int .i64 c.d, .int .i64 c.h, .int .i64 c.off, .int .i64 c.n, .int .i64 c.code, .int .i64 c.num, .bool c.done, .int .i64 c.frm, .int .i64 c.to_])) := (ha.put ht1 _).put ht2 _
    rw [h1]
    exact round_of h2 hr
  · rintro v w' ⟨R, hJ, hO3⟩
    refine ⟨[(bx, .cells #[.slice aC nC cC] 53 (0, 0))] :: R, hO3, fun w'' hO4 => ⟨R, hJ, hO4.drop⟩⟩

end Go.Sd
