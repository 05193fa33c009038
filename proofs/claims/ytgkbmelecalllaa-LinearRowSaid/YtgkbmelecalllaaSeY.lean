/-
  LinearRow, walked.
-/
import Derived.Test.YtgkbmelecalllaaSeW
import Derived.Test.YtgkbmelecalllaaSfB
set_option linter.unusedSimpArgs false
set_option linter.unusedVariables false
set_option linter.unusedSectionVars false
namespace Go.Sd
open Go Go.Proofs
variable [Str]
set_option maxRecDepth 100000 in
set_option maxHeartbeats 4000000 in
theorem x_row (G : Seg) (a : Option Addr) (n c : Nat) (ops : List Op4) (hs : Sl G 4 encO a n c ops) (hb : OpB ops) (a2 : Option Addr) (n2 c2 : Nat) (res : List (Int × Int)) (hs2 : Sl G 2 encR a2 n2 c2 res) (hb2 : ResB res) (w : World) (hO : Own w [G]) : Calls Try.prog 5 [.slice a n c, .slice a2 n2 c2].toArray w (Ret fun v w' => v = .bool true ∧ Own w' [G]) := by
  have hl := hs.hlen
  have hl2 := hs2.hlen
  refine enter (n := 65) Try.func5 rfl rfl rfl ?_
  refine CW.seq ?_
  refine CW.region ?_
  refine LW.value (.free rfl) rfl (fun _ r => R.assign (r.e rfl)) ?_
  refine LW.nil (EW.then (?_))
  refine CW.seq ?_
  refine CW.seq ?_
  refine CW.region ?_
  refine LW.value (.free rfl) rfl (fun _ r => R.move (r.e rfl)) ?_
  refine LW.value (.free rfl) rfl (fun _ r => R.len_slice (r.e rfl) Try.runUnderlying28) ?_
  refine LW.value (.free rfl) rfl (fun _ r => R.gtr (r.e rfl) (r.e rfl)) ?_
  refine LW.value (.free rfl) rfl (fun _ r => R.move (r.e rfl)) ?_
  by_cases h1 : 20 < (n : Int)
  · -- 20 < (n : Int)
    refine LW.off (.no rfl rfl (kb (dT h1))) rfl ?_
    refine LW.off (.no rfl rfl (kb (dT h1))) rfl ?_
    refine LW.off (.no rfl rfl (kb (dT h1))) rfl ?_
    refine LW.off (.no rfl rfl (kb (dT h1))) rfl ?_
    refine LW.off (.no rfl rfl (kb (dT h1))) rfl ?_
    refine LW.value (.free rfl) rfl (fun _ r => R.pick_yes (r.e (kb (dT h1))) (r.e rfl)) ?_
    refine LW.nil (EW.then (?_))
    refine CW.yes rfl ?_
    refine CW.seq ?_
    refine CW.region ?_
    refine LW.op (.free rfl) (OW.calls rfl (fun _ r => R.call (vs := []) Try.call8 rfl trivial) (x_live _ _ (hO.frame [] rfl)) ?_)
    rintro _ w2 ⟨rfl, hO3⟩
    replace hO3 := hO3.unframe0
    refine LW.value (.free rfl) rfl (fun _ r => R.assign (r.e rfl)) ?_
    refine LW.nil (EW.then (?_))
    refine CW.ret (EW.then_ret (?_))
    refine EW.ret1 rfl rfl ?_
    exact ⟨rfl, hO3.pick [0] rfl⟩
  · -- not: 20 < (n : Int)
    refine LW.value (.yes rfl rfl (kb (dF h1))) rfl (fun _ r => R.move (r.e rfl)) ?_
    refine LW.value (.yes rfl rfl (kb (dF h1))) rfl (fun _ r => R.len_slice (r.e rfl) Try.runUnderlying29) ?_
    refine LW.value (.yes rfl rfl (kb (dF h1))) rfl (fun _ r => R.move (r.e rfl)) ?_
    refine LW.value (.yes rfl rfl (kb (dF h1))) rfl (fun _ r => R.len_slice (r.e rfl) Try.runUnderlying28) ?_
    refine LW.value (.yes rfl rfl (kb (dF h1))) rfl (fun _ r => R.lss (r.e rfl) (r.e rfl)) ?_
    refine LW.value (.free rfl) rfl (fun _ r => R.pick_no (r.e (kb (dF h1))) (r.e rfl)) ?_
    refine LW.nil (EW.then (?_))
    by_cases h4 : (n2 : Int) < (n : Int)
    · -- (n2 : Int) < (n : Int)
      refine CW.yes (kb (dT h4)) ?_
      refine CW.seq ?_
      refine CW.region ?_
      refine LW.op (.free rfl) (OW.calls rfl (fun _ r => R.call (vs := []) Try.call8 rfl trivial) (x_live _ _ (hO.frame [] rfl)) ?_)
      rintro _ w5 ⟨rfl, hO6⟩
      replace hO6 := hO6.unframe0
      refine LW.value (.free rfl) rfl (fun _ r => R.assign (r.e rfl)) ?_
      refine LW.nil (EW.then (?_))
      refine CW.ret (EW.then_ret (?_))
      refine EW.ret1 rfl rfl ?_
      exact ⟨rfl, hO6.pick [0] rfl⟩
    · -- not: (n2 : Int) < (n : Int)
      refine CW.no (kb (dF h4)) ?_
      refine CW.skip (EW.then (?_))
      refine CW.seq ?_
      refine CW.region ?_
      refine LW.value (.free rfl) rfl (fun _ r => R.assign (r.e rfl)) ?_
      refine LW.nil (EW.then (?_))
      refine CW.seq ?_
      refine CW.region ?_
      refine LW.value (.free rfl) rfl (fun _ r => R.build (v := .agg #[.slice none 0 0, .slice none 0 0]) (vs := []) trivial (by simp [go_sem])) ?_
      refine LW.op (.free rfl) (OW.box (cs := #[.slice none 0 0, .slice none 0 0]) rfl hO rfl rfl ?_)
      intro b7 w8 hO9
      have hO10 := hO9.nil
      refine LW.value (.free rfl) rfl (fun _ r => R.assign (r.e rfl)) ?_
      refine LW.nil (EW.then (?_))
      refine CW.seq ?_
      refine CW.region ?_
      refine LW.value (.free rfl) rfl (fun _ r => R.assign (r.e rfl)) ?_
      refine LW.nil (EW.then (?_))
      refine CW.seq ?_
      refine CW.seq ?_
      refine CW.region ?_
      refine LW.value (.free rfl) rfl (fun _ r => R.assign (r.e rfl)) ?_
      refine LW.nil (EW.then (?_))
      refine CW.block ?_
      refine CW.sub (env' := [(0, .slice a n c), (1, .slice a2 n2 c2), (5, (.slice none 0 0)), (6, .pointer (some ⟨b7, 0, none⟩)), (7, .bool true), (8, .int .i64 (0 : Int))]) ⟨rfl, rfl, rfl, rfl, rfl, rfl, trivial⟩ ?_
      refine CW.loop (α := Nat × Bool × List PT × List Int × Value × Seg × Array Value × Seg) (fun (x_ : Nat × Bool × List PT × List Int × Value × Seg × Array Value × Seg) env_ w_ => ∃ i b X T v s ks Gm, x_ = (i, b, X, T, v, s, ks, Gm) ∧ env_ = [(0, .slice a n c), (1, .slice a2 n2 c2), (5, v), (6, .pointer (some ⟨b7, 0, none⟩)), (7, .bool b), (8, .int .i64 (i : Int))] ∧ Own w_ [s, [(b7, .cells ks 34 (0, 0))], Gm, G] ∧ (i ≤ ops.length) ∧ (Grow 41 8 encE v s (rowI (fun i : Nat => (i : Int) % 4) ops res i)) ∧ (KRef Gm ks X T) ∧ (wantI ops res i = (b, X, T))) (fun (x_ : Nat × Bool × List PT × List Int × Value × Seg × Array Value × Seg) => ops.length - x_.1) (0, true, [], [], .slice none 0 0, [], #[.slice none 0 0, .slice none 0 0], []) ⟨0, true, [], [], .slice none 0 0, [], #[.slice none 0 0, .slice none 0 0], [], rfl, rfl, (hO10.nil.nil).pick [0, 2, 0, 1] rfl, Nat.zero_le _, Grow.start, KRef.empty, rfl⟩ ?_
      rintro _ _ w11 ⟨i, b, X, T, v, s, ks, Gm, rfl, rfl, hO12, hi, hg, hK, hw⟩
      have hwl := want_len (ops := ops) (res := res) i
      rw [hw] at hwl
      dsimp only at hwl
      have hrl := row_len (th := (fun i : Nat => (i : Int) % 4)) hi (show i ≤ res.length from by omega) (Nat.le_refl i)
      refine CW.seq ?_
      refine CW.seq ?_
      refine CW.region ?_
      refine LW.value (.free rfl) rfl (fun _ r => R.move (r.e rfl)) ?_
      refine LW.value (.free rfl) rfl (fun _ r => R.move (r.e rfl)) ?_
      refine LW.value (.free rfl) rfl (fun _ r => R.len_slice (r.e rfl) Try.runUnderlying28) ?_
      refine LW.value (.free rfl) rfl (fun _ r => R.lss (r.e rfl) (r.e rfl)) ?_
      refine LW.nil (EW.then (?_))
      by_cases h13 : (i : Int) < (n : Int)
      · -- (i : Int) < (n : Int)
        refine CW.yes (kb (dT h13)) ?_
        refine CW.skip (EW.then (?_))
        refine CW.seq ?_
        refine CW.block ?_
        refine CW.seq ?_
        refine HP.start (I := fun w' => Own w' [G]) (.take 0 (.take 1 (.take 2 (.take 3 (.take 4 (.take 5 (.take 6 (.take 7 (.take 8 (.take 9 (.take 10 (.take 11 (.take 12 (.take 13 (.take 14 (.one 15 (.one 16 (.take 17 (.done))))))))))))))))))) Try.mixed (by intro c d v a w h; cases d <;> exact h) hO12 (by kernel_rfl) ?_
        intro w16 hO17
        have hI18 := hO17.pick [3] rfl
        refine HP.take rfl (.free rfl) rfl hI18 (fun _ r _ hI => R.move (r.e rfl)) ?_
        refine HP.take rfl (.free rfl) rfl hI18 (fun _ r _ hI => R.move (r.e rfl)) ?_
        refine HP.take rfl (.free rfl) rfl hI18 (fun _ r _ hI => R.as (R.rem (r.e rfl) (r.e rfl) (by omega)) (congrArg (Value.int .i64) (Int.tmod_eq_emod_of_nonneg (by omega)))) ?_
        refine HP.take rfl (.free rfl) rfl hI18 (fun _ r _ hI => R.move (r.e rfl)) ?_
        refine HP.take rfl (.free rfl) rfl hI18 (fun _ r _ hI => R.move (r.e rfl)) ?_
        obtain ⟨x19, hxx19⟩ : ∃ t, (ops)[i]? = some t := ⟨_, List.getElem?_eq_getElem (by omega)⟩
        obtain ⟨blx19, olx19, hax19, hcx19⟩ := hs.at_ _ _ hxx19
        refine HP.take rfl (.free rfl) rfl hI18 (fun _ r _ hI => R.indexAddr_o (k := olx19 + i * 4) (r.e rfl) hax19 (r.e rfl) Try.runUnderlying28 Try.sizeOf36 (by omega) (by omega) (by simp)) ?_
        refine HP.take rfl (.free rfl) rfl hI18 (fun _ r _ hI => R.loadn (vs := [.int .i64 x19.d, .int .i64 x19.h, .int .i64 x19.off, .int .i64 x19.n]) (r.e rfl) Try.isAgg36 Try.sizeOf36 rfl (fun j v hj => hI.pc (i := 0) rfl (hcx19 j v hj))) ?_
        refine HP.take rfl (.free rfl) rfl hI18 (fun _ r _ hI => R.build (v := .agg #[.int .i64 ((i : Int) % 4), .bool false, .int .i64 x19.d, .int .i64 x19.h, .int .i64 x19.off, .int .i64 x19.n, .int .i64 0, .int .i64 0]) (vs := [(0, .int .i64 ((i : Int) % 4)), (2, .agg #[.int .i64 x19.d, .int .i64 x19.h, .int .i64 x19.off, .int .i64 x19.n])]) ⟨⟨r.e rfl, rfl⟩, ⟨r.e rfl, rfl⟩, trivial⟩ (by simp [go_sem])) ?_
        refine HP.take rfl (.free rfl) rfl hI18 (fun _ r _ hI => R.move (r.e rfl)) ?_
        refine HP.take rfl (.free rfl) rfl hI18 (fun _ r _ hI => R.as (R.rem (r.e rfl) (r.e rfl) (by omega)) (congrArg (Value.int .i64) (Int.tmod_eq_emod_of_nonneg (by omega)))) ?_
        refine HP.take rfl (.free rfl) rfl hI18 (fun _ r _ hI => R.move (r.e rfl)) ?_
        refine HP.take rfl (.free rfl) rfl hI18 (fun _ r _ hI => R.move (r.e rfl)) ?_
        obtain ⟨x20, hxx20⟩ : ∃ t, (res)[i]? = some t := ⟨_, List.getElem?_eq_getElem (by omega)⟩
        obtain ⟨blx20, olx20, hax20, hcx20⟩ := hs2.at_ _ _ hxx20
        refine HP.take rfl (.free rfl) rfl hI18 (fun _ r _ hI => R.indexAddr_o (k := olx20 + i * 2) (r.e rfl) hax20 (r.e rfl) Try.runUnderlying29 Try.sizeOf39 (by omega) (by omega) (by simp)) ?_
        refine HP.take rfl (.free rfl) rfl hI18 (fun _ r _ hI => R.loadn (vs := [.int .i64 x20.1, .int .i64 x20.2]) (r.e rfl) Try.isAgg39 Try.sizeOf39 rfl (fun j v hj => hI.pc (i := 0) rfl (hcx20 j v hj))) ?_
        refine HP.take rfl (.free rfl) rfl hI18 (fun _ r _ hI => R.build (v := .agg #[.int .i64 ((i : Int) % 4), .bool true, .int .i64 0, .int .i64 0, .int .i64 0, .int .i64 0, .int .i64 x20.1, .int .i64 x20.2]) (vs := [(0, .int .i64 ((i : Int) % 4)), (1, .bool true), (3, .agg #[.int .i64 x20.1, .int .i64 x20.2])]) ⟨⟨r.e rfl, rfl⟩, ⟨r.e rfl, rfl⟩, ⟨r.e rfl, rfl⟩, trivial⟩ (by simp [go_sem])) ?_
        refine HP.one rfl (.free rfl) (OW.buildSlice (cs := #[.int .i64 ((i : Int) % 4), .bool false, .int .i64 x19.d, .int .i64 x19.h, .int .i64 x19.off, .int .i64 x19.n, .int .i64 0, .int .i64 0, .int .i64 ((i : Int) % 4), .bool true, .int .i64 0, .int .i64 0, .int .i64 0, .int .i64 0, .int .i64 x20.1, .int .i64 x20.2]) (e := 41) (vs := [(0, .agg #[.int .i64 ((i : Int) % 4), .bool false, .int .i64 x19.d, .int .i64 x19.h, .int .i64 x19.off, .int .i64 x19.n, .int .i64 0, .int .i64 0]), (1, .agg #[.int .i64 ((i : Int) % 4), .bool true, .int .i64 0, .int .i64 0, .int .i64 0, .int .i64 0, .int .i64 x20.1, .int .i64 x20.2])]) rfl hO17 (fun _ r => ⟨⟨r.e rfl, rfl⟩, ⟨r.e rfl, rfl⟩, trivial⟩) (fun _ => by simp [go_sem, Instr.buildSlice, newRow]) ?_)
        intro b21 w22 hO23
        have hI24 := hO23.pick [4] rfl
        refine ⟨hI24, ?_⟩
        have hO25 := hO23.move [1] rfl
        refine HP.one rfl (.free rfl) (OW.append (xs := (rowI (fun i : Nat => (i : Int) % 4) ops res i)) (ys := [(⟨(i : Int) % 4, false, x19.d, x19.h, x19.off, x19.n, 0, 0⟩ : Ev), (⟨(i : Int) % 4, true, 0, 0, 0, 0, x20.1, x20.2⟩ : Ev)]) elemEv rfl hO25 rfl rfl hg (fun _ _ => rfl) (fun _ _ => rfl) rfl (fun _ => src (i := 1) hO25 rfl rfl) (by simp; omega) (by simp; omega) (by decide) ?_)
        intro v26 s27 w28 hO29 hg30
        have hI31 := hO29.pick [4] rfl
        refine ⟨hI31, ?_⟩
        refine HP.take rfl (.free rfl) rfl hI31 (fun _ r _ hI => R.assign (r.e rfl)) ?_
        refine HP.done (EW.then (?_))
        refine HP.start (I := fun w' => Own w' [G]) (.take 0 (.take 1 (.take 2 (.take 3 (.take 4 (.take 5 (.take 6 (.take 7 (.take 8 (.take 9 (.take 10 (.one 11 (.take 12 (.take 13 (.done))))))))))))))) Try.mixed (by intro c d v a w h; cases d <;> exact h) hO29 (by kernel_rfl) ?_
        intro w34 hO35
        have hI36 := hO35.pick [4] rfl
        refine HP.take rfl (.free rfl) rfl hI36 (fun _ r _ hI => R.move (r.e rfl)) ?_
        refine HP.take rfl (.free rfl) rfl hI36 (fun _ r _ hI => R.move (r.e rfl)) ?_
        rcases Bool.eq_false_or_eq_true b with h37 | h37
        · -- b
          refine HP.take rfl (.yes rfl rfl (kb h37)) rfl hI36 (fun _ r _ hI => R.move (r.e rfl)) ?_
          refine HP.take rfl (.yes rfl rfl (kb h37)) rfl hI36 (fun _ r _ hI => R.move (r.e rfl)) ?_
          refine HP.take rfl (.yes rfl rfl (kb h37)) rfl hI36 (fun _ r _ hI => R.move (r.e rfl)) ?_
          obtain ⟨blx19_38, olx19_38, hax19_38, hcx19_38⟩ := hs.at_ _ _ hxx19
          refine HP.take rfl (.yes rfl rfl (kb h37)) rfl hI36 (fun _ r _ hI => R.indexAddr_o (k := olx19_38 + i * 4) (r.e rfl) hax19_38 (r.e rfl) Try.runUnderlying28 Try.sizeOf36 (by omega) (by omega) (by simp)) ?_
          refine HP.take rfl (.yes rfl rfl (kb h37)) rfl hI36 (fun _ r _ hI => R.loadn (vs := [.int .i64 x19.d, .int .i64 x19.h, .int .i64 x19.off, .int .i64 x19.n]) (r.e rfl) Try.isAgg36 Try.sizeOf36 rfl (fun j v hj => hI.pc (i := 0) rfl (hcx19_38 j v hj))) ?_
          refine HP.take rfl (.yes rfl rfl (kb h37)) rfl hI36 (fun _ r _ hI => R.move (r.e rfl)) ?_
          refine HP.take rfl (.yes rfl rfl (kb h37)) rfl hI36 (fun _ r _ hI => R.move (r.e rfl)) ?_
          obtain ⟨blx20_39, olx20_39, hax20_39, hcx20_39⟩ := hs2.at_ _ _ hxx20
          refine HP.take rfl (.yes rfl rfl (kb h37)) rfl hI36 (fun _ r _ hI => R.indexAddr_o (k := olx20_39 + i * 2) (r.e rfl) hax20_39 (r.e rfl) Try.runUnderlying29 Try.sizeOf39 (by omega) (by omega) (by simp)) ?_
          refine HP.take rfl (.yes rfl rfl (kb h37)) rfl hI36 (fun _ r _ hI => R.loadn (vs := [.int .i64 x20.1, .int .i64 x20.2]) (r.e rfl) Try.isAgg39 Try.sizeOf39 rfl (fun j v hj => hI.pc (i := 0) rfl (hcx20_39 j v hj))) ?_
          obtain ⟨b1, X1, T1, hr40⟩ : ∃ b X' T', tryP (X, T) x19.d x19.h x19.off x19.n x20.1 x20.2 = (b, X', T') := ⟨_, _, _, rfl⟩
          refine HP.one rfl (.yes rfl rfl (kb h37)) (OW.calls rfl (fun _ r => R.call (vs := [.pointer (some ⟨b7, 0, none⟩), .agg #[.int .i64 x19.d, .int .i64 x19.h, .int .i64 x19.off, .int .i64 x19.n], .agg #[.int .i64 x20.1, .int .i64 x20.2]]) Try.call14 rfl ⟨r.e rfl, r.e rfl, r.e rfl, trivial⟩) (r_try hK (by omega) (by omega) hr40 (hO35.frame [2, 2] rfl)) ?_)
          rintro _ w41 ⟨G43, cs44, rfl, hsb45, hK46, hO42⟩
          replace hO42 := hO42.unframe2
          have hI47 := hO42.pick [4] rfl
          refine ⟨hI47, ?_⟩
          refine HP.take rfl (.free rfl) rfl hI47 (fun _ r _ hI => R.pick_yes (r.e (kb h37)) (r.e rfl)) ?_
          refine HP.take rfl (.free rfl) rfl hI47 (fun _ r _ hI => R.assign (r.e rfl)) ?_
          refine HP.done (EW.inB_normal (EW.then (?_)))
          refine CW.region ?_
          refine LW.value (.free rfl) rfl (fun _ r => R.move (r.e rfl)) ?_
          refine LW.value (.free rfl) rfl (fun _ r => R.as (R.add (r.e rfl) (r.e rfl)) (congrArg (Value.int .i64) (wrap_i64 (by omega) (by omega)))) ?_
          refine LW.value (.free rfl) rfl (fun _ r => R.assign (r.e rfl)) ?_
          refine LW.nil ?_
          exact EW.sub (env' := [(0, .slice a n c), (1, .slice a2 n2 c2), (5, v26), (6, .pointer (some ⟨b7, 0, none⟩)), (7, .bool b1), (8, .int .i64 ((i + 1) : Int))]) ⟨rfl, rfl, rfl, rfl, rfl, rfl, trivial⟩ (EW.round (i + 1, b1, X1, T1, v26, s27, cs44, G43) ⟨i + 1, b1, X1, T1, v26, s27, cs44, G43, rfl, rfl, hO42.pick [2, 0, 0, 1] rfl, by omega, by rw [rowI_succ hxx19 hxx20]; exact hg30, hK46, wantI_yes (by rw [hw, h37]) hxx19 hxx20 hr40⟩ (by dsimp only; omega))
        · -- not: b
          refine HP.takeOff rfl (.no rfl rfl (kb h37)) rfl hI36 ?_
          refine HP.takeOff rfl (.no rfl rfl (kb h37)) rfl hI36 ?_
          refine HP.takeOff rfl (.no rfl rfl (kb h37)) rfl hI36 ?_
          refine HP.takeOff rfl (.no rfl rfl (kb h37)) rfl hI36 ?_
          refine HP.takeOff rfl (.no rfl rfl (kb h37)) rfl hI36 ?_
          refine HP.takeOff rfl (.no rfl rfl (kb h37)) rfl hI36 ?_
          refine HP.takeOff rfl (.no rfl rfl (kb h37)) rfl hI36 ?_
          refine HP.takeOff rfl (.no rfl rfl (kb h37)) rfl hI36 ?_
          refine HP.takeOff rfl (.no rfl rfl (kb h37)) rfl hI36 ?_
          refine HP.oneOff rfl (.no rfl rfl (kb h37)) rfl hI36 ?_
          refine HP.take rfl (.free rfl) rfl hI36 (fun _ r _ hI => R.pick_no (r.e (kb h37)) (r.e rfl)) ?_
          refine HP.take rfl (.free rfl) rfl hI36 (fun _ r _ hI => R.assign (r.e rfl)) ?_
          refine HP.done (EW.inB_normal (EW.then (?_)))
          refine CW.region ?_
          refine LW.value (.free rfl) rfl (fun _ r => R.move (r.e rfl)) ?_
          refine LW.value (.free rfl) rfl (fun _ r => R.as (R.add (r.e rfl) (r.e rfl)) (congrArg (Value.int .i64) (wrap_i64 (by omega) (by omega)))) ?_
          refine LW.value (.free rfl) rfl (fun _ r => R.assign (r.e rfl)) ?_
          refine LW.nil ?_
          exact EW.sub (env' := [(0, .slice a n c), (1, .slice a2 n2 c2), (5, v26), (6, .pointer (some ⟨b7, 0, none⟩)), (7, .bool false), (8, .int .i64 ((i + 1) : Int))]) ⟨rfl, rfl, rfl, rfl, rfl, rfl, trivial⟩ (EW.round (i + 1, false, X, T, v26, s27, ks, Gm) ⟨i + 1, false, X, T, v26, s27, ks, Gm, rfl, rfl, hO35.pick [0, 1, 1, 1] rfl, by omega, by rw [rowI_succ hxx19 hxx20]; exact hg30, hK, wantI_no (by rw [hw, h37])⟩ (by dsimp only; omega))
      · -- not: (i : Int) < (n : Int)
        refine CW.no (kb (dF h13)) ?_
        refine CW.exit (EW.then_exit (EW.then_exit (EW.inB_same (EW.then (?_)))))
        refine CW.seq ?_
        obtain ⟨a48, n49, c50, ev51, hsl52⟩ := Grow.shut hg (fun _ _ => rfl)
        subst ev51
        have hacc : (decide (AccP (rowI (fun i : Nat => (i : Int) % 4) ops res i))) = b := by have h := row_acc (th := (fun i : Nat => (i : Int) % 4)) hi (show i ≤ res.length from by omega) (fun _ => by first | omega | (dsimp only; omega)); rw [hw] at h; cases b <;> simp [h]
        refine CW.region ?_
        refine LW.value (.free rfl) rfl (fun _ r => R.move (r.e rfl)) ?_
        refine LW.op (.free rfl) (OW.calls rfl (fun _ r => R.call (vs := [.slice a48 n49 c50]) Try.call11 rfl ⟨r.e rfl, trivial⟩) (l_accepts _ _ _ _ _ _ hsl52 (by rw [hrl]; omega) (row_B hb hb2 _) _ (hO12.frame [0] rfl)) ?_)
        rintro _ w53 ⟨rfl, hO54⟩
        replace hO54 := hO54.unframe1
        refine LW.value (.free rfl) rfl (fun _ r => R.move (r.e rfl)) ?_
        refine LW.value (.free rfl) rfl (fun _ r => R.eql_bool Try.underlying4 (r.e rfl) (r.e rfl)) ?_
        refine LW.value (.free rfl) rfl (fun _ r => R.move (r.e rfl)) ?_
        have h55 : (decide (AccP (rowI (fun i : Nat => (i : Int) % 4) ops res i))) = b := hacc
        refine LW.op (.yes rfl rfl (kb (dT h55))) (OW.calls rfl (fun _ r => R.call (vs := []) Try.call8 rfl trivial) (x_live _ _ (hO54.frame [] rfl)) ?_)
        rintro _ w56 ⟨rfl, hO57⟩
        replace hO57 := hO57.unframe0
        refine LW.value (.free rfl) rfl (fun _ r => R.pick_yes (r.e (kb (dT h55))) (r.e rfl)) ?_
        refine LW.value (.free rfl) rfl (fun _ r => R.assign (r.e rfl)) ?_
        refine LW.nil (EW.then (?_))
        refine CW.ret ?_
        refine EW.ret1 rfl rfl ?_
        exact ⟨rfl, hO57.pick [3] rfl⟩

end Go.Sd
