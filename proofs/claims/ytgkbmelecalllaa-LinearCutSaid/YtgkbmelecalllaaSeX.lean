/-
  LinearCut, walked.
-/
import Derived.Test.YtgkbmelecalllaaSeW
import Derived.Test.YtgkbmelecalllaaSfD
set_option linter.unusedSimpArgs false
set_option linter.unusedVariables false
set_option linter.unusedSectionVars false
namespace Go.Sd
open Go Go.Proofs
variable [Str]
set_option maxRecDepth 100000 in
set_option maxHeartbeats 1000000 in
theorem x_cut_yes (G : Seg) (a : Option Addr) (n c : Nat) (l : List Ev) (hs : Sl G 8 encE a n c l) (hbl : EvB l) (at_ : Int) (hp : AccP l) (w : World) (hO : Own w [G]) : Calls Try.prog 6 [.slice a n c, .int .i64 at_].toArray w (Ret fun v w' => v = .bool true ∧ Own w' [G]) := by
  have hl := hs.hlen
  have hle := hs.hle
  refine enter (n := 31) Try.func6 rfl rfl rfl ?_
  refine CW.seq ?_
  refine CW.region ?_
  refine LW.value (.free rfl) rfl (fun _ r => R.assign (r.e rfl)) ?_
  refine LW.nil (EW.then (?_))
  refine CW.seq ?_
  refine CW.seq ?_
  refine CW.region ?_
  refine LW.value (.free rfl) rfl (fun _ r => R.move (r.e rfl)) ?_
  refine LW.value (.free rfl) rfl (fun _ r => R.len_slice (r.e rfl) Try.runUnderlying22) ?_
  refine LW.value (.free rfl) rfl (fun _ r => R.gtr (r.e rfl) (r.e rfl)) ?_
  refine LW.value (.free rfl) rfl (fun _ r => R.move (r.e rfl)) ?_
  by_cases h1 : 16 < (n : Int)
  · -- 16 < (n : Int)
    refine LW.off (.no rfl rfl (kb (dT h1))) rfl ?_
    refine LW.off (.no rfl rfl (kb (dT h1))) rfl ?_
    refine LW.value (.free rfl) rfl (fun _ r => R.pick_yes (r.e (kb (dT h1))) (r.e rfl)) ?_
    refine LW.value (.free rfl) rfl (fun _ r => R.move (r.e rfl)) ?_
    refine LW.off (.no rfl rfl rfl) rfl ?_
    refine LW.off (.no rfl rfl rfl) rfl ?_
    refine LW.off (.no rfl rfl rfl) rfl ?_
    refine LW.off (.no rfl rfl rfl) rfl ?_
    refine LW.value (.free rfl) rfl (fun _ r => R.pick_yes (r.e rfl) (r.e rfl)) ?_
    refine LW.nil (EW.then (?_))
    refine CW.yes rfl ?_
    refine CW.seq ?_
    refine CW.region ?_
    refine LW.op (.free rfl) (OW.calls rfl (fun _ r => R.call (vs := []) Try.call8 rfl trivial) (x_live _ _ (hO.frame [] rfl)) ?_)
    rintro _ w2 ⟨rfl, hO3⟩
    replace hO3 := hO3.unframe0
    refine LW.value (.free rfl) rfl (fun _ r => R.assign (r.e rfl)) ?_
    refine LW.nil (EW.then (?_))
    refine CW.ret (EW.then_ret (?_))
    refine EW.ret1 rfl rfl ?_
    exact ⟨rfl, hO3.pick [0] rfl⟩
  · -- not: 16 < (n : Int)
    refine LW.value (.yes rfl rfl (kb (dF h1))) rfl (fun _ r => R.move (r.e rfl)) ?_
    refine LW.value (.yes rfl rfl (kb (dF h1))) rfl (fun _ r => R.lss (r.e rfl) (r.e rfl)) ?_
    refine LW.value (.free rfl) rfl (fun _ r => R.pick_no (r.e (kb (dF h1))) (r.e rfl)) ?_
    refine LW.value (.free rfl) rfl (fun _ r => R.move (r.e rfl)) ?_
    by_cases h4 : at_ < 0
    · -- at_ < 0
      refine LW.off (.no rfl rfl (kb (dT h4))) rfl ?_
      refine LW.off (.no rfl rfl (kb (dT h4))) rfl ?_
      refine LW.off (.no rfl rfl (kb (dT h4))) rfl ?_
      refine LW.off (.no rfl rfl (kb (dT h4))) rfl ?_
      refine LW.value (.free rfl) rfl (fun _ r => R.pick_yes (r.e (kb (dT h4))) (r.e rfl)) ?_
      refine LW.nil (EW.then (?_))
      refine CW.yes rfl ?_
      refine CW.seq ?_
      refine CW.region ?_
      refine LW.op (.free rfl) (OW.calls rfl (fun _ r => R.call (vs := []) Try.call8 rfl trivial) (x_live _ _ (hO.frame [] rfl)) ?_)
      rintro _ w5 ⟨rfl, hO6⟩
      replace hO6 := hO6.unframe0
      refine LW.value (.free rfl) rfl (fun _ r => R.assign (r.e rfl)) ?_
      refine LW.nil (EW.then (?_))
      refine CW.ret (EW.then_ret (?_))
      refine EW.ret1 rfl rfl ?_
      exact ⟨rfl, hO6.pick [0] rfl⟩
    · -- not: at_ < 0
      refine LW.value (.yes rfl rfl (kb (dF h4))) rfl (fun _ r => R.move (r.e rfl)) ?_
      refine LW.value (.yes rfl rfl (kb (dF h4))) rfl (fun _ r => R.move (r.e rfl)) ?_
      refine LW.value (.yes rfl rfl (kb (dF h4))) rfl (fun _ r => R.len_slice (r.e rfl) Try.runUnderlying22) ?_
      refine LW.value (.yes rfl rfl (kb (dF h4))) rfl (fun _ r => R.gtr (r.e rfl) (r.e rfl)) ?_
      refine LW.value (.free rfl) rfl (fun _ r => R.pick_no (r.e (kb (dF h4))) (r.e rfl)) ?_
      refine LW.nil (EW.then (?_))
      by_cases h7 : (n : Int) < at_
      · -- (n : Int) < at_
        refine CW.yes (kb (dT h7)) ?_
        refine CW.seq ?_
        refine CW.region ?_
        refine LW.op (.free rfl) (OW.calls rfl (fun _ r => R.call (vs := []) Try.call8 rfl trivial) (x_live _ _ (hO.frame [] rfl)) ?_)
        rintro _ w8 ⟨rfl, hO9⟩
        replace hO9 := hO9.unframe0
        refine LW.value (.free rfl) rfl (fun _ r => R.assign (r.e rfl)) ?_
        refine LW.nil (EW.then (?_))
        refine CW.ret (EW.then_ret (?_))
        refine EW.ret1 rfl rfl ?_
        exact ⟨rfl, hO9.pick [0] rfl⟩
      · -- not: (n : Int) < at_
        refine CW.no (kb (dF h7)) ?_
        refine CW.skip (EW.then (?_))
        refine CW.seq ?_
        refine CW.region ?_
        refine LW.value (.free rfl) rfl (fun _ r => R.move (r.e rfl)) ?_
        refine LW.op (.free rfl) (OW.calls rfl (fun _ r => R.call (vs := [.slice a n c]) Try.call11 rfl ⟨r.e rfl, trivial⟩) (la_yes hs (by first | omega | (rw [List.length_take]; omega)) hbl hp (hO.frame [0] rfl)) ?_)
        rintro _ w10 ⟨rfl, hO11⟩
        replace hO11 := hO11.unframe1
        refine LW.value (.free rfl) rfl (fun _ r => R.not (r.e rfl)) ?_
        refine LW.value (.free rfl) rfl (fun _ r => R.move (r.e rfl)) ?_
        refine LW.value (.yes rfl rfl rfl) rfl (fun _ r => R.move (r.e rfl)) ?_
        refine LW.value (.yes rfl rfl rfl) rfl (fun _ r => R.move (r.e rfl)) ?_
        have hk12 := hs.takeN (k := at_.toNat) (by omega)
        refine LW.value (.yes rfl rfl rfl) rfl (fun _ r => R.as (R.sliceTo (r.e rfl) (r.e rfl) Try.runUnderlying22 Try.sizeOf41 (by omega) (by omega)) (show _ = (.slice a at_.toNat c : Value) from by simp)) ?_
        refine LW.op (.yes rfl rfl rfl) (OW.calls rfl (fun _ r => R.call (vs := [.slice a at_.toNat c]) Try.call11 rfl ⟨r.e rfl, trivial⟩) (la_yes hk12 (by first | omega | (rw [List.length_take]; omega)) (fun e he => hbl e (List.mem_of_mem_take he)) (acc_take (by omega) hp) (hO11.frame [0] rfl)) ?_)
        rintro _ w13 ⟨rfl, hO14⟩
        replace hO14 := hO14.unframe1
        refine LW.value (.free rfl) rfl (fun _ r => R.pick_no (r.e rfl) (r.e rfl)) ?_
        refine LW.value (.free rfl) rfl (fun _ r => R.move (r.e rfl)) ?_
        refine LW.op (.yes rfl rfl rfl) (OW.calls rfl (fun _ r => R.call (vs := []) Try.call8 rfl trivial) (x_live _ _ (hO14.frame [] rfl)) ?_)
        rintro _ w15 ⟨rfl, hO16⟩
        replace hO16 := hO16.unframe0
        refine LW.value (.free rfl) rfl (fun _ r => R.pick_yes (r.e rfl) (r.e rfl)) ?_
        refine LW.value (.free rfl) rfl (fun _ r => R.assign (r.e rfl)) ?_
        refine LW.nil (EW.then (?_))
        refine CW.ret ?_
        refine EW.ret1 rfl rfl ?_
        exact ⟨rfl, hO16.pick [0] rfl⟩

set_option maxRecDepth 100000 in
set_option maxHeartbeats 1000000 in
theorem x_cut_no (G : Seg) (a : Option Addr) (n c : Nat) (l : List Ev) (hs : Sl G 8 encE a n c l) (hbl : EvB l) (at_ : Int) (hp : ¬ AccP l) (w : World) (hO : Own w [G]) : Calls Try.prog 6 [.slice a n c, .int .i64 at_].toArray w (Ret fun v w' => v = .bool true ∧ Own w' [G]) := by
  have hl := hs.hlen
  have hle := hs.hle
  refine enter (n := 31) Try.func6 rfl rfl rfl ?_
  refine CW.seq ?_
  refine CW.region ?_
  refine LW.value (.free rfl) rfl (fun _ r => R.assign (r.e rfl)) ?_
  refine LW.nil (EW.then (?_))
  refine CW.seq ?_
  refine CW.seq ?_
  refine CW.region ?_
  refine LW.value (.free rfl) rfl (fun _ r => R.move (r.e rfl)) ?_
  refine LW.value (.free rfl) rfl (fun _ r => R.len_slice (r.e rfl) Try.runUnderlying22) ?_
  refine LW.value (.free rfl) rfl (fun _ r => R.gtr (r.e rfl) (r.e rfl)) ?_
  refine LW.value (.free rfl) rfl (fun _ r => R.move (r.e rfl)) ?_
  by_cases h1 : 16 < (n : Int)
  · -- 16 < (n : Int)
    refine LW.off (.no rfl rfl (kb (dT h1))) rfl ?_
    refine LW.off (.no rfl rfl (kb (dT h1))) rfl ?_
    refine LW.value (.free rfl) rfl (fun _ r => R.pick_yes (r.e (kb (dT h1))) (r.e rfl)) ?_
    refine LW.value (.free rfl) rfl (fun _ r => R.move (r.e rfl)) ?_
    refine LW.off (.no rfl rfl rfl) rfl ?_
    refine LW.off (.no rfl rfl rfl) rfl ?_
    refine LW.off (.no rfl rfl rfl) rfl ?_
    refine LW.off (.no rfl rfl rfl) rfl ?_
    refine LW.value (.free rfl) rfl (fun _ r => R.pick_yes (r.e rfl) (r.e rfl)) ?_
    refine LW.nil (EW.then (?_))
    refine CW.yes rfl ?_
    refine CW.seq ?_
    refine CW.region ?_
    refine LW.op (.free rfl) (OW.calls rfl (fun _ r => R.call (vs := []) Try.call8 rfl trivial) (x_live _ _ (hO.frame [] rfl)) ?_)
    rintro _ w2 ⟨rfl, hO3⟩
    replace hO3 := hO3.unframe0
    refine LW.value (.free rfl) rfl (fun _ r => R.assign (r.e rfl)) ?_
    refine LW.nil (EW.then (?_))
    refine CW.ret (EW.then_ret (?_))
    refine EW.ret1 rfl rfl ?_
    exact ⟨rfl, hO3.pick [0] rfl⟩
  · -- not: 16 < (n : Int)
    refine LW.value (.yes rfl rfl (kb (dF h1))) rfl (fun _ r => R.move (r.e rfl)) ?_
    refine LW.value (.yes rfl rfl (kb (dF h1))) rfl (fun _ r => R.lss (r.e rfl) (r.e rfl)) ?_
    refine LW.value (.free rfl) rfl (fun _ r => R.pick_no (r.e (kb (dF h1))) (r.e rfl)) ?_
    refine LW.value (.free rfl) rfl (fun _ r => R.move (r.e rfl)) ?_
    by_cases h4 : at_ < 0
    · -- at_ < 0
      refine LW.off (.no rfl rfl (kb (dT h4))) rfl ?_
      refine LW.off (.no rfl rfl (kb (dT h4))) rfl ?_
      refine LW.off (.no rfl rfl (kb (dT h4))) rfl ?_
      refine LW.off (.no rfl rfl (kb (dT h4))) rfl ?_
      refine LW.value (.free rfl) rfl (fun _ r => R.pick_yes (r.e (kb (dT h4))) (r.e rfl)) ?_
      refine LW.nil (EW.then (?_))
      refine CW.yes rfl ?_
      refine CW.seq ?_
      refine CW.region ?_
      refine LW.op (.free rfl) (OW.calls rfl (fun _ r => R.call (vs := []) Try.call8 rfl trivial) (x_live _ _ (hO.frame [] rfl)) ?_)
      rintro _ w5 ⟨rfl, hO6⟩
      replace hO6 := hO6.unframe0
      refine LW.value (.free rfl) rfl (fun _ r => R.assign (r.e rfl)) ?_
      refine LW.nil (EW.then (?_))
      refine CW.ret (EW.then_ret (?_))
      refine EW.ret1 rfl rfl ?_
      exact ⟨rfl, hO6.pick [0] rfl⟩
    · -- not: at_ < 0
      refine LW.value (.yes rfl rfl (kb (dF h4))) rfl (fun _ r => R.move (r.e rfl)) ?_
      refine LW.value (.yes rfl rfl (kb (dF h4))) rfl (fun _ r => R.move (r.e rfl)) ?_
      refine LW.value (.yes rfl rfl (kb (dF h4))) rfl (fun _ r => R.len_slice (r.e rfl) Try.runUnderlying22) ?_
      refine LW.value (.yes rfl rfl (kb (dF h4))) rfl (fun _ r => R.gtr (r.e rfl) (r.e rfl)) ?_
      refine LW.value (.free rfl) rfl (fun _ r => R.pick_no (r.e (kb (dF h4))) (r.e rfl)) ?_
      refine LW.nil (EW.then (?_))
      by_cases h7 : (n : Int) < at_
      · -- (n : Int) < at_
        refine CW.yes (kb (dT h7)) ?_
        refine CW.seq ?_
        refine CW.region ?_
        refine LW.op (.free rfl) (OW.calls rfl (fun _ r => R.call (vs := []) Try.call8 rfl trivial) (x_live _ _ (hO.frame [] rfl)) ?_)
        rintro _ w8 ⟨rfl, hO9⟩
        replace hO9 := hO9.unframe0
        refine LW.value (.free rfl) rfl (fun _ r => R.assign (r.e rfl)) ?_
        refine LW.nil (EW.then (?_))
        refine CW.ret (EW.then_ret (?_))
        refine EW.ret1 rfl rfl ?_
        exact ⟨rfl, hO9.pick [0] rfl⟩
      · -- not: (n : Int) < at_
        refine CW.no (kb (dF h7)) ?_
        refine CW.skip (EW.then (?_))
        refine CW.seq ?_
        refine CW.region ?_
        refine LW.value (.free rfl) rfl (fun _ r => R.move (r.e rfl)) ?_
        refine LW.op (.free rfl) (OW.calls rfl (fun _ r => R.call (vs := [.slice a n c]) Try.call11 rfl ⟨r.e rfl, trivial⟩) (la_no hs (by first | omega | (rw [List.length_take]; omega)) hbl hp (hO.frame [0] rfl)) ?_)
        rintro _ w10 ⟨rfl, hO11⟩
        replace hO11 := hO11.unframe1
        refine LW.value (.free rfl) rfl (fun _ r => R.not (r.e rfl)) ?_
        refine LW.value (.free rfl) rfl (fun _ r => R.move (r.e rfl)) ?_
        refine LW.off (.no rfl rfl rfl) rfl ?_
        refine LW.off (.no rfl rfl rfl) rfl ?_
        refine LW.off (.no rfl rfl rfl) rfl ?_
        refine LW.off (.no rfl rfl rfl) rfl ?_
        refine LW.value (.free rfl) rfl (fun _ r => R.pick_yes (r.e rfl) (r.e rfl)) ?_
        refine LW.value (.free rfl) rfl (fun _ r => R.move (r.e rfl)) ?_
        refine LW.op (.yes rfl rfl rfl) (OW.calls rfl (fun _ r => R.call (vs := []) Try.call8 rfl trivial) (x_live _ _ (hO11.frame [] rfl)) ?_)
        rintro _ w12 ⟨rfl, hO13⟩
        replace hO13 := hO13.unframe0
        refine LW.value (.free rfl) rfl (fun _ r => R.pick_yes (r.e rfl) (r.e rfl)) ?_
        refine LW.value (.free rfl) rfl (fun _ r => R.assign (r.e rfl)) ?_
        refine LW.nil (EW.then (?_))
        refine CW.ret ?_
        refine EW.ret1 rfl rfl ?_
        exact ⟨rfl, hO13.pick [0] rfl⟩

theorem x_cut (G : Seg) (a : Option Addr) (n c : Nat) (l : List Ev) (hs : Sl G 8 encE a n c l) (hbl : EvB l) (at_ : Int) (w : World) (hO : Own w [G]) : Calls Try.prog 6 [.slice a n c, .int .i64 at_].toArray w (Ret fun v w' => v = .bool true ∧ Own w' [G]) := by
  by_cases hp : AccP l
  · exact x_cut_yes G a n c l hs hbl at_ hp w hO
  · exact x_cut_no G a n c l hs hbl at_ hp w hO
end Go.Sd
