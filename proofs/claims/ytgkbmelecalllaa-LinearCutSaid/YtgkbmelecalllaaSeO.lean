/-
  slices.Repeat of one true, walked.
-/
import Derived.Test.YtgkbmelecalllaaSeN
import Derived.Test.YtgkbmelecalllaaSf5
set_option linter.unusedSimpArgs false
set_option linter.unusedVariables false
set_option linter.unusedSectionVars false
namespace Go.Sd
open Go Go.Proofs
variable [Str]
set_option maxRecDepth 100000 in
set_option maxHeartbeats 400000 in
theorem v_mul64 (k : Nat) (hk : k ≤ 1000) (F : Seg) (w : World) (hO : Own w [F]) : Calls Try.prog 60 [.int .u64 1, .int .u64 (k : Int)].toArray w (Ret fun v w' => v = .tuple #[.int .u64 0, .int .u64 k] ∧ Own w' [F]) := by
  refine enter (n := 51) Try.func60 rfl rfl rfl ?_
  refine CW.seq ?_
  refine CW.region ?_
  refine LW.value (.free rfl) rfl (fun _ r => R.assign (r.e rfl)) ?_
  refine LW.value (.free rfl) rfl (fun _ r => R.assign (r.e rfl)) ?_
  refine LW.nil (EW.then (?_))
  refine CW.seq ?_
  refine CW.region ?_
  refine LW.value (.free rfl) rfl (fun _ r => R.move (r.e rfl)) ?_
  refine LW.value (.free rfl) rfl (fun _ r => R.as (R.and (r.e rfl) (r.e rfl)) (congrArg (Value.int .u64) (show _ = (1 : Int) from by decide))) ?_
  refine LW.value (.free rfl) rfl (fun _ r => R.assign (r.e rfl)) ?_
  refine LW.nil (EW.then (?_))
  refine CW.seq ?_
  refine CW.region ?_
  refine LW.value (.free rfl) rfl (fun _ r => R.move (r.e rfl)) ?_
  refine LW.value (.free rfl) rfl (fun _ r => R.as (R.shr (r.e rfl) (r.e rfl) (by decide)) (congrArg (Value.int .u64) (show _ = (0 : Int) from by decide))) ?_
  refine LW.value (.free rfl) rfl (fun _ r => R.assign (r.e rfl)) ?_
  refine LW.nil (EW.then (?_))
  refine CW.seq ?_
  refine CW.region ?_
  refine LW.value (.free rfl) rfl (fun _ r => R.move (r.e rfl)) ?_
  refine LW.value (.free rfl) rfl (fun _ r => R.as (R.and (r.e rfl) (r.e rfl)) (congrArg (Value.int .u64) (show _ = (k : Int) from by first | exact mask32 (by omega) (by omega) | (rw [show (1 : Int) * (k : Int) = k from by omega]; exact wrap_u64 (by omega) (by omega))))) ?_
  refine LW.value (.free rfl) rfl (fun _ r => R.assign (r.e rfl)) ?_
  refine LW.nil (EW.then (?_))
  refine CW.seq ?_
  refine CW.region ?_
  refine LW.value (.free rfl) rfl (fun _ r => R.move (r.e rfl)) ?_
  refine LW.value (.free rfl) rfl (fun _ r => R.as (R.shr (r.e rfl) (r.e rfl) (by decide)) (congrArg (Value.int .u64) (shr32 (by omega) (by omega)))) ?_
  refine LW.value (.free rfl) rfl (fun _ r => R.assign (r.e rfl)) ?_
  refine LW.nil (EW.then (?_))
  refine CW.seq ?_
  refine CW.region ?_
  refine LW.value (.free rfl) rfl (fun _ r => R.move (r.e rfl)) ?_
  refine LW.value (.free rfl) rfl (fun _ r => R.move (r.e rfl)) ?_
  refine LW.value (.free rfl) rfl (fun _ r => R.as (R.mul (r.e rfl) (r.e rfl)) (congrArg (Value.int .u64) (show _ = (k : Int) from by first | exact mask32 (by omega) (by omega) | (rw [show (1 : Int) * (k : Int) = k from by omega]; exact wrap_u64 (by omega) (by omega))))) ?_
  refine LW.value (.free rfl) rfl (fun _ r => R.assign (r.e rfl)) ?_
  refine LW.nil (EW.then (?_))
  refine CW.seq ?_
  refine CW.region ?_
  refine LW.value (.free rfl) rfl (fun _ r => R.move (r.e rfl)) ?_
  refine LW.value (.free rfl) rfl (fun _ r => R.move (r.e rfl)) ?_
  refine LW.value (.free rfl) rfl (fun _ r => R.as (R.mul (r.e rfl) (r.e rfl)) (congrArg (Value.int .u64) (show _ = (0 : Int) from by rw [show (0 : Int) * (k : Int) = 0 from by omega]; decide))) ?_
  refine LW.value (.free rfl) rfl (fun _ r => R.move (r.e rfl)) ?_
  refine LW.value (.free rfl) rfl (fun _ r => R.as (R.shr (r.e rfl) (r.e rfl) (by decide)) (congrArg (Value.int .u64) (shr32 (by omega) (by omega)))) ?_
  refine LW.value (.free rfl) rfl (fun _ r => R.as (R.add (r.e rfl) (r.e rfl)) (congrArg (Value.int .u64) (show _ = (0 : Int) from by decide))) ?_
  refine LW.value (.free rfl) rfl (fun _ r => R.assign (r.e rfl)) ?_
  refine LW.nil (EW.then (?_))
  refine CW.seq ?_
  refine CW.region ?_
  refine LW.value (.free rfl) rfl (fun _ r => R.move (r.e rfl)) ?_
  refine LW.value (.free rfl) rfl (fun _ r => R.as (R.and (r.e rfl) (r.e rfl)) (congrArg (Value.int .u64) (show _ = (0 : Int) from by decide))) ?_
  refine LW.value (.free rfl) rfl (fun _ r => R.assign (r.e rfl)) ?_
  refine LW.nil (EW.then (?_))
  refine CW.seq ?_
  refine CW.region ?_
  refine LW.value (.free rfl) rfl (fun _ r => R.move (r.e rfl)) ?_
  refine LW.value (.free rfl) rfl (fun _ r => R.as (R.shr (r.e rfl) (r.e rfl) (by decide)) (congrArg (Value.int .u64) (show _ = (0 : Int) from by decide))) ?_
  refine LW.value (.free rfl) rfl (fun _ r => R.assign (r.e rfl)) ?_
  refine LW.nil (EW.then (?_))
  refine CW.seq ?_
  refine CW.region ?_
  refine LW.value (.free rfl) rfl (fun _ r => R.move (r.e rfl)) ?_
  refine LW.value (.free rfl) rfl (fun _ r => R.move (r.e rfl)) ?_
  refine LW.value (.free rfl) rfl (fun _ r => R.move (r.e rfl)) ?_
  refine LW.value (.free rfl) rfl (fun _ r => R.as (R.mul (r.e rfl) (r.e rfl)) (congrArg (Value.int .u64) (show _ = (0 : Int) from by decide))) ?_
  refine LW.value (.free rfl) rfl (fun _ r => R.as (R.add (r.e rfl) (r.e rfl)) (congrArg (Value.int .u64) (show _ = (0 : Int) from by decide))) ?_
  refine LW.value (.free rfl) rfl (fun _ r => R.assign (r.e rfl)) ?_
  refine LW.nil (EW.then (?_))
  refine CW.seq ?_
  refine CW.region ?_
  refine LW.value (.free rfl) rfl (fun _ r => R.move (r.e rfl)) ?_
  refine LW.value (.free rfl) rfl (fun _ r => R.move (r.e rfl)) ?_
  refine LW.value (.free rfl) rfl (fun _ r => R.as (R.mul (r.e rfl) (r.e rfl)) (congrArg (Value.int .u64) (show _ = (0 : Int) from by decide))) ?_
  refine LW.value (.free rfl) rfl (fun _ r => R.move (r.e rfl)) ?_
  refine LW.value (.free rfl) rfl (fun _ r => R.as (R.add (r.e rfl) (r.e rfl)) (congrArg (Value.int .u64) (show _ = (0 : Int) from by decide))) ?_
  refine LW.value (.free rfl) rfl (fun _ r => R.move (r.e rfl)) ?_
  refine LW.value (.free rfl) rfl (fun _ r => R.as (R.shr (r.e rfl) (r.e rfl) (by decide)) (congrArg (Value.int .u64) (show _ = (0 : Int) from by decide))) ?_
  refine LW.value (.free rfl) rfl (fun _ r => R.as (R.add (r.e rfl) (r.e rfl)) (congrArg (Value.int .u64) (show _ = (0 : Int) from by decide))) ?_
  refine LW.value (.free rfl) rfl (fun _ r => R.assign (r.e rfl)) ?_
  refine LW.nil (EW.then (?_))
  refine CW.seq ?_
  refine CW.region ?_
  refine LW.value (.free rfl) rfl (fun _ r => R.move (r.e rfl)) ?_
  refine LW.value (.free rfl) rfl (fun _ r => R.move (r.e rfl)) ?_
  refine LW.value (.free rfl) rfl (fun _ r => R.as (R.mul (r.e rfl) (r.e rfl)) (congrArg (Value.int .u64) (show _ = (k : Int) from by first | exact mask32 (by omega) (by omega) | (rw [show (1 : Int) * (k : Int) = k from by omega]; exact wrap_u64 (by omega) (by omega))))) ?_
  refine LW.value (.free rfl) rfl (fun _ r => R.assign (r.e rfl)) ?_
  refine LW.nil (EW.then (?_))
  refine CW.ret ?_
  refine EW.ret2 rfl rfl rfl ?_
  exact ⟨rfl, hO.pick [0] rfl⟩

set_option maxRecDepth 100000 in
set_option maxHeartbeats 400000 in
theorem v_mul (k : Nat) (hk : k ≤ 1000) (F : Seg) (w : World) (hO : Own w [F]) : Calls Try.prog 41 [.int .u64 1, .int .u64 (k : Int)].toArray w (Ret fun v w' => v = .tuple #[.int .u64 0, .int .u64 k] ∧ Own w' [F]) := by
  refine enter (n := 30) Try.func41 rfl rfl rfl ?_
  refine CW.seq ?_
  refine CW.region ?_
  refine LW.value (.free rfl) rfl (fun _ r => R.assign (r.e rfl)) ?_
  refine LW.value (.free rfl) rfl (fun _ r => R.assign (r.e rfl)) ?_
  refine LW.nil (EW.then (?_))
  refine CW.seq ?_
  refine CW.no rfl ?_
  refine CW.skip (EW.then (?_))
  refine CW.seq ?_
  refine CW.region ?_
  refine LW.value (.free rfl) rfl (fun _ r => R.move (r.e rfl)) ?_
  refine LW.value (.free rfl) rfl (fun _ r => R.move (r.e rfl)) ?_
  refine LW.op (.free rfl) (OW.calls rfl (fun _ r => R.call (vs := [.int .u64 1, .int .u64 (k : Int)]) Try.call60 rfl ⟨r.e rfl, r.e rfl, trivial⟩) (v_mul64 k hk _ _ (hO.frame [] rfl)) ?_)
  rintro _ w1 ⟨rfl, hO2⟩
  replace hO2 := hO2.unframe0
  refine LW.value (.free rfl) rfl (fun _ r => R.move (r.e rfl)) ?_
  refine LW.value (.free rfl) rfl (fun _ r => R.extract (r.e rfl) rfl) ?_
  refine LW.value (.free rfl) rfl (fun _ r => R.extract (r.e rfl) rfl) ?_
  refine LW.value (.free rfl) rfl (fun _ r => R.assign (r.e rfl)) ?_
  refine LW.value (.free rfl) rfl (fun _ r => R.assign (r.e rfl)) ?_
  refine LW.nil (EW.then (?_))
  refine CW.seq ?_
  refine CW.region ?_
  refine LW.value (.free rfl) rfl (fun _ r => R.move (r.e rfl)) ?_
  refine LW.value (.free rfl) rfl (fun _ r => R.move (r.e rfl)) ?_
  refine LW.value (.free rfl) rfl (fun _ r => R.assign (r.e rfl)) ?_
  refine LW.value (.free rfl) rfl (fun _ r => R.assign (r.e rfl)) ?_
  refine LW.nil (EW.then (?_))
  refine CW.ret ?_
  refine EW.ret2 rfl rfl rfl ?_
  exact ⟨rfl, hO2.pick [0] rfl⟩

set_option maxRecDepth 100000 in
set_option maxHeartbeats 400000 in
theorem v_repeat (k bx : Nat) (hk : k ≤ 1000) (F : Seg) (w : World) (hO : Own w [[(bx, .cells #[.bool true] 4 (0, 0))], F]) : Calls Try.prog 21 [.slice (some ⟨bx, 0, none⟩) 1 1, .int .i64 (k : Int)].toArray w (Ret fun v w' => ∃ s, Grow 4 1 encB v s (List.replicate k true) ∧ Own w' [s, F]) := by
  refine enter (n := 48) Try.func21 rfl rfl rfl ?_
  refine CW.seq ?_
  refine CW.region ?_
  refine LW.value (.free rfl) rfl (fun _ r => R.assign (r.e rfl)) ?_
  refine LW.nil (EW.then (?_))
  refine CW.seq ?_
  refine CW.seq ?_
  refine CW.region ?_
  refine LW.value (.free rfl) rfl (fun _ r => R.move (r.e rfl)) ?_
  refine LW.value (.free rfl) rfl (fun _ r => R.lss (r.e rfl) (r.e rfl)) ?_
  refine LW.nil (EW.then (?_))
  have h1 : ¬ ((k : Int) < 0) := by omega
  refine CW.no (kb (dF h1)) ?_
  refine CW.skip (EW.then (?_))
  refine CW.seq ?_
  refine CW.region ?_
  refine LW.value (.free rfl) rfl (fun _ r => R.move (r.e rfl)) ?_
  refine LW.value (.free rfl) rfl (fun _ r => R.len_slice (r.e rfl) Try.runUnderlying50) ?_
  refine LW.value (.free rfl) rfl (fun _ r => R.as (R.convert_int (r.e rfl) Try.runUnderlying3 Try.runUnderlying89) (congrArg (Value.int .u64) (show _ = (1 : Int) from by decide))) ?_
  refine LW.value (.free rfl) rfl (fun _ r => R.move (r.e rfl)) ?_
  refine LW.value (.free rfl) rfl (fun _ r => R.as (R.convert_int (r.e rfl) Try.runUnderlying3 Try.runUnderlying89) (congrArg (Value.int .u64) (wrap_u64 (by omega) (by omega)))) ?_
  refine LW.op (.free rfl) (OW.calls rfl (fun _ r => R.call (vs := [.int .u64 1, .int .u64 (k : Int)]) Try.call41 rfl ⟨r.e rfl, r.e rfl, trivial⟩) (v_mul k hk _ _ (hO.frame [] rfl)) ?_)
  rintro _ w2 ⟨rfl, hO3⟩
  replace hO3 := hO3.unframe0
  refine LW.value (.free rfl) rfl (fun _ r => R.move (r.e rfl)) ?_
  refine LW.value (.free rfl) rfl (fun _ r => R.extract (r.e rfl) rfl) ?_
  refine LW.value (.free rfl) rfl (fun _ r => R.extract (r.e rfl) rfl) ?_
  refine LW.value (.free rfl) rfl (fun _ r => R.assign (r.e rfl)) ?_
  refine LW.value (.free rfl) rfl (fun _ r => R.assign (r.e rfl)) ?_
  refine LW.nil (EW.then (?_))
  refine CW.seq ?_
  refine CW.seq ?_
  refine CW.region ?_
  refine LW.value (.free rfl) rfl (fun _ r => R.move (r.e rfl)) ?_
  refine LW.value (.free rfl) rfl (fun _ r => R.as (R.gtr (r.e rfl) (r.e rfl)) rfl) ?_
  refine LW.value (.free rfl) rfl (fun _ r => R.move (r.e rfl)) ?_
  refine LW.value (.yes rfl rfl rfl) rfl (fun _ r => R.move (r.e rfl)) ?_
  refine LW.value (.yes rfl rfl rfl) rfl (fun _ r => R.gtr (r.e rfl) (r.e rfl)) ?_
  refine LW.value (.free rfl) rfl (fun _ r => R.pick_no (r.e rfl) (r.e rfl)) ?_
  refine LW.nil (EW.then (?_))
  have h4 : ¬ (9223372036854775807 < (k : Int)) := by omega
  refine CW.no (kb (dF h4)) ?_
  refine CW.skip (EW.then (?_))
  refine CW.seq ?_
  refine CW.region ?_
  refine LW.value (.free rfl) rfl (fun _ r => R.move (r.e rfl)) ?_
  refine LW.value (.free rfl) rfl (fun _ r => R.as (R.convert_int (r.e rfl) Try.runUnderlying89 Try.runUnderlying3) (congrArg (Value.int .i64) (wrap_i64 (by omega) (by omega)))) ?_
  refine LW.op (.free rfl) (OW.makeSlice (u := .bool false) rfl hO3 elemBool rfl rfl (by omega) (by omega) (by omega) ?_)
  intro b5 w6 hO7
  have hg8 := grow_made (enc := encB) (x := false) (b := b5) (E := 4) (n := ((k : Int)).toNat) rfl
  refine LW.value (.free rfl) rfl (fun _ r => R.assign (r.e rfl)) ?_
  refine LW.nil (EW.then (?_))
  refine CW.seq ?_
  refine CW.region ?_
  refine LW.value (.free rfl) rfl (fun _ r => R.move (r.e rfl)) ?_
  refine LW.value (.free rfl) rfl (fun _ r => R.move (r.e rfl)) ?_
  obtain ⟨m13, hmm13⟩ : ∃ m, m = min 1 k := ⟨_, rfl⟩
  have hgf : Grow 4 1 encB (.slice (some ⟨b5, 0, none⟩) (k : Int).toNat (k : Int).toNat) ([(b5, .cells (List.replicate (k : Int).toNat (.bool false)).toArray 4 (0, 0))]) (fillB k 0) := by rw [fillB_0]; simpa using hg8
  refine LW.op (.free rfl) (OW.copyFill (i := 0) (k := k) (p := 0) (m := m13) rfl hO7 rfl hgf (by omega) rfl rfl Try.runUnderlying50 Try.runUnderlying50 Try.sizeOf4 (by simp; omega) (fun h0 => ⟨bx, 0, rfl, fun j hj => by have h : j = 0 := (by omega); subst h; exact hO7.cell (i := 1) rfl rfl⟩) ?_)
  intro w9 s10 hg11 hO12
  rw [Nat.zero_add] at hg11
  refine LW.value (.free rfl) rfl (fun _ r => R.assign (r.e rfl)) ?_
  refine LW.nil (EW.then (?_))
  refine CW.seq ?_
  refine CW.block ?_
  refine CW.sub (env' := [(7, .slice (some ⟨b5, 0, none⟩) (k : Int).toNat (k : Int).toNat), (8, .int .i64 (m13 : Int))]) ⟨rfl, rfl, trivial⟩ ?_
  refine CW.loop (α := Nat × Seg) (fun (x_ : Nat × Seg) env_ w_ => ∃ p s, x_ = (p, s) ∧ env_ = [(7, .slice (some ⟨b5, 0, none⟩) (k : Int).toNat (k : Int).toNat), (8, .int .i64 (p : Int))] ∧ Own w_ [s, F] ∧ (p ≤ k) ∧ (0 < p ∨ k = 0) ∧ (Grow 4 1 encB (.slice (some ⟨b5, 0, none⟩) (k : Int).toNat (k : Int).toNat) s (fillB k p))) (fun (x_ : Nat × Seg) => k - x_.1) (m13, s10) ⟨m13, s10, rfl, rfl, hO12.pick [0, 1] rfl, by omega, by omega, hg11⟩ ?_
  rintro _ _ w14 ⟨p, s, rfl, rfl, hO15, hp, hp0, hg⟩
  refine CW.seq ?_
  refine CW.seq ?_
  refine CW.region ?_
  refine LW.value (.free rfl) rfl (fun _ r => R.move (r.e rfl)) ?_
  refine LW.value (.free rfl) rfl (fun _ r => R.move (r.e rfl)) ?_
  refine LW.value (.free rfl) rfl (fun _ r => R.len_slice (r.e rfl) Try.runUnderlying50) ?_
  refine LW.value (.free rfl) rfl (fun _ r => R.lss (r.e rfl) (r.e rfl)) ?_
  refine LW.nil (EW.then (?_))
  by_cases h16 : (p : Int) < ((k : Int).toNat : Int)
  · -- (p : Int) < ((k : Int).toNat : Int)
    refine CW.yes (kb (dT h16)) ?_
    refine CW.skip (EW.then (?_))
    refine CW.block ?_
    refine HP.start (I := fun w' => Own w' [F]) (.take 0 (.take 1 (.take 2 (.take 3 (.take 4 (.take 5 (.take 6 (.one 7 (.take 8 (.take 9 (.done))))))))))) Try.mixed (by intro c d v a w h; cases d <;> exact h) hO15 (by kernel_rfl) ?_
    intro w17 hO18
    have hI19 := hO18.pick [1] rfl
    refine HP.take rfl (.free rfl) rfl hI19 (fun _ r _ hI => R.move (r.e rfl)) ?_
    refine HP.take rfl (.free rfl) rfl hI19 (fun _ r _ hI => R.move (r.e rfl)) ?_
    refine HP.take rfl (.free rfl) rfl hI19 (fun _ r _ hI => R.move (r.e rfl)) ?_
    refine HP.take rfl (.free rfl) rfl hI19 (fun _ r _ hI => R.as (R.sliceFrom (r.e rfl) (r.e rfl) Try.runUnderlying50 Try.sizeOf4 (by omega) (by omega) (by omega)) (show _ = (.slice (some ⟨b5, p, none⟩) ((k : Int).toNat - p) ((k : Int).toNat - p) : Value) from by simp)) ?_
    refine HP.take rfl (.free rfl) rfl hI19 (fun _ r _ hI => R.move (r.e rfl)) ?_
    refine HP.take rfl (.free rfl) rfl hI19 (fun _ r _ hI => R.move (r.e rfl)) ?_
    refine HP.take rfl (.free rfl) rfl hI19 (fun _ r _ hI => R.as (R.sliceTo (r.e rfl) (r.e rfl) Try.runUnderlying50 Try.sizeOf4 (by omega) (by omega)) (show _ = (.slice (some ⟨b5, 0, none⟩) p ((k : Int).toNat) : Value) from by simp)) ?_
    obtain ⟨m24, hmm24⟩ : ∃ m, m = min p ((k : Int).toNat - p) := ⟨_, rfl⟩
    refine HP.one rfl (.free rfl) (OW.copyFill (i := 0) (k := k) (p := p) (m := m24) rfl hO18 rfl hg (by omega) rfl rfl Try.runUnderlying50 Try.runUnderlying50 Try.sizeOf4 (by omega) (fill_src (i := 0) hO18 rfl hg (by omega) (by omega)) ?_)
    intro w20 s21 hg22 hO23
    have hI25 := hO23.pick [1] rfl
    refine ⟨hI25, ?_⟩
    refine HP.take rfl (.free rfl) rfl hI25 (fun _ r _ hI => R.as (R.add (r.e rfl) (r.e rfl)) (congrArg (Value.int .i64) (wrap_i64 (by omega) (by omega)))) ?_
    refine HP.take rfl (.free rfl) rfl hI25 (fun _ r _ hI => R.assign (r.e rfl)) ?_
    refine HP.done (EW.inB_normal (?_))
    exact EW.sub (env' := [(7, .slice (some ⟨b5, 0, none⟩) (k : Int).toNat (k : Int).toNat), (8, .int .i64 ((p + m24) : Int))]) ⟨rfl, rfl, trivial⟩ (EW.round (p + m24, s21) ⟨p + m24, s21, rfl, rfl, hO23.pick [0, 0] rfl, by omega, by omega, hg22⟩ (by dsimp only; omega))
  · -- not: (p : Int) < ((k : Int).toNat : Int)
    refine CW.no (kb (dF h16)) ?_
    refine CW.exit (EW.then_exit (EW.then_exit (EW.inB_same (EW.then (?_)))))
    refine CW.seq ?_
    refine CW.region ?_
    refine LW.value (.free rfl) rfl (fun _ r => R.move (r.e rfl)) ?_
    refine LW.value (.free rfl) rfl (fun _ r => R.assign (r.e rfl)) ?_
    refine LW.nil (EW.then (?_))
    refine CW.ret ?_
    refine EW.ret1 rfl rfl ?_
    exact ⟨s, by rw [show p = k from by omega, fillB_all] at hg; exact hg, hO15.pick [0, 0] rfl⟩

end Go.Sd
