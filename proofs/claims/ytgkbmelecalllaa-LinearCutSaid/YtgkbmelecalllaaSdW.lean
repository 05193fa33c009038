/-
  What the functions of the document's map come to, walked.
-/
import Derived.Test.YtgkbmelecalllaaSdM
import Derived.Test.YtgkbmelecalllaaProg
set_option linter.unusedSimpArgs false
set_option linter.unusedVariables false
set_option linter.unusedSectionVars false
namespace Go.Sd
open Go Go.Proofs
variable [Str]
theorem Try.mixed : Try.prog.follows .mixedOrders = true := by kernel_rfl
theorem elem28 : ElemT Try.prog 31 79 3 40 (.agg #[.int .i64 0, .slice none 0 0, .int .i64 0]) := ⟨Try.underlying31, ⟨Try.t79, by kernel_rfl, rfl, rfl, rfl⟩, by decide, rfl⟩
theorem elem29 : ElemT Try.prog 32 3 1 8 (.int .i64 0) := ⟨Try.underlying32, ⟨Try.t3, by kernel_rfl, rfl, rfl, rfl⟩, by decide, rfl⟩
section
variable {ρ : Operand → Value} {w : World} {dst : Option Tmp} {ty t' : TypeId} {pos : String} {aft : Array Edge} {g : Option (Nat × Bool)} {x y : Operand} {a b c d : Int}
theorem eq39_eql (hx : ρ x = .agg #[.int .i64 a, .int .i64 b]) (hy : ρ y = .agg #[.int .i64 c, .int .i64 d]) : (execOp ρ ⟨dst, .binOp .eql 39 x y t', ty, pos, aft, g⟩).run Try.prog w = .ok (.value (.bool (decide (a = c ∧ b = d)))) w := by
  simp only [execOp, hx, hy]
  simp [go_sem]
  by_cases h1 : a = c <;> by_cases h2 : b = d <;> simp [h1, h2]
theorem eq39_neq (hx : ρ x = .agg #[.int .i64 a, .int .i64 b]) (hy : ρ y = .agg #[.int .i64 c, .int .i64 d]) : (execOp ρ ⟨dst, .binOp .neq 39 x y t', ty, pos, aft, g⟩).run Try.prog w = .ok (.value (.bool (!decide (a = c ∧ b = d)))) w := by
  simp only [execOp, hx, hy]
  simp [go_sem]
  by_cases h1 : a = c <;> by_cases h2 : b = d <;> simp [h1, h2]
variable {a1 a2 a3 a4 b1 b2 b3 b4 : Int}
theorem eq36_eql (hx : ρ x = .agg #[.int .i64 a1, .int .i64 a2, .int .i64 a3, .int .i64 a4]) (hy : ρ y = .agg #[.int .i64 b1, .int .i64 b2, .int .i64 b3, .int .i64 b4]) : (execOp ρ ⟨dst, .binOp .eql 36 x y t', ty, pos, aft, g⟩).run Try.prog w = .ok (.value (.bool (decide (a1 = b1 ∧ a2 = b2 ∧ a3 = b3 ∧ a4 = b4)))) w := by
  simp only [execOp, hx, hy]
  simp [go_sem]
  by_cases h1 : a1 = b1 <;> by_cases h2 : a2 = b2 <;> by_cases h3 : a3 = b3 <;> by_cases h4 : a4 = b4 <;> simp [h1, h2, h3, h4]
theorem eq36_neq (hx : ρ x = .agg #[.int .i64 a1, .int .i64 a2, .int .i64 a3, .int .i64 a4]) (hy : ρ y = .agg #[.int .i64 b1, .int .i64 b2, .int .i64 b3, .int .i64 b4]) : (execOp ρ ⟨dst, .binOp .neq 36 x y t', ty, pos, aft, g⟩).run Try.prog w = .ok (.value (.bool (!decide (a1 = b1 ∧ a2 = b2 ∧ a3 = b3 ∧ a4 = b4)))) w := by
  simp only [execOp, hx, hy]
  simp [go_sem]
  by_cases h1 : a1 = b1 <;> by_cases h2 : a2 = b2 <;> by_cases h3 : a3 = b3 <;> by_cases h4 : a4 = b4 <;> simp [h1, h2, h3, h4]
end

set_option maxRecDepth 100000 in
set_option maxHeartbeats 400000 in
theorem k_of (e : Int) (F : Seg) (w : World) (hO : Own w [F]) : Calls Try.prog 54 [.int .i64 e].toArray w (Ret fun v w' => v = .agg #[.int .i64 e, .int .i64 0] ∧ Own w' [F]) := by
  refine enter (n := 5) Try.func54 rfl rfl rfl ?_
  refine CW.seq ?_
  refine CW.region ?_
  refine LW.op (.free rfl) (OW.alloc (cs := #[.int .i64 0, .int .i64 0]) rfl hO Try.zeroValue39 rfl ?_)
  intro b1 w2 hO3
  refine LW.nil (EW.then (?_))
  refine CW.seq ?_
  refine CW.region ?_
  refine LW.value (.free rfl) rfl (fun _ r => R.move (r.e rfl)) ?_
  refine LW.value (.free rfl) rfl (fun _ r => R.build (v := .agg #[.int .i64 e, .int .i64 0]) (vs := [(0, .int .i64 e)]) ⟨⟨r.e rfl, rfl⟩, trivial⟩ (by simp [go_sem])) ?_
  refine LW.op (.free rfl) (OW.storeall (i := 0) (vs := [.int .i64 e, .int .i64 0]) rfl hO3 rfl rfl rfl rfl Try.sizeOf39 rfl ?_)
  intro w4 hO5
  refine LW.nil (EW.then (?_))
  refine CW.ret ?_
  refine EW.retc (vs := [.int .i64 e, .int .i64 0]) rfl rfl Try.isAgg39 Try.sizeOf39 (hO5.cells (i := 0) rfl rfl) ?_
  exact ⟨rfl, hO5.pick [1] rfl⟩

set_option maxRecDepth 100000 in
set_option maxHeartbeats 400000 in
theorem k_make (s g : Int) (F : Seg) (w : World) (hO : Own w [F]) : Calls Try.prog 15 [.int .i64 s, .int .i64 g].toArray w (Ret fun v w' => v = .tuple #[.int .i64 (makeH s g).1, .int .i64 (makeH s g).2] ∧ Own w' [F]) := by
  refine enter (n := 25) Try.func15 rfl rfl rfl ?_
  refine CW.seq ?_
  refine CW.region ?_
  refine LW.value (.free rfl) rfl (fun _ r => R.assign (r.e rfl)) ?_
  refine LW.value (.free rfl) rfl (fun _ r => R.assign (r.e rfl)) ?_
  refine LW.nil (EW.then (?_))
  refine CW.seq ?_
  refine CW.seq ?_
  refine CW.region ?_
  refine LW.value (.free rfl) rfl (fun _ r => R.move (r.e rfl)) ?_
  refine LW.value (.free rfl) rfl (fun _ r => R.lss (r.e rfl) (r.e rfl)) ?_
  refine LW.value (.free rfl) rfl (fun _ r => R.move (r.e rfl)) ?_
  by_cases h1 : s < 0
  · -- s < 0
    refine LW.off (.no rfl rfl (kb (dT h1))) rfl ?_
    refine LW.off (.no rfl rfl (kb (dT h1))) rfl ?_
    refine LW.value (.free rfl) rfl (fun _ r => R.pick_yes (r.e (kb (dT h1))) (r.e rfl)) ?_
    refine LW.value (.free rfl) rfl (fun _ r => R.move (r.e rfl)) ?_
    refine LW.off (.no rfl rfl rfl) rfl ?_
    refine LW.off (.no rfl rfl rfl) rfl ?_
    refine LW.value (.free rfl) rfl (fun _ r => R.pick_yes (r.e rfl) (r.e rfl)) ?_
    refine LW.value (.free rfl) rfl (fun _ r => R.move (r.e rfl)) ?_
    refine LW.off (.no rfl rfl rfl) rfl ?_
    refine LW.off (.no rfl rfl rfl) rfl ?_
    refine LW.value (.free rfl) rfl (fun _ r => R.pick_yes (r.e rfl) (r.e rfl)) ?_
    refine LW.nil (EW.then (?_))
    refine CW.yes rfl ?_
    refine CW.seq ?_
    refine CW.region ?_
    refine LW.value (.free rfl) rfl (fun _ r => R.assign (r.e rfl)) ?_
    refine LW.value (.free rfl) rfl (fun _ r => R.assign (r.e rfl)) ?_
    refine LW.nil (EW.then (?_))
    refine CW.ret (EW.then_ret (?_))
    refine EW.ret2 rfl rfl rfl ?_
    exact ⟨by simp [makeH, show s < 0 from by omega], hO⟩
  · -- not: s < 0
    refine LW.value (.yes rfl rfl (kb (dF h1))) rfl (fun _ r => R.move (r.e rfl)) ?_
    refine LW.value (.yes rfl rfl (kb (dF h1))) rfl (fun _ r => R.gtr (r.e rfl) (r.e rfl)) ?_
    refine LW.value (.free rfl) rfl (fun _ r => R.pick_no (r.e (kb (dF h1))) (r.e rfl)) ?_
    refine LW.value (.free rfl) rfl (fun _ r => R.move (r.e rfl)) ?_
    by_cases h2 : 63 < s
    · -- 63 < s
      refine LW.off (.no rfl rfl (kb (dT h2))) rfl ?_
      refine LW.off (.no rfl rfl (kb (dT h2))) rfl ?_
      refine LW.value (.free rfl) rfl (fun _ r => R.pick_yes (r.e (kb (dT h2))) (r.e rfl)) ?_
      refine LW.value (.free rfl) rfl (fun _ r => R.move (r.e rfl)) ?_
      refine LW.off (.no rfl rfl rfl) rfl ?_
      refine LW.off (.no rfl rfl rfl) rfl ?_
      refine LW.value (.free rfl) rfl (fun _ r => R.pick_yes (r.e rfl) (r.e rfl)) ?_
      refine LW.nil (EW.then (?_))
      refine CW.yes rfl ?_
      refine CW.seq ?_
      refine CW.region ?_
      refine LW.value (.free rfl) rfl (fun _ r => R.assign (r.e rfl)) ?_
      refine LW.value (.free rfl) rfl (fun _ r => R.assign (r.e rfl)) ?_
      refine LW.nil (EW.then (?_))
      refine CW.ret (EW.then_ret (?_))
      refine EW.ret2 rfl rfl rfl ?_
      exact ⟨by simp [makeH, show ¬ s < 0 from by omega, show 63 < s from by omega], hO⟩
    · -- not: 63 < s
      refine LW.value (.yes rfl rfl (kb (dF h2))) rfl (fun _ r => R.move (r.e rfl)) ?_
      refine LW.value (.yes rfl rfl (kb (dF h2))) rfl (fun _ r => R.lss (r.e rfl) (r.e rfl)) ?_
      refine LW.value (.free rfl) rfl (fun _ r => R.pick_no (r.e (kb (dF h2))) (r.e rfl)) ?_
      refine LW.value (.free rfl) rfl (fun _ r => R.move (r.e rfl)) ?_
      by_cases h3 : g < 0
      · -- g < 0
        refine LW.off (.no rfl rfl (kb (dT h3))) rfl ?_
        refine LW.off (.no rfl rfl (kb (dT h3))) rfl ?_
        refine LW.value (.free rfl) rfl (fun _ r => R.pick_yes (r.e (kb (dT h3))) (r.e rfl)) ?_
        refine LW.nil (EW.then (?_))
        refine CW.yes rfl ?_
        refine CW.seq ?_
        refine CW.region ?_
        refine LW.value (.free rfl) rfl (fun _ r => R.assign (r.e rfl)) ?_
        refine LW.value (.free rfl) rfl (fun _ r => R.assign (r.e rfl)) ?_
        refine LW.nil (EW.then (?_))
        refine CW.ret (EW.then_ret (?_))
        refine EW.ret2 rfl rfl rfl ?_
        exact ⟨by simp [makeH, show ¬ s < 0 from by omega, show ¬ 63 < s from by omega, show g < 0 from by omega], hO⟩
      · -- not: g < 0
        refine LW.value (.yes rfl rfl (kb (dF h3))) rfl (fun _ r => R.move (r.e rfl)) ?_
        refine LW.value (.yes rfl rfl (kb (dF h3))) rfl (fun _ r => R.gtr (r.e rfl) (r.e rfl)) ?_
        refine LW.value (.free rfl) rfl (fun _ r => R.pick_no (r.e (kb (dF h3))) (r.e rfl)) ?_
        refine LW.nil (EW.then (?_))
        by_cases h4 : 1000 < g
        · -- 1000 < g
          refine CW.yes (kb (dT h4)) ?_
          refine CW.seq ?_
          refine CW.region ?_
          refine LW.value (.free rfl) rfl (fun _ r => R.assign (r.e rfl)) ?_
          refine LW.value (.free rfl) rfl (fun _ r => R.assign (r.e rfl)) ?_
          refine LW.nil (EW.then (?_))
          refine CW.ret (EW.then_ret (?_))
          refine EW.ret2 rfl rfl rfl ?_
          exact ⟨by simp [makeH, show ¬ s < 0 from by omega, show ¬ 63 < s from by omega, show ¬ g < 0 from by omega, show 1000 < g from by omega], hO⟩
        · -- not: 1000 < g
          refine CW.no (kb (dF h4)) ?_
          refine CW.skip (EW.then (?_))
          refine CW.seq ?_
          refine CW.region ?_
          refine LW.value (.free rfl) rfl (fun _ r => R.move (r.e rfl)) ?_
          refine LW.value (.free rfl) rfl (fun _ r => R.move (r.e rfl)) ?_
          refine LW.value (.free rfl) rfl (fun _ r => R.as (R.mul (r.e rfl) (r.e rfl)) (congrArg (Value.int .i64) (wrap_i64 (by omega) (by omega)))) ?_
          refine LW.value (.free rfl) rfl (fun _ r => R.as (R.add (r.e rfl) (r.e rfl)) (congrArg (Value.int .i64) (wrap_i64 (by omega) (by omega)))) ?_
          refine LW.value (.free rfl) rfl (fun _ r => R.as (R.add (r.e rfl) (r.e rfl)) (congrArg (Value.int .i64) (wrap_i64 (by omega) (by omega)))) ?_
          refine LW.value (.free rfl) rfl (fun _ r => R.assign (r.e rfl)) ?_
          refine LW.value (.free rfl) rfl (fun _ r => R.assign (r.e rfl)) ?_
          refine LW.nil (EW.then (?_))
          refine CW.ret ?_
          refine EW.ret2 rfl rfl rfl ?_
          exact ⟨by simp [makeH, show ¬ s < 0 from by omega, show ¬ 63 < s from by omega, show ¬ g < 0 from by omega, show ¬ 1000 < g from by omega], hO⟩

set_option maxRecDepth 100000 in
set_option maxHeartbeats 400000 in
theorem k_find (k : Nat) (G F : Seg) (aL aT : Option Addr) (nL cL nT cT : Nat) (L : List Thing) (h : Int) (w : World) (hL : Sl G 3 encT aL nL cL L) (hn : L.length ≤ 1000000) (hO : Own w [[(k, .cells #[.slice aL nL cL, .slice aT nT cT] 34 (0, 0))], G, F]) : Calls Try.prog 33 [.pointer (some ⟨k, 0, none⟩), .int .i64 h].toArray w (Ret fun v w' => (v = .int .i64 (-1) ∧ findT L h = none ∧ Own w' [[(k, .cells #[.slice aL nL cL, .slice aT nT cT] 34 (0, 0))], G, F]) ∨ (∃ (j : Nat) (x : Thing), v = .int .i64 j ∧ L[j]? = some x ∧ findT L h = some x ∧ Own w' [[(k, .cells #[.slice aL nL cL, .slice aT nT cT] 34 (0, 0))], G, F])) := by
  have hl := hL.hlen
  refine enter (n := 26) Try.func33 rfl rfl rfl ?_
  refine CW.seq ?_
  refine CW.region ?_
  refine LW.value (.free rfl) rfl (fun _ r => R.assign (r.e rfl)) ?_
  refine LW.nil (EW.then (?_))
  refine CW.seq ?_
  refine CW.seq ?_
  refine CW.region ?_
  refine LW.value (.free rfl) rfl (fun _ r => R.assign (r.e rfl)) ?_
  refine LW.nil (EW.then (?_))
  refine CW.block ?_
  refine CW.sub (env' := [(0, .pointer (some ⟨k, 0, none⟩)), (1, .int .i64 h), (5, .int .i64 (0 : Int))]) ⟨rfl, rfl, rfl, trivial⟩ ?_
  refine CW.loop (α := Nat) (fun i env_ w_ => env_ = [(0, .pointer (some ⟨k, 0, none⟩)), (1, .int .i64 h), (5, .int .i64 (i : Int))] ∧ Own w_ [[(k, .cells #[.slice aL nL cL, .slice aT nT cT] 34 (0, 0))], G, F] ∧ (i ≤ L.length) ∧ (∀ j u, j < i → L[j]? = some u → u.h ≠ h)) (fun i => L.length - i) 0 ⟨rfl, hO, Nat.zero_le _, fun j u hj => by omega⟩ ?_
  rintro i _ w1 ⟨rfl, hO2, hi, hb⟩
  refine CW.seq ?_
  refine CW.seq ?_
  refine CW.region ?_
  refine LW.value (.free rfl) rfl (fun _ r => R.move (r.e rfl)) ?_
  refine LW.value (.free rfl) rfl (fun _ r => R.move (r.e rfl)) ?_
  refine LW.value (.free rfl) rfl (fun _ r => R.nilCheck (r.e rfl)) ?_
  refine LW.value (.free rfl) rfl (fun _ r => R.fieldAddr (k := 0) (r.e rfl) Try.runUnderlying34 rfl Try.sizeOf31 rfl) ?_
  refine LW.value (.free rfl) rfl (fun _ r => R.load1 (r.e rfl) Try.isAgg31 (hO2.cell (i := 0) rfl rfl)) ?_
  refine LW.value (.free rfl) rfl (fun _ r => R.len_slice (r.e rfl) Try.runUnderlying31) ?_
  refine LW.value (.free rfl) rfl (fun _ r => R.lss (r.e rfl) (r.e rfl)) ?_
  refine LW.nil (EW.then (?_))
  by_cases h3 : (i : Int) < (nL : Int)
  · -- (i : Int) < (nL : Int)
    refine CW.yes (kb (dT h3)) ?_
    refine CW.skip (EW.then (?_))
    refine CW.seq ?_
    refine CW.block ?_
    refine CW.seq ?_
    refine CW.region ?_
    refine LW.value (.free rfl) rfl (fun _ r => R.move (r.e rfl)) ?_
    refine LW.value (.free rfl) rfl (fun _ r => R.nilCheck (r.e rfl)) ?_
    refine LW.value (.free rfl) rfl (fun _ r => R.fieldAddr (k := 0) (r.e rfl) Try.runUnderlying34 rfl Try.sizeOf31 rfl) ?_
    refine LW.value (.free rfl) rfl (fun _ r => R.load1 (r.e rfl) Try.isAgg31 (hO2.cell (i := 0) rfl rfl)) ?_
    refine LW.value (.free rfl) rfl (fun _ r => R.move (r.e rfl)) ?_
    obtain ⟨x4, hxx4⟩ : ∃ t, (L)[i]? = some t := ⟨_, List.getElem?_eq_getElem (by omega)⟩
    obtain ⟨blx4, olx4, hax4, hcx4⟩ := hL.at_ _ _ hxx4
    refine LW.value (.free rfl) rfl (fun _ r => R.indexAddr_o (k := olx4 + i * 3) (r.e rfl) hax4 (r.e rfl) Try.runUnderlying31 Try.sizeOf79 (by omega) (by omega) (by simp)) ?_
    refine LW.value (.free rfl) rfl (fun _ r => R.fieldAddr (k := olx4 + i * 3) (r.e rfl) Try.runUnderlying79 rfl Try.sizeOf3 rfl) ?_
    refine LW.value (.free rfl) rfl (fun _ r => R.load1 (r.e rfl) Try.isAgg3 (hO2.pc (i := 1) rfl (hcx4 0 _ rfl))) ?_
    refine LW.value (.free rfl) rfl (fun _ r => R.move (r.e rfl)) ?_
    refine LW.value (.free rfl) rfl (fun _ r => R.eql (r.e rfl) (r.e rfl)) ?_
    refine LW.nil (EW.then (?_))
    by_cases h5 : x4.h = h
    · -- x4.h = h
      refine CW.yes (kb (dT h5)) ?_
      refine CW.seq ?_
      refine CW.region ?_
      refine LW.value (.free rfl) rfl (fun _ r => R.move (r.e rfl)) ?_
      refine LW.value (.free rfl) rfl (fun _ r => R.assign (r.e rfl)) ?_
      refine LW.nil (EW.then (?_))
      refine CW.ret (EW.inB_ret (EW.then_ret (EW.then_ret (EW.inB_ret (EW.then_ret (?_))))))
      refine EW.ret1 rfl rfl ?_
      exact .inr ⟨i, x4, rfl, hxx4, findT_some hxx4 h5 hb, hO2⟩
    · -- not: x4.h = h
      refine CW.no (kb (dF h5)) ?_
      refine CW.skip (EW.inB_normal (EW.then (?_)))
      refine CW.region ?_
      refine LW.value (.free rfl) rfl (fun _ r => R.move (r.e rfl)) ?_
      refine LW.value (.free rfl) rfl (fun _ r => R.as (R.add (r.e rfl) (r.e rfl)) (congrArg (Value.int .i64) (wrap_i64 (by omega) (by omega)))) ?_
      refine LW.value (.free rfl) rfl (fun _ r => R.assign (r.e rfl)) ?_
      refine LW.nil ?_
      exact EW.sub (env' := [(0, .pointer (some ⟨k, 0, none⟩)), (1, .int .i64 h), (5, .int .i64 ((i + 1) : Int))]) ⟨rfl, rfl, rfl, trivial⟩ (EW.round (i + 1) ⟨rfl, hO2, by omega, fun j u hj hu => by
          rcases Nat.lt_succ_iff_lt_or_eq.1 hj with hj | rfl
          · exact hb j u hj hu
          · rw [hxx4] at hu; cases hu; exact h5⟩ (by omega))
  · -- not: (i : Int) < (nL : Int)
    refine CW.no (kb (dF h3)) ?_
    refine CW.exit (EW.then_exit (EW.then_exit (EW.inB_same (EW.then (?_)))))
    refine CW.seq ?_
    refine CW.region ?_
    refine LW.value (.free rfl) rfl (fun _ r => R.assign (r.e rfl)) ?_
    refine LW.nil (EW.then (?_))
    refine CW.ret ?_
    refine EW.ret1 rfl rfl ?_
    exact .inl ⟨rfl, findT_none (fun j u hj hu => hb j u (by omega) hu), hO2⟩

set_option maxRecDepth 100000 in
set_option maxHeartbeats 400000 in
theorem k_answer (k : Nat) (G F : Seg) (aL aT : Option Addr) (nL cL nT cT : Nat) (L : List Thing) (d h off n : Int) (w : World) (hL : Sl G 3 encT aL nL cL L) (hB : ∀ t ∈ L, Sl G 1 encI t.a t.b.length t.c t.b) (hn : L.length ≤ 1000000) (hO : Own w [[(k, .cells #[.slice aL nL cL, .slice aT nT cT] 34 (0, 0))], G, F]) : Calls Try.prog 30 [.pointer (some ⟨k, 0, none⟩), .agg #[.int .i64 d, .int .i64 h, .int .i64 off, .int .i64 n]].toArray w (Ret fun v w' => v = .tuple #[.agg #[.int .i64 (ansT L d h off n).1, .int .i64 (ansT L d h off n).2.1], .bool (ansT L d h off n).2.2] ∧ Own w' [[(k, .cells #[.slice aL nL cL, .slice aT nT cT] 34 (0, 0))], G, F]) := by
  have hl := hL.hlen
  refine enter (n := 90) Try.func30 rfl rfl rfl ?_
  refine CW.seq ?_
  refine CW.region ?_
  refine LW.op (.free rfl) (OW.box (cs := #[.int .i64 d, .int .i64 h, .int .i64 off, .int .i64 n]) rfl hO rfl rfl ?_)
  intro b1 w2 hO3
  refine LW.op (.free rfl) (OW.alloc (cs := #[.int .i64 0, .int .i64 0]) rfl hO3 Try.zeroValue39 rfl ?_)
  intro b4 w5 hO6
  refine LW.value (.free rfl) rfl (fun _ r => R.assign (r.e rfl)) ?_
  refine LW.nil (EW.then (?_))
  refine CW.seq ?_
  refine CW.seq ?_
  refine CW.region ?_
  refine LW.value (.free rfl) rfl (fun _ r => R.fieldAddr (k := 0) (r.e rfl) Try.runUnderlying36 rfl Try.sizeOf3 rfl) ?_
  refine LW.value (.free rfl) rfl (fun _ r => R.load1 (r.e rfl) Try.isAgg3 (hO6.cell (i := 1) rfl rfl)) ?_
  refine LW.value (.free rfl) rfl (fun _ r => R.eql (r.e rfl) (r.e rfl)) ?_
  refine LW.nil (EW.then (?_))
  by_cases h7 : d = 0
  · -- d = 0
    refine CW.yes (kb (dT h7)) ?_
    refine CW.seq ?_
    refine CW.seq ?_
    refine CW.region ?_
    refine LW.value (.free rfl) rfl (fun _ r => R.fieldAddr (k := 3) (r.e rfl) Try.runUnderlying36 rfl Try.sizeOf3 rfl) ?_
    refine LW.value (.free rfl) rfl (fun _ r => R.load1 (r.e rfl) Try.isAgg3 (hO6.cell (i := 1) rfl rfl)) ?_
    refine LW.value (.free rfl) rfl (fun _ r => R.lss (r.e rfl) (r.e rfl)) ?_
    refine LW.value (.free rfl) rfl (fun _ r => R.move (r.e rfl)) ?_
    by_cases h8 : n < 1
    · -- n < 1
      refine LW.off (.no rfl rfl (kb (dT h8))) rfl ?_
      refine LW.off (.no rfl rfl (kb (dT h8))) rfl ?_
      refine LW.off (.no rfl rfl (kb (dT h8))) rfl ?_
      refine LW.value (.free rfl) rfl (fun _ r => R.pick_yes (r.e (kb (dT h8))) (r.e rfl)) ?_
      refine LW.nil (EW.then (?_))
      refine CW.yes rfl ?_
      refine CW.seq ?_
      refine CW.region ?_
      refine LW.op (.free rfl) (OW.calls rfl (fun _ r => R.call (vs := [.int .i64 9]) Try.call54 rfl ⟨r.e rfl, trivial⟩) (k_of 9 _ _ (hO6.frame [] rfl)) ?_)
      rintro _ w9 ⟨rfl, hO10⟩
      replace hO10 := hO10.unframe0
      refine LW.op (.free rfl) (OW.storeall (i := 0) (vs := [.int .i64 9, .int .i64 0]) rfl hO10 rfl rfl rfl rfl Try.sizeOf39 rfl ?_)
      intro w11 hO12
      refine LW.value (.free rfl) rfl (fun _ r => R.assign (r.e rfl)) ?_
      refine LW.nil (EW.then (?_))
      refine CW.ret (EW.then_ret (EW.then_ret (?_)))
      refine EW.retct (vs := [.int .i64 9, .int .i64 0]) rfl rfl rfl Try.isAgg39 Try.sizeOf39 (hO12.cells (i := 0) rfl rfl) ?_
      exact ⟨by simp [ansT, h7, h8], hO12.pick [2, 2, 2] rfl⟩ -- .agg #[.int .i64 9, .int .i64 0]; .bool true
    · -- not: n < 1
      refine LW.value (.yes rfl rfl (kb (dF h8))) rfl (fun _ r => R.fieldAddr (k := 3) (r.e rfl) Try.runUnderlying36 rfl Try.sizeOf3 rfl) ?_
      refine LW.value (.yes rfl rfl (kb (dF h8))) rfl (fun _ r => R.load1 (r.e rfl) Try.isAgg3 (hO6.cell (i := 1) rfl rfl)) ?_
      refine LW.value (.yes rfl rfl (kb (dF h8))) rfl (fun _ r => R.gtr (r.e rfl) (r.e rfl)) ?_
      refine LW.value (.free rfl) rfl (fun _ r => R.pick_no (r.e (kb (dF h8))) (r.e rfl)) ?_
      refine LW.nil (EW.then (?_))
      by_cases h13 : 256 < n
      · -- 256 < n
        refine CW.yes (kb (dT h13)) ?_
        refine CW.seq ?_
        refine CW.region ?_
        refine LW.op (.free rfl) (OW.calls rfl (fun _ r => R.call (vs := [.int .i64 9]) Try.call54 rfl ⟨r.e rfl, trivial⟩) (k_of 9 _ _ (hO6.frame [] rfl)) ?_)
        rintro _ w14 ⟨rfl, hO15⟩
        replace hO15 := hO15.unframe0
        refine LW.op (.free rfl) (OW.storeall (i := 0) (vs := [.int .i64 9, .int .i64 0]) rfl hO15 rfl rfl rfl rfl Try.sizeOf39 rfl ?_)
        intro w16 hO17
        refine LW.value (.free rfl) rfl (fun _ r => R.assign (r.e rfl)) ?_
        refine LW.nil (EW.then (?_))
        refine CW.ret (EW.then_ret (EW.then_ret (?_)))
        refine EW.retct (vs := [.int .i64 9, .int .i64 0]) rfl rfl rfl Try.isAgg39 Try.sizeOf39 (hO17.cells (i := 0) rfl rfl) ?_
        exact ⟨by simp [ansT, h7, h8, h13], hO17.pick [2, 2, 2] rfl⟩ -- .agg #[.int .i64 9, .int .i64 0]; .bool true
      · -- not: 256 < n
        refine CW.no (kb (dF h13)) ?_
        refine CW.skip (EW.then (?_))
        refine CW.seq ?_
        refine CW.region ?_
        refine LW.value (.free rfl) rfl (fun _ r => R.build (v := .agg #[.int .i64 0, .int .i64 0]) (vs := []) trivial (by simp [go_sem])) ?_
        refine LW.op (.free rfl) (OW.storeall (i := 0) (vs := [.int .i64 0, .int .i64 0]) rfl hO6 rfl rfl rfl rfl Try.sizeOf39 rfl ?_)
        intro w18 hO19
        refine LW.value (.free rfl) rfl (fun _ r => R.assign (r.e rfl)) ?_
        refine LW.nil (EW.then (?_))
        refine CW.ret (EW.then_ret (?_))
        refine EW.retct (vs := [.int .i64 0, .int .i64 0]) rfl rfl rfl Try.isAgg39 Try.sizeOf39 (hO19.cells (i := 0) rfl rfl) ?_
        exact ⟨by simp [ansT, h7, h8, h13], hO19.pick [2, 2, 2] rfl⟩ -- .agg #[.int .i64 0, .int .i64 0]; .bool false
  · -- not: d = 0
    refine CW.no (kb (dF h7)) ?_
    refine CW.skip (EW.then (?_))
    refine CW.seq ?_
    refine CW.seq ?_
    refine CW.region ?_
    refine LW.value (.free rfl) rfl (fun _ r => R.fieldAddr (k := 0) (r.e rfl) Try.runUnderlying36 rfl Try.sizeOf3 rfl) ?_
    refine LW.value (.free rfl) rfl (fun _ r => R.load1 (r.e rfl) Try.isAgg3 (hO6.cell (i := 1) rfl rfl)) ?_
    refine LW.value (.free rfl) rfl (fun _ r => R.lss (r.e rfl) (r.e rfl)) ?_
    refine LW.value (.free rfl) rfl (fun _ r => R.move (r.e rfl)) ?_
    by_cases h20 : d < 0
    · -- d < 0
      refine LW.off (.no rfl rfl (kb (dT h20))) rfl ?_
      refine LW.off (.no rfl rfl (kb (dT h20))) rfl ?_
      refine LW.off (.no rfl rfl (kb (dT h20))) rfl ?_
      refine LW.value (.free rfl) rfl (fun _ r => R.pick_yes (r.e (kb (dT h20))) (r.e rfl)) ?_
      refine LW.nil (EW.then (?_))
      refine CW.yes rfl ?_
      refine CW.seq ?_
      refine CW.region ?_
      refine LW.op (.free rfl) (OW.calls rfl (fun _ r => R.call (vs := [.int .i64 1]) Try.call54 rfl ⟨r.e rfl, trivial⟩) (k_of 1 _ _ (hO6.frame [] rfl)) ?_)
      rintro _ w21 ⟨rfl, hO22⟩
      replace hO22 := hO22.unframe0
      refine LW.op (.free rfl) (OW.storeall (i := 0) (vs := [.int .i64 1, .int .i64 0]) rfl hO22 rfl rfl rfl rfl Try.sizeOf39 rfl ?_)
      intro w23 hO24
      refine LW.value (.free rfl) rfl (fun _ r => R.assign (r.e rfl)) ?_
      refine LW.nil (EW.then (?_))
      refine CW.ret (EW.then_ret (?_))
      refine EW.retct (vs := [.int .i64 1, .int .i64 0]) rfl rfl rfl Try.isAgg39 Try.sizeOf39 (hO24.cells (i := 0) rfl rfl) ?_
      exact ⟨by simp [ansT, h7, h20], hO24.pick [2, 2, 2] rfl⟩ -- .agg #[.int .i64 1, .int .i64 0]; .bool true
    · -- not: d < 0
      refine LW.value (.yes rfl rfl (kb (dF h20))) rfl (fun _ r => R.fieldAddr (k := 0) (r.e rfl) Try.runUnderlying36 rfl Try.sizeOf3 rfl) ?_
      refine LW.value (.yes rfl rfl (kb (dF h20))) rfl (fun _ r => R.load1 (r.e rfl) Try.isAgg3 (hO6.cell (i := 1) rfl rfl)) ?_
      refine LW.value (.yes rfl rfl (kb (dF h20))) rfl (fun _ r => R.gtr (r.e rfl) (r.e rfl)) ?_
      refine LW.value (.free rfl) rfl (fun _ r => R.pick_no (r.e (kb (dF h20))) (r.e rfl)) ?_
      refine LW.nil (EW.then (?_))
      by_cases h25 : 5 < d
      · -- 5 < d
        refine CW.yes (kb (dT h25)) ?_
        refine CW.seq ?_
        refine CW.region ?_
        refine LW.op (.free rfl) (OW.calls rfl (fun _ r => R.call (vs := [.int .i64 1]) Try.call54 rfl ⟨r.e rfl, trivial⟩) (k_of 1 _ _ (hO6.frame [] rfl)) ?_)
        rintro _ w26 ⟨rfl, hO27⟩
        replace hO27 := hO27.unframe0
        refine LW.op (.free rfl) (OW.storeall (i := 0) (vs := [.int .i64 1, .int .i64 0]) rfl hO27 rfl rfl rfl rfl Try.sizeOf39 rfl ?_)
        intro w28 hO29
        refine LW.value (.free rfl) rfl (fun _ r => R.assign (r.e rfl)) ?_
        refine LW.nil (EW.then (?_))
        refine CW.ret (EW.then_ret (?_))
        refine EW.retct (vs := [.int .i64 1, .int .i64 0]) rfl rfl rfl Try.isAgg39 Try.sizeOf39 (hO29.cells (i := 0) rfl rfl) ?_
        exact ⟨by simp [ansT, h7, h20, h25], hO29.pick [2, 2, 2] rfl⟩ -- .agg #[.int .i64 1, .int .i64 0]; .bool true
      · -- not: 5 < d
        refine CW.no (kb (dF h25)) ?_
        refine CW.skip (EW.then (?_))
        refine CW.seq ?_
        refine CW.region ?_
        refine LW.value (.free rfl) rfl (fun _ r => R.move (r.e rfl)) ?_
        refine LW.value (.free rfl) rfl (fun _ r => R.fieldAddr (k := 1) (r.e rfl) Try.runUnderlying36 rfl Try.sizeOf3 rfl) ?_
        refine LW.value (.free rfl) rfl (fun _ r => R.load1 (r.e rfl) Try.isAgg3 (hO6.cell (i := 1) rfl rfl)) ?_
        refine LW.op (.free rfl) (OW.calls rfl (fun _ r => R.call (vs := [.pointer (some ⟨k, 0, none⟩), .int .i64 h]) Try.call33 rfl ⟨r.e rfl, r.e rfl, trivial⟩) (k_find k G _ _ _ _ _ _ _ L h _ hL hn (hO6.frame [2, 2] rfl)) ?_)
        rintro _ w30 (⟨rfl, hf31, hO32⟩ | ⟨j33, x34, rfl, hx35, hf36, hO37⟩)
        ·
          replace hO32 := hO32.unframe2
          refine LW.value (.free rfl) rfl (fun _ r => R.assign (r.e rfl)) ?_
          refine LW.nil (EW.then (?_))
          refine CW.seq ?_
          refine CW.seq ?_
          refine CW.region ?_
          refine LW.value (.free rfl) rfl (fun _ r => R.move (r.e rfl)) ?_
          refine LW.value (.free rfl) rfl (fun _ r => R.as (R.lss (r.e rfl) (r.e rfl)) rfl) ?_
          refine LW.nil (EW.then (?_))
          refine CW.yes rfl ?_
          refine CW.seq ?_
          refine CW.region ?_
          refine LW.op (.free rfl) (OW.calls rfl (fun _ r => R.call (vs := [.int .i64 4]) Try.call54 rfl ⟨r.e rfl, trivial⟩) (k_of 4 _ _ (hO32.frame [] rfl)) ?_)
          rintro _ w38 ⟨rfl, hO39⟩
          replace hO39 := hO39.unframe0
          refine LW.op (.free rfl) (OW.storeall (i := 2) (vs := [.int .i64 4, .int .i64 0]) rfl hO39 rfl rfl rfl rfl Try.sizeOf39 rfl ?_)
          intro w40 hO41
          refine LW.value (.free rfl) rfl (fun _ r => R.assign (r.e rfl)) ?_
          refine LW.nil (EW.then (?_))
          refine CW.ret (EW.then_ret (?_))
          refine EW.retct (vs := [.int .i64 4, .int .i64 0]) rfl rfl rfl Try.isAgg39 Try.sizeOf39 (hO41.cells (i := 2) rfl rfl) ?_
          exact ⟨by simp [ansT, h7, h20, h25, hf31], hO41.pick [0, 0, 2] rfl⟩ -- .agg #[.int .i64 4, .int .i64 0]; .bool true
        ·
          replace hO37 := hO37.unframe2
          have hltj33 : j33 < L.length := (List.getElem?_eq_some_iff.1 hx35).1
          refine LW.value (.free rfl) rfl (fun _ r => R.assign (r.e rfl)) ?_
          refine LW.nil (EW.then (?_))
          refine CW.seq ?_
          refine CW.seq ?_
          refine CW.region ?_
          refine LW.value (.free rfl) rfl (fun _ r => R.move (r.e rfl)) ?_
          refine LW.value (.free rfl) rfl (fun _ r => R.lss (r.e rfl) (r.e rfl)) ?_
          refine LW.nil (EW.then (?_))
          refine CW.no (kb (dF (by omega))) ?_
          refine CW.skip (EW.then (?_))
          refine CW.seq ?_
          refine CW.region ?_
          refine LW.value (.free rfl) rfl (fun _ r => R.move (r.e rfl)) ?_
          refine LW.value (.free rfl) rfl (fun _ r => R.nilCheck (r.e rfl)) ?_
          refine LW.value (.free rfl) rfl (fun _ r => R.fieldAddr (k := 0) (r.e rfl) Try.runUnderlying34 rfl Try.sizeOf31 rfl) ?_
          refine LW.value (.free rfl) rfl (fun _ r => R.load1 (r.e rfl) Try.isAgg31 (hO37.cell (i := 0) rfl rfl)) ?_
          refine LW.value (.free rfl) rfl (fun _ r => R.move (r.e rfl)) ?_
          obtain ⟨blx34_42, olx34_42, hax34_42, hcx34_42⟩ := hL.at_ _ _ hx35
          refine LW.value (.free rfl) rfl (fun _ r => R.indexAddr_o (k := olx34_42 + j33 * 3) (r.e rfl) hax34_42 (r.e rfl) Try.runUnderlying31 Try.sizeOf79 (by omega) (by omega) (by simp)) ?_
          refine LW.value (.free rfl) rfl (fun _ r => R.loadn (vs := [.int .i64 x34.h, .slice x34.a x34.b.length x34.c, .int .i64 x34.pins]) (r.e rfl) Try.isAgg79 Try.sizeOf79 rfl (fun j v hj => hO37.pc (i := 1) rfl (hcx34_42 j v hj))) ?_
          refine LW.op (.free rfl) (OW.alloc (cs := #[.int .i64 0, .slice none 0 0, .int .i64 0]) rfl hO37 Try.zeroValue79 rfl ?_)
          intro b43 w44 hO45
          refine LW.op (.free rfl) (OW.storeall (i := 0) (vs := [.int .i64 x34.h, .slice x34.a x34.b.length x34.c, .int .i64 x34.pins]) rfl hO45 rfl rfl rfl rfl Try.sizeOf79 rfl ?_)
          intro w46 hO47
          refine LW.nil (EW.then (?_))
          refine CW.seq ?_
          refine CW.seq ?_
          refine CW.region ?_
          refine LW.value (.free rfl) rfl (fun _ r => R.fieldAddr (k := 0) (r.e rfl) Try.runUnderlying36 rfl Try.sizeOf3 rfl) ?_
          refine LW.value (.free rfl) rfl (fun _ r => R.load1 (r.e rfl) Try.isAgg3 (hO47.cell (i := 4) rfl rfl)) ?_
          refine LW.nil (EW.then (?_))
          refine CW.block ?_
          refine CW.seq ?_
          refine CW.region ?_
          refine LW.value (.free rfl) rfl (fun _ r => R.eql (r.e rfl) (r.e rfl)) ?_
          refine LW.value (.free rfl) rfl (fun _ r => R.assign (r.e rfl)) ?_
          refine LW.nil (EW.then (?_))
          by_cases h48 : d = 1
          · -- d = 1
            refine CW.yes (kb (dT h48)) ?_
            refine CW.seq ?_
            refine CW.region ?_
            refine LW.value (.free rfl) rfl (fun _ r => R.fieldAddr (k := 2) (r.e rfl) Try.runUnderlying79 rfl Try.sizeOf3 rfl) ?_
            refine LW.value (.free rfl) rfl (fun _ r => R.load1 (r.e rfl) Try.isAgg3 (hO47.cell (i := 0) rfl rfl)) ?_
            refine LW.value (.free rfl) rfl (fun _ r => R.gtr (r.e rfl) (r.e rfl)) ?_
            refine LW.nil (EW.then (?_))
            by_cases h49 : 0 < x34.pins
            · -- 0 < x34.pins
              refine CW.yes (kb (dT h49)) ?_
              refine CW.seq ?_
              refine CW.region ?_
              refine LW.op (.free rfl) (OW.calls rfl (fun _ r => R.call (vs := [.int .i64 6]) Try.call54 rfl ⟨r.e rfl, trivial⟩) (k_of 6 _ _ (hO47.frame [] rfl)) ?_)
              rintro _ w50 ⟨rfl, hO51⟩
              replace hO51 := hO51.unframe0
              refine LW.op (.free rfl) (OW.storeall (i := 3) (vs := [.int .i64 6, .int .i64 0]) rfl hO51 rfl rfl rfl rfl Try.sizeOf39 rfl ?_)
              intro w52 hO53
              refine LW.value (.free rfl) rfl (fun _ r => R.assign (r.e rfl)) ?_
              refine LW.nil (EW.then (?_))
              refine CW.ret (EW.inB_ret (EW.then_ret (?_)))
              refine EW.retct (vs := [.int .i64 6, .int .i64 0]) rfl rfl rfl Try.isAgg39 Try.sizeOf39 (hO53.cells (i := 3) rfl rfl) ?_
              exact ⟨by simp [ansT, h7, h20, h25, h48, h49, hf36, hx35], hO53.pick [1, 1, 3] rfl⟩ -- .agg #[.int .i64 6, .int .i64 0]; .bool true
            · -- not: 0 < x34.pins
              refine CW.no (kb (dF h49)) ?_
              refine CW.skip (EW.inB_normal (EW.then (?_)))
              refine CW.seq ?_
              refine CW.region ?_
              refine LW.value (.free rfl) rfl (fun _ r => R.build (v := .agg #[.int .i64 0, .int .i64 0]) (vs := []) trivial (by simp [go_sem])) ?_
              refine LW.op (.free rfl) (OW.storeall (i := 3) (vs := [.int .i64 0, .int .i64 0]) rfl hO47 rfl rfl rfl rfl Try.sizeOf39 rfl ?_)
              intro w54 hO55
              refine LW.value (.free rfl) rfl (fun _ r => R.assign (r.e rfl)) ?_
              refine LW.nil (EW.then (?_))
              refine CW.ret ?_
              refine EW.retct (vs := [.int .i64 0, .int .i64 0]) rfl rfl rfl Try.isAgg39 Try.sizeOf39 (hO55.cells (i := 3) rfl rfl) ?_
              exact ⟨by simp [ansT, h7, h20, h25, h48, h49, hf36, hx35], hO55.pick [1, 1, 3] rfl⟩ -- .agg #[.int .i64 0, .int .i64 0]; .bool true
          · -- not: d = 1
            refine CW.no (kb (dF h48)) ?_
            refine CW.seq ?_
            refine CW.seq ?_
            refine CW.region ?_
            refine LW.value (.free rfl) rfl (fun _ r => R.eql (r.e rfl) (r.e rfl)) ?_
            refine LW.value (.free rfl) rfl (fun _ r => R.assign (r.e rfl)) ?_
            refine LW.nil (EW.then (?_))
            by_cases h56 : d = 2
            · -- d = 2
              refine CW.yes (kb (dT h56)) ?_
              refine CW.skip (EW.then (?_))
              refine CW.yes (kb (dT h56)) ?_
              refine CW.seq ?_
              refine CW.seq ?_
              refine CW.region ?_
              refine LW.value (.free rfl) rfl (fun _ r => R.fieldAddr (k := 2) (r.e rfl) Try.runUnderlying36 rfl Try.sizeOf3 rfl) ?_
              refine LW.value (.free rfl) rfl (fun _ r => R.load1 (r.e rfl) Try.isAgg3 (hO47.cell (i := 4) rfl rfl)) ?_
              refine LW.value (.free rfl) rfl (fun _ r => R.lss (r.e rfl) (r.e rfl)) ?_
              refine LW.value (.free rfl) rfl (fun _ r => R.move (r.e rfl)) ?_
              by_cases h57 : off < 0
              · -- off < 0
                refine LW.off (.no rfl rfl (kb (dT h57))) rfl ?_
                refine LW.off (.no rfl rfl (kb (dT h57))) rfl ?_
                refine LW.off (.no rfl rfl (kb (dT h57))) rfl ?_
                refine LW.off (.no rfl rfl (kb (dT h57))) rfl ?_
                refine LW.off (.no rfl rfl (kb (dT h57))) rfl ?_
                refine LW.off (.no rfl rfl (kb (dT h57))) rfl ?_
                refine LW.value (.free rfl) rfl (fun _ r => R.pick_yes (r.e (kb (dT h57))) (r.e rfl)) ?_
                refine LW.nil (EW.then (?_))
                refine CW.yes rfl ?_
                refine CW.seq ?_
                refine CW.region ?_
                refine LW.op (.free rfl) (OW.calls rfl (fun _ r => R.call (vs := [.int .i64 5]) Try.call54 rfl ⟨r.e rfl, trivial⟩) (k_of 5 _ _ (hO47.frame [] rfl)) ?_)
                rintro _ w58 ⟨rfl, hO59⟩
                replace hO59 := hO59.unframe0
                refine LW.op (.free rfl) (OW.storeall (i := 3) (vs := [.int .i64 5, .int .i64 0]) rfl hO59 rfl rfl rfl rfl Try.sizeOf39 rfl ?_)
                intro w60 hO61
                refine LW.value (.free rfl) rfl (fun _ r => R.assign (r.e rfl)) ?_
                refine LW.nil (EW.then (?_))
                refine CW.ret (EW.then_ret (EW.inB_ret (EW.then_ret (?_))))
                refine EW.retct (vs := [.int .i64 5, .int .i64 0]) rfl rfl rfl Try.isAgg39 Try.sizeOf39 (hO61.cells (i := 3) rfl rfl) ?_
                exact ⟨by simp [ansT, h7, h20, h25, h48, h56, h57, hf36, hx35], hO61.pick [1, 1, 3] rfl⟩ -- .agg #[.int .i64 5, .int .i64 0]; .bool true
              · -- not: off < 0
                refine LW.value (.yes rfl rfl (kb (dF h57))) rfl (fun _ r => R.fieldAddr (k := 2) (r.e rfl) Try.runUnderlying36 rfl Try.sizeOf3 rfl) ?_
                refine LW.value (.yes rfl rfl (kb (dF h57))) rfl (fun _ r => R.load1 (r.e rfl) Try.isAgg3 (hO47.cell (i := 4) rfl rfl)) ?_
                refine LW.value (.yes rfl rfl (kb (dF h57))) rfl (fun _ r => R.fieldAddr (k := 1) (r.e rfl) Try.runUnderlying79 rfl Try.sizeOf32 rfl) ?_
                refine LW.value (.yes rfl rfl (kb (dF h57))) rfl (fun _ r => R.load1 (r.e rfl) Try.isAgg32 (hO47.cell (i := 0) rfl rfl)) ?_
                refine LW.value (.yes rfl rfl (kb (dF h57))) rfl (fun _ r => R.len_slice (r.e rfl) Try.runUnderlying32) ?_
                refine LW.value (.yes rfl rfl (kb (dF h57))) rfl (fun _ r => R.geq (r.e rfl) (r.e rfl)) ?_
                refine LW.value (.free rfl) rfl (fun _ r => R.pick_no (r.e (kb (dF h57))) (r.e rfl)) ?_
                refine LW.nil (EW.then (?_))
                by_cases h62 : (x34.b.length : Int) ≤ off
                · -- (x34.b.length : Int) ≤ off
                  refine CW.yes (kb (dT h62)) ?_
                  refine CW.seq ?_
                  refine CW.region ?_
                  refine LW.op (.free rfl) (OW.calls rfl (fun _ r => R.call (vs := [.int .i64 5]) Try.call54 rfl ⟨r.e rfl, trivial⟩) (k_of 5 _ _ (hO47.frame [] rfl)) ?_)
                  rintro _ w63 ⟨rfl, hO64⟩
                  replace hO64 := hO64.unframe0
                  refine LW.op (.free rfl) (OW.storeall (i := 3) (vs := [.int .i64 5, .int .i64 0]) rfl hO64 rfl rfl rfl rfl Try.sizeOf39 rfl ?_)
                  intro w65 hO66
                  refine LW.value (.free rfl) rfl (fun _ r => R.assign (r.e rfl)) ?_
                  refine LW.nil (EW.then (?_))
                  refine CW.ret (EW.then_ret (EW.inB_ret (EW.then_ret (?_))))
                  refine EW.retct (vs := [.int .i64 5, .int .i64 0]) rfl rfl rfl Try.isAgg39 Try.sizeOf39 (hO66.cells (i := 3) rfl rfl) ?_
                  exact ⟨by simp [ansT, h7, h20, h25, h48, h56, h57, h62, hf36, hx35], hO66.pick [1, 1, 3] rfl⟩ -- .agg #[.int .i64 5, .int .i64 0]; .bool true
                · -- not: (x34.b.length : Int) ≤ off
                  refine CW.no (kb (dF h62)) ?_
                  refine CW.skip (EW.then (?_))
                  refine CW.seq ?_
                  refine CW.region ?_
                  refine LW.value (.free rfl) rfl (fun _ r => R.fieldAddr (k := 0) (r.e rfl) Try.runUnderlying36 rfl Try.sizeOf3 rfl) ?_
                  refine LW.value (.free rfl) rfl (fun _ r => R.load1 (r.e rfl) Try.isAgg3 (hO47.cell (i := 4) rfl rfl)) ?_
                  refine LW.value (.free rfl) rfl (fun _ r => R.eql (r.e rfl) (r.e rfl)) ?_
                  refine LW.nil (EW.then (?_))
                  refine CW.yes (kb (dT h56)) ?_
                  refine CW.seq ?_
                  refine CW.region ?_
                  refine LW.value (.free rfl) rfl (fun _ r => R.fieldAddr (k := 1) (r.e rfl) Try.runUnderlying79 rfl Try.sizeOf32 rfl) ?_
                  refine LW.value (.free rfl) rfl (fun _ r => R.load1 (r.e rfl) Try.isAgg32 (hO47.cell (i := 0) rfl rfl)) ?_
                  refine LW.value (.free rfl) rfl (fun _ r => R.fieldAddr (k := 2) (r.e rfl) Try.runUnderlying36 rfl Try.sizeOf3 rfl) ?_
                  refine LW.value (.free rfl) rfl (fun _ r => R.load1 (r.e rfl) Try.isAgg3 (hO47.cell (i := 4) rfl rfl)) ?_
                  obtain ⟨x67, hxx67⟩ : ∃ t, (x34.b)[off.toNat]? = some t := ⟨_, List.getElem?_eq_getElem (by omega)⟩
                  obtain ⟨blx67, olx67, hax67, hcx67⟩ := (hB _ (List.mem_of_getElem? hx35)).at_ _ _ hxx67
                  refine LW.value (.free rfl) rfl (fun _ r => R.indexAddr_o (k := olx67 + off.toNat * 1) (r.e rfl) hax67 (r.e rfl) Try.runUnderlying32 Try.sizeOf3 (by omega) (by omega) rfl) ?_
                  refine LW.value (.free rfl) rfl (fun _ r => R.load1 (r.e rfl) Try.isAgg3 (hO47.pc (i := 2) rfl (hcx67 0 _ rfl))) ?_
                  refine LW.value (.free rfl) rfl (fun _ r => R.build (v := .agg #[.int .i64 0, .int .i64 x67]) (vs := [(1, .int .i64 x67)]) ⟨⟨r.e rfl, rfl⟩, trivial⟩ (by simp [go_sem])) ?_
                  refine LW.op (.free rfl) (OW.storeall (i := 3) (vs := [.int .i64 0, .int .i64 x67]) rfl hO47 rfl rfl rfl rfl Try.sizeOf39 rfl ?_)
                  intro w68 hO69
                  refine LW.value (.free rfl) rfl (fun _ r => R.assign (r.e rfl)) ?_
                  refine LW.nil (EW.then (?_))
                  refine CW.ret (EW.inB_ret (EW.then_ret (?_)))
                  refine EW.retct (vs := [.int .i64 0, .int .i64 x67]) rfl rfl rfl Try.isAgg39 Try.sizeOf39 (hO69.cells (i := 3) rfl rfl) ?_
                  exact ⟨by simp [ansT, h7, h20, h25, h48, h56, h57, h62, hf36, hx35, hxx67], hO69.pick [1, 1, 3] rfl⟩ -- .agg #[.int .i64 0, .int .i64 x67]; .bool true
            · -- not: d = 2
              refine CW.no (kb (dF h56)) ?_
              refine CW.region ?_
              refine LW.value (.free rfl) rfl (fun _ r => R.eql (r.e rfl) (r.e rfl)) ?_
              refine LW.value (.free rfl) rfl (fun _ r => R.assign (r.e rfl)) ?_
              refine LW.nil (EW.then (?_))
              by_cases h70 : d = 3
              · -- d = 3
                refine CW.yes (kb (dT h70)) ?_
                refine CW.seq ?_
                refine CW.seq ?_
                refine CW.region ?_
                refine LW.value (.free rfl) rfl (fun _ r => R.fieldAddr (k := 2) (r.e rfl) Try.runUnderlying36 rfl Try.sizeOf3 rfl) ?_
                refine LW.value (.free rfl) rfl (fun _ r => R.load1 (r.e rfl) Try.isAgg3 (hO47.cell (i := 4) rfl rfl)) ?_
                refine LW.value (.free rfl) rfl (fun _ r => R.lss (r.e rfl) (r.e rfl)) ?_
                refine LW.value (.free rfl) rfl (fun _ r => R.move (r.e rfl)) ?_
                by_cases h71 : off < 0
                · -- off < 0
                  refine LW.off (.no rfl rfl (kb (dT h71))) rfl ?_
                  refine LW.off (.no rfl rfl (kb (dT h71))) rfl ?_
                  refine LW.off (.no rfl rfl (kb (dT h71))) rfl ?_
                  refine LW.off (.no rfl rfl (kb (dT h71))) rfl ?_
                  refine LW.off (.no rfl rfl (kb (dT h71))) rfl ?_
                  refine LW.off (.no rfl rfl (kb (dT h71))) rfl ?_
                  refine LW.value (.free rfl) rfl (fun _ r => R.pick_yes (r.e (kb (dT h71))) (r.e rfl)) ?_
                  refine LW.nil (EW.then (?_))
                  refine CW.yes rfl ?_
                  refine CW.seq ?_
                  refine CW.region ?_
                  refine LW.op (.free rfl) (OW.calls rfl (fun _ r => R.call (vs := [.int .i64 5]) Try.call54 rfl ⟨r.e rfl, trivial⟩) (k_of 5 _ _ (hO47.frame [] rfl)) ?_)
                  rintro _ w72 ⟨rfl, hO73⟩
                  replace hO73 := hO73.unframe0
                  refine LW.op (.free rfl) (OW.storeall (i := 3) (vs := [.int .i64 5, .int .i64 0]) rfl hO73 rfl rfl rfl rfl Try.sizeOf39 rfl ?_)
                  intro w74 hO75
                  refine LW.value (.free rfl) rfl (fun _ r => R.assign (r.e rfl)) ?_
                  refine LW.nil (EW.then (?_))
                  refine CW.ret (EW.then_ret (EW.inB_ret (EW.then_ret (?_))))
                  refine EW.retct (vs := [.int .i64 5, .int .i64 0]) rfl rfl rfl Try.isAgg39 Try.sizeOf39 (hO75.cells (i := 3) rfl rfl) ?_
                  exact ⟨by simp [ansT, h7, h20, h25, h48, h56, h70, h71, hf36, hx35], hO75.pick [1, 1, 3] rfl⟩ -- .agg #[.int .i64 5, .int .i64 0]; .bool true
                · -- not: off < 0
                  refine LW.value (.yes rfl rfl (kb (dF h71))) rfl (fun _ r => R.fieldAddr (k := 2) (r.e rfl) Try.runUnderlying36 rfl Try.sizeOf3 rfl) ?_
                  refine LW.value (.yes rfl rfl (kb (dF h71))) rfl (fun _ r => R.load1 (r.e rfl) Try.isAgg3 (hO47.cell (i := 4) rfl rfl)) ?_
                  refine LW.value (.yes rfl rfl (kb (dF h71))) rfl (fun _ r => R.fieldAddr (k := 1) (r.e rfl) Try.runUnderlying79 rfl Try.sizeOf32 rfl) ?_
                  refine LW.value (.yes rfl rfl (kb (dF h71))) rfl (fun _ r => R.load1 (r.e rfl) Try.isAgg32 (hO47.cell (i := 0) rfl rfl)) ?_
                  refine LW.value (.yes rfl rfl (kb (dF h71))) rfl (fun _ r => R.len_slice (r.e rfl) Try.runUnderlying32) ?_
                  refine LW.value (.yes rfl rfl (kb (dF h71))) rfl (fun _ r => R.geq (r.e rfl) (r.e rfl)) ?_
                  refine LW.value (.free rfl) rfl (fun _ r => R.pick_no (r.e (kb (dF h71))) (r.e rfl)) ?_
                  refine LW.nil (EW.then (?_))
                  by_cases h76 : (x34.b.length : Int) ≤ off
                  · -- (x34.b.length : Int) ≤ off
                    refine CW.yes (kb (dT h76)) ?_
                    refine CW.seq ?_
                    refine CW.region ?_
                    refine LW.op (.free rfl) (OW.calls rfl (fun _ r => R.call (vs := [.int .i64 5]) Try.call54 rfl ⟨r.e rfl, trivial⟩) (k_of 5 _ _ (hO47.frame [] rfl)) ?_)
                    rintro _ w77 ⟨rfl, hO78⟩
                    replace hO78 := hO78.unframe0
                    refine LW.op (.free rfl) (OW.storeall (i := 3) (vs := [.int .i64 5, .int .i64 0]) rfl hO78 rfl rfl rfl rfl Try.sizeOf39 rfl ?_)
                    intro w79 hO80
                    refine LW.value (.free rfl) rfl (fun _ r => R.assign (r.e rfl)) ?_
                    refine LW.nil (EW.then (?_))
                    refine CW.ret (EW.then_ret (EW.inB_ret (EW.then_ret (?_))))
                    refine EW.retct (vs := [.int .i64 5, .int .i64 0]) rfl rfl rfl Try.isAgg39 Try.sizeOf39 (hO80.cells (i := 3) rfl rfl) ?_
                    exact ⟨by simp [ansT, h7, h20, h25, h48, h56, h70, h71, h76, hf36, hx35], hO80.pick [1, 1, 3] rfl⟩ -- .agg #[.int .i64 5, .int .i64 0]; .bool true
                  · -- not: (x34.b.length : Int) ≤ off
                    refine CW.no (kb (dF h76)) ?_
                    refine CW.skip (EW.then (?_))
                    refine CW.seq ?_
                    refine CW.region ?_
                    refine LW.value (.free rfl) rfl (fun _ r => R.fieldAddr (k := 0) (r.e rfl) Try.runUnderlying36 rfl Try.sizeOf3 rfl) ?_
                    refine LW.value (.free rfl) rfl (fun _ r => R.load1 (r.e rfl) Try.isAgg3 (hO47.cell (i := 4) rfl rfl)) ?_
                    refine LW.value (.free rfl) rfl (fun _ r => R.eql (r.e rfl) (r.e rfl)) ?_
                    refine LW.nil (EW.then (?_))
                    refine CW.no (kb (dF h56)) ?_
                    refine CW.skip (EW.inB_normal (EW.then (?_)))
                    refine CW.seq ?_
                    refine CW.region ?_
                    refine LW.value (.free rfl) rfl (fun _ r => R.build (v := .agg #[.int .i64 0, .int .i64 0]) (vs := []) trivial (by simp [go_sem])) ?_
                    refine LW.op (.free rfl) (OW.storeall (i := 3) (vs := [.int .i64 0, .int .i64 0]) rfl hO47 rfl rfl rfl rfl Try.sizeOf39 rfl ?_)
                    intro w81 hO82
                    refine LW.value (.free rfl) rfl (fun _ r => R.assign (r.e rfl)) ?_
                    refine LW.nil (EW.then (?_))
                    refine CW.ret ?_
                    refine EW.retct (vs := [.int .i64 0, .int .i64 0]) rfl rfl rfl Try.isAgg39 Try.sizeOf39 (hO82.cells (i := 3) rfl rfl) ?_
                    exact ⟨by simp [ansT, h7, h20, h25, h48, h56, h70, h71, h76, hf36, hx35], hO82.pick [1, 1, 3] rfl⟩ -- .agg #[.int .i64 0, .int .i64 0]; .bool true
              · -- not: d = 3
                refine CW.no (kb (dF h70)) ?_
                refine CW.seq ?_
                refine CW.region ?_
                refine LW.value (.free rfl) rfl (fun _ r => R.eql (r.e rfl) (r.e rfl)) ?_
                refine LW.value (.free rfl) rfl (fun _ r => R.assign (r.e rfl)) ?_
                refine LW.nil (EW.then (?_))
                by_cases h83 : d = 4
                · -- d = 4
                  refine CW.yes (kb (dT h83)) ?_
                  refine CW.seq ?_
                  refine CW.region ?_
                  refine LW.value (.free rfl) rfl (fun _ r => R.fieldAddr (k := 2) (r.e rfl) Try.runUnderlying79 rfl Try.sizeOf3 rfl) ?_
                  refine LW.value (.free rfl) rfl (fun _ r => R.load1 (r.e rfl) Try.isAgg3 (hO47.cell (i := 0) rfl rfl)) ?_
                  refine LW.value (.free rfl) rfl (fun _ r => R.eql (r.e rfl) (r.e rfl)) ?_
                  refine LW.nil (EW.then (?_))
                  by_cases h84 : x34.pins = 7
                  · -- x34.pins = 7
                    refine CW.yes (kb (dT h84)) ?_
                    refine CW.seq ?_
                    refine CW.region ?_
                    refine LW.op (.free rfl) (OW.calls rfl (fun _ r => R.call (vs := [.int .i64 7]) Try.call54 rfl ⟨r.e rfl, trivial⟩) (k_of 7 _ _ (hO47.frame [] rfl)) ?_)
                    rintro _ w85 ⟨rfl, hO86⟩
                    replace hO86 := hO86.unframe0
                    refine LW.op (.free rfl) (OW.storeall (i := 3) (vs := [.int .i64 7, .int .i64 0]) rfl hO86 rfl rfl rfl rfl Try.sizeOf39 rfl ?_)
                    intro w87 hO88
                    refine LW.value (.free rfl) rfl (fun _ r => R.assign (r.e rfl)) ?_
                    refine LW.nil (EW.then (?_))
                    refine CW.ret (EW.inB_ret (EW.then_ret (?_)))
                    refine EW.retct (vs := [.int .i64 7, .int .i64 0]) rfl rfl rfl Try.isAgg39 Try.sizeOf39 (hO88.cells (i := 3) rfl rfl) ?_
                    exact ⟨by simp [ansT, h7, h20, h25, h48, h56, h70, h83, h84, hf36, hx35], hO88.pick [1, 1, 3] rfl⟩ -- .agg #[.int .i64 7, .int .i64 0]; .bool true
                  · -- not: x34.pins = 7
                    refine CW.no (kb (dF h84)) ?_
                    refine CW.skip (EW.inB_normal (EW.then (?_)))
                    refine CW.seq ?_
                    refine CW.region ?_
                    refine LW.value (.free rfl) rfl (fun _ r => R.build (v := .agg #[.int .i64 0, .int .i64 0]) (vs := []) trivial (by simp [go_sem])) ?_
                    refine LW.op (.free rfl) (OW.storeall (i := 3) (vs := [.int .i64 0, .int .i64 0]) rfl hO47 rfl rfl rfl rfl Try.sizeOf39 rfl ?_)
                    intro w89 hO90
                    refine LW.value (.free rfl) rfl (fun _ r => R.assign (r.e rfl)) ?_
                    refine LW.nil (EW.then (?_))
                    refine CW.ret ?_
                    refine EW.retct (vs := [.int .i64 0, .int .i64 0]) rfl rfl rfl Try.isAgg39 Try.sizeOf39 (hO90.cells (i := 3) rfl rfl) ?_
                    exact ⟨by simp [ansT, h7, h20, h25, h48, h56, h70, h83, h84, hf36, hx35], hO90.pick [1, 1, 3] rfl⟩ -- .agg #[.int .i64 0, .int .i64 0]; .bool true
                · -- not: d = 4
                  refine CW.no (kb (dF h83)) ?_
                  refine CW.seq ?_
                  refine CW.region ?_
                  refine LW.value (.free rfl) rfl (fun _ r => R.eql (r.e rfl) (r.e rfl)) ?_
                  refine LW.value (.free rfl) rfl (fun _ r => R.assign (r.e rfl)) ?_
                  refine LW.nil (EW.then (?_))
                  have h91 : d = 5 := by omega
                  refine CW.yes (kb (dT h91)) ?_
                  refine CW.seq ?_
                  refine CW.region ?_
                  refine LW.value (.free rfl) rfl (fun _ r => R.fieldAddr (k := 2) (r.e rfl) Try.runUnderlying79 rfl Try.sizeOf3 rfl) ?_
                  refine LW.value (.free rfl) rfl (fun _ r => R.load1 (r.e rfl) Try.isAgg3 (hO47.cell (i := 0) rfl rfl)) ?_
                  refine LW.value (.free rfl) rfl (fun _ r => R.eql (r.e rfl) (r.e rfl)) ?_
                  refine LW.nil (EW.then (?_))
                  by_cases h92 : x34.pins = 0
                  · -- x34.pins = 0
                    refine CW.yes (kb (dT h92)) ?_
                    refine CW.seq ?_
                    refine CW.region ?_
                    refine LW.op (.free rfl) (OW.calls rfl (fun _ r => R.call (vs := [.int .i64 8]) Try.call54 rfl ⟨r.e rfl, trivial⟩) (k_of 8 _ _ (hO47.frame [] rfl)) ?_)
                    rintro _ w93 ⟨rfl, hO94⟩
                    replace hO94 := hO94.unframe0
                    refine LW.op (.free rfl) (OW.storeall (i := 3) (vs := [.int .i64 8, .int .i64 0]) rfl hO94 rfl rfl rfl rfl Try.sizeOf39 rfl ?_)
                    intro w95 hO96
                    refine LW.value (.free rfl) rfl (fun _ r => R.assign (r.e rfl)) ?_
                    refine LW.nil (EW.then (?_))
                    refine CW.ret (EW.inB_ret (EW.then_ret (?_)))
                    refine EW.retct (vs := [.int .i64 8, .int .i64 0]) rfl rfl rfl Try.isAgg39 Try.sizeOf39 (hO96.cells (i := 3) rfl rfl) ?_
                    exact ⟨by simp [ansT, h7, h20, h25, h48, h56, h70, h83, h91, h92, hf36, hx35], hO96.pick [1, 1, 3] rfl⟩ -- .agg #[.int .i64 8, .int .i64 0]; .bool true
                  · -- not: x34.pins = 0
                    refine CW.no (kb (dF h92)) ?_
                    refine CW.skip (EW.inB_normal (EW.then (?_)))
                    refine CW.seq ?_
                    refine CW.region ?_
                    refine LW.value (.free rfl) rfl (fun _ r => R.build (v := .agg #[.int .i64 0, .int .i64 0]) (vs := []) trivial (by simp [go_sem])) ?_
                    refine LW.op (.free rfl) (OW.storeall (i := 3) (vs := [.int .i64 0, .int .i64 0]) rfl hO47 rfl rfl rfl rfl Try.sizeOf39 rfl ?_)
                    intro w97 hO98
                    refine LW.value (.free rfl) rfl (fun _ r => R.assign (r.e rfl)) ?_
                    refine LW.nil (EW.then (?_))
                    refine CW.ret ?_
                    refine EW.retct (vs := [.int .i64 0, .int .i64 0]) rfl rfl rfl Try.isAgg39 Try.sizeOf39 (hO98.cells (i := 3) rfl rfl) ?_
                    exact ⟨by simp [ansT, h7, h20, h25, h48, h56, h70, h83, h91, h92, hf36, hx35], hO98.pick [1, 1, 3] rfl⟩ -- .agg #[.int .i64 0, .int .i64 0]; .bool true

set_option maxRecDepth 100000 in
set_option maxHeartbeats 400000 in
theorem k_split (h : Int) (F : Seg) (w : World) (hO : Own w [F]) : Calls Try.prog 55 [.int .i64 h].toArray w (Ret fun v w' => v = .tuple #[.int .i64 (splitH h).1, .int .i64 (splitH h).2.1, .bool (splitH h).2.2] ∧ Own w' [F]) := by
  refine enter (n := 30) Try.func55 rfl rfl rfl ?_
  refine CW.seq ?_
  refine CW.region ?_
  refine LW.value (.free rfl) rfl (fun _ r => R.assign (r.e rfl)) ?_
  refine LW.value (.free rfl) rfl (fun _ r => R.assign (r.e rfl)) ?_
  refine LW.value (.free rfl) rfl (fun _ r => R.assign (r.e rfl)) ?_
  refine LW.nil (EW.then (?_))
  refine CW.seq ?_
  refine CW.seq ?_
  refine CW.region ?_
  refine LW.value (.free rfl) rfl (fun _ r => R.assign (r.e rfl)) ?_
  refine LW.nil (EW.then (?_))
  refine CW.block ?_
  refine CW.sub (env' := [(0, .int .i64 h), (5, .int .i64 (0 : Int))]) ⟨rfl, rfl, trivial⟩ ?_
  refine CW.loop (α := Nat) (fun i env_ w_ => env_ = [(0, .int .i64 h), (5, .int .i64 (i : Int))] ∧ Own w_ [F] ∧ (i ≤ 1001) ∧ (∀ j : Nat, j < i → ¬ (1048576 * (j : Int) + 1099511627776 ≤ h ∧ h ≤ 1048576 * (j : Int) + 1099511627776 + 63))) (fun i => 1001 - i) 0 ⟨rfl, hO, by omega, fun j hj => by omega⟩ ?_
  rintro i _ w1 ⟨rfl, hO2, hi, hb⟩
  refine CW.seq ?_
  refine CW.seq ?_
  refine CW.region ?_
  refine LW.value (.free rfl) rfl (fun _ r => R.move (r.e rfl)) ?_
  refine LW.value (.free rfl) rfl (fun _ r => R.leq (r.e rfl) (r.e rfl)) ?_
  refine LW.nil (EW.then (?_))
  by_cases h3 : (i : Int) ≤ 1000
  · -- (i : Int) ≤ 1000
    refine CW.yes (kb (dT h3)) ?_
    refine CW.skip (EW.then (?_))
    refine CW.seq ?_
    refine CW.block ?_
    refine CW.seq ?_
    refine CW.region ?_
    refine LW.value (.free rfl) rfl (fun _ r => R.move (r.e rfl)) ?_
    refine LW.op (.free rfl) (OW.calls rfl (fun _ r => R.call (vs := [.int .i64 0, .int .i64 (i : Int)]) Try.call15 rfl ⟨r.e rfl, r.e rfl, trivial⟩) (k_make 0 (i : Int) _ _ (hO2.frame [] rfl)) ?_)
    rintro _ w4 ⟨rfl, hO5⟩
    replace hO5 := hO5.unframe0
    rw [make0 (by omega)]
    refine LW.value (.free rfl) rfl (fun _ r => R.move (r.e rfl)) ?_
    refine LW.value (.free rfl) rfl (fun _ r => R.extract (r.e rfl) rfl) ?_
    refine LW.value (.free rfl) rfl (fun _ r => R.extract (r.e rfl) rfl) ?_
    refine LW.value (.free rfl) rfl (fun _ r => R.assign (r.e rfl)) ?_
    refine LW.value (.free rfl) rfl (fun _ r => R.assign (r.e rfl)) ?_
    refine LW.nil (EW.then (?_))
    refine CW.seq ?_
    refine CW.region ?_
    refine LW.value (.free rfl) rfl (fun _ r => R.move (r.e rfl)) ?_
    refine LW.value (.free rfl) rfl (fun _ r => R.move (r.e rfl)) ?_
    refine LW.value (.free rfl) rfl (fun _ r => R.geq (r.e rfl) (r.e rfl)) ?_
    refine LW.value (.free rfl) rfl (fun _ r => R.move (r.e rfl)) ?_
    by_cases h6 : 1048576 * (i : Int) + 1099511627776 ≤ h
    · -- 1048576 * (i : Int) + 1099511627776 ≤ h
      refine LW.value (.yes rfl rfl (kb (dT h6))) rfl (fun _ r => R.move (r.e rfl)) ?_
      refine LW.value (.yes rfl rfl (kb (dT h6))) rfl (fun _ r => R.move (r.e rfl)) ?_
      refine LW.value (.yes rfl rfl (kb (dT h6))) rfl (fun _ r => R.as (R.add (r.e rfl) (r.e rfl)) (congrArg (Value.int .i64) (wrap_i64 (by omega) (by omega)))) ?_
      refine LW.value (.yes rfl rfl (kb (dT h6))) rfl (fun _ r => R.leq (r.e rfl) (r.e rfl)) ?_
      refine LW.value (.free rfl) rfl (fun _ r => R.pick_yes (r.e (kb (dT h6))) (r.e rfl)) ?_
      refine LW.nil (EW.then (?_))
      by_cases h7 : h ≤ 1048576 * (i : Int) + 1099511627776 + 63
      · -- h ≤ 1048576 * (i : Int) + 1099511627776 + 63
        refine CW.yes (kb (dT h7)) ?_
        refine CW.seq ?_
        refine CW.region ?_
        refine LW.value (.free rfl) rfl (fun _ r => R.move (r.e rfl)) ?_
        refine LW.value (.free rfl) rfl (fun _ r => R.move (r.e rfl)) ?_
        refine LW.value (.free rfl) rfl (fun _ r => R.as (R.sub (r.e rfl) (r.e rfl)) (congrArg (Value.int .i64) (wrap_i64 (by omega) (by omega)))) ?_
        refine LW.value (.free rfl) rfl (fun _ r => R.move (r.e rfl)) ?_
        refine LW.value (.free rfl) rfl (fun _ r => R.assign (r.e rfl)) ?_
        refine LW.value (.free rfl) rfl (fun _ r => R.assign (r.e rfl)) ?_
        refine LW.value (.free rfl) rfl (fun _ r => R.assign (r.e rfl)) ?_
        refine LW.nil (EW.then (?_))
        refine CW.ret (EW.inB_ret (EW.then_ret (EW.then_ret (EW.inB_ret (EW.then_ret (?_))))))
        refine EW.ret3 rfl rfl rfl rfl ?_
        exact ⟨by rw [split_at (i := i) (by omega) (by omega) (by omega)], hO5.pick [0] rfl⟩
      · -- not: h ≤ 1048576 * (i : Int) + 1099511627776 + 63
        refine CW.no (kb (dF h7)) ?_
        refine CW.skip (EW.inB_normal (EW.then (?_)))
        refine CW.region ?_
        refine LW.value (.free rfl) rfl (fun _ r => R.move (r.e rfl)) ?_
        refine LW.value (.free rfl) rfl (fun _ r => R.as (R.add (r.e rfl) (r.e rfl)) (congrArg (Value.int .i64) (wrap_i64 (by omega) (by omega)))) ?_
        refine LW.value (.free rfl) rfl (fun _ r => R.assign (r.e rfl)) ?_
        refine LW.nil ?_
        exact EW.sub (env' := [(0, .int .i64 h), (5, .int .i64 ((i + 1) : Int))]) ⟨rfl, rfl, trivial⟩ (EW.round (i + 1) ⟨rfl, hO5, by omega, fun j hj => by
            rcases Nat.lt_succ_iff_lt_or_eq.1 hj with hj | rfl
            · exact hb j hj
            · omega⟩ (by omega))
    · -- not: 1048576 * (i : Int) + 1099511627776 ≤ h
      refine LW.off (.no rfl rfl (kb (dF h6))) rfl ?_
      refine LW.off (.no rfl rfl (kb (dF h6))) rfl ?_
      refine LW.off (.no rfl rfl (kb (dF h6))) rfl ?_
      refine LW.off (.no rfl rfl (kb (dF h6))) rfl ?_
      refine LW.value (.free rfl) rfl (fun _ r => R.pick_no (r.e (kb (dF h6))) (r.e rfl)) ?_
      refine LW.nil (EW.then (?_))
      refine CW.no rfl ?_
      refine CW.skip (EW.inB_normal (EW.then (?_)))
      refine CW.region ?_
      refine LW.value (.free rfl) rfl (fun _ r => R.move (r.e rfl)) ?_
      refine LW.value (.free rfl) rfl (fun _ r => R.as (R.add (r.e rfl) (r.e rfl)) (congrArg (Value.int .i64) (wrap_i64 (by omega) (by omega)))) ?_
      refine LW.value (.free rfl) rfl (fun _ r => R.assign (r.e rfl)) ?_
      refine LW.nil ?_
      exact EW.sub (env' := [(0, .int .i64 h), (5, .int .i64 ((i + 1) : Int))]) ⟨rfl, rfl, trivial⟩ (EW.round (i + 1) ⟨rfl, hO5, by omega, fun j hj => by
          rcases Nat.lt_succ_iff_lt_or_eq.1 hj with hj | rfl
          · exact hb j hj
          · omega⟩ (by omega))
  · -- not: (i : Int) ≤ 1000
    refine CW.no (kb (dF h3)) ?_
    refine CW.exit (EW.then_exit (EW.then_exit (EW.inB_same (EW.then (?_)))))
    refine CW.seq ?_
    refine CW.region ?_
    refine LW.value (.free rfl) rfl (fun _ r => R.assign (r.e rfl)) ?_
    refine LW.value (.free rfl) rfl (fun _ r => R.assign (r.e rfl)) ?_
    refine LW.value (.free rfl) rfl (fun _ r => R.assign (r.e rfl)) ?_
    refine LW.nil (EW.then (?_))
    refine CW.ret ?_
    refine EW.ret3 rfl rfl rfl rfl ?_
    exact ⟨by rw [split_no (fun j hj => hb j (by omega))], hO2.pick [0] rfl⟩

set_option maxRecDepth 100000 in
set_option maxHeartbeats 400000 in
theorem k_put (G F : Seg) (aL : Option Addr) (nL cL : Nat) (L : List Thing) (x : Thing) (w : World) (hL : Sl G 3 encT aL nL cL L) (hn : L.length ≤ 1000000) (hO : Own w [G, F]) : Calls Try.prog 32 [.slice aL nL cL, .agg #[.int .i64 x.h, .slice x.a x.b.length x.c, .int .i64 x.pins]].toArray w (Ret fun v w' => ∃ s, Grow 79 3 encT v s (putT x L) ∧ Own w' [s, G, F]) := by
  have hl := hL.hlen
  refine enter (n := 56) Try.func32 rfl rfl rfl ?_
  refine CW.seq ?_
  refine CW.region ?_
  refine LW.op (.free rfl) (OW.box (cs := #[.int .i64 x.h, .slice x.a x.b.length x.c, .int .i64 x.pins]) rfl hO rfl rfl ?_)
  intro b1 w2 hO3
  refine LW.value (.free rfl) rfl (fun _ r => R.assign (r.e rfl)) ?_
  refine LW.nil (EW.then (?_))
  refine CW.seq ?_
  refine CW.region ?_
  refine LW.value (.free rfl) rfl (fun _ r => R.assign (r.e rfl)) ?_
  refine LW.nil (EW.then (?_))
  refine CW.seq ?_
  refine CW.region ?_
  refine LW.value (.free rfl) rfl (fun _ r => R.fieldAddr (k := 1) (r.e rfl) Try.runUnderlying79 rfl Try.sizeOf32 rfl) ?_
  refine LW.value (.free rfl) rfl (fun _ r => R.load1 (r.e rfl) Try.isAgg32 (hO3.cell (i := 0) rfl rfl)) ?_
  refine LW.value (.free rfl) rfl (fun _ r => R.len_slice (r.e rfl) Try.runUnderlying32) ?_
  refine LW.value (.free rfl) rfl (fun _ r => R.eql (r.e rfl) (r.e rfl)) ?_
  refine LW.value (.free rfl) rfl (fun _ r => R.assign (r.e rfl)) ?_
  refine LW.nil (EW.then (?_))
  refine CW.seq ?_
  refine CW.seq ?_
  refine CW.region ?_
  refine LW.value (.free rfl) rfl (fun _ r => R.assign (r.e rfl)) ?_
  refine LW.nil (EW.then (?_))
  refine CW.block ?_
  refine CW.sub (env' := [(0, .slice aL nL cL), (3, .pointer (some ⟨b1, 0, none⟩)), (5, (.slice none 0 0)), (6, .bool (decide ((x.b.length : Int) = 0))), (7, .int .i64 (0 : Int))]) ⟨rfl, rfl, rfl, rfl, rfl, trivial⟩ ?_
  refine CW.loop (α := Nat × Bool × List Thing × Value × Seg) (fun (x_ : Nat × Bool × List Thing × Value × Seg) env_ w_ => ∃ i laid out v s, x_ = (i, laid, out, v, s) ∧ env_ = [(0, .slice aL nL cL), (3, .pointer (some ⟨b1, 0, none⟩)), (5, v), (6, .bool laid), (7, .int .i64 (i : Int))] ∧ Own w_ [s, [(b1, .cells #[.int .i64 x.h, .slice x.a x.b.length x.c, .int .i64 x.pins] 79 (0, 0))], G, F] ∧ (i ≤ L.length) ∧ (putI x L i = (out, laid)) ∧ (Grow 79 3 encT v s out)) (fun (x_ : Nat × Bool × List Thing × Value × Seg) => L.length - x_.1) (0, decide ((x.b.length : Int) = 0), [], .slice none 0 0, []) ⟨0, decide ((x.b.length : Int) = 0), [], .slice none 0 0, [], rfl, rfl, (hO3.pick [0, 0, 0] rfl).nil, Nat.zero_le _, rfl, Grow.start⟩ ?_
  rintro _ _ w4 ⟨i, laid, out, v, s, rfl, rfl, hO5, hi, hp, hg⟩
  have hol := putI_len hp (by omega)
  have hol' : out.length ≤ i + 1 := by cases laid <;> simp at hol <;> omega
  refine CW.seq ?_
  refine CW.seq ?_
  refine CW.region ?_
  refine LW.value (.free rfl) rfl (fun _ r => R.move (r.e rfl)) ?_
  refine LW.value (.free rfl) rfl (fun _ r => R.move (r.e rfl)) ?_
  refine LW.value (.free rfl) rfl (fun _ r => R.len_slice (r.e rfl) Try.runUnderlying31) ?_
  refine LW.value (.free rfl) rfl (fun _ r => R.lss (r.e rfl) (r.e rfl)) ?_
  refine LW.nil (EW.then (?_))
  by_cases h6 : (i : Int) < (nL : Int)
  · -- (i : Int) < (nL : Int)
    refine CW.yes (kb (dT h6)) ?_
    refine CW.skip (EW.then (?_))
    refine CW.seq ?_
    refine CW.block ?_
    refine CW.seq ?_
    refine CW.seq ?_
    refine HP.start (I := fun w' => Own w' [s, [(b1, .cells #[.int .i64 x.h, .slice x.a x.b.length x.c, .int .i64 x.pins] 79 (0, 0))], G, F]) (.take 0 (.take 1 (.take 2 (.take 3 (.take 4 (.take 5 (.take 6 (.take 7 (.take 8 (.take 9 (.take 10 (.take 11 (.done))))))))))))) Try.mixed (by intro c d v a w h; cases d <;> exact h) hO5 (by kernel_rfl) ?_
    intro w8 hO9
    have hI10 := hO9.pick [0, 0, 0, 0] rfl
    refine HP.take rfl (.free rfl) rfl hI10 (fun _ r _ hI => R.move (r.e rfl)) ?_
    refine HP.take rfl (.free rfl) rfl hI10 (fun _ r _ hI => R.not (r.e rfl)) ?_
    refine HP.take rfl (.free rfl) rfl hI10 (fun _ r _ hI => R.move (r.e rfl)) ?_
    rcases Bool.eq_false_or_eq_true laid with h11 | h11
    · -- laid
      refine HP.takeOff rfl (.no rfl rfl (kb (bN h11))) rfl hI10 ?_
      refine HP.takeOff rfl (.no rfl rfl (kb (bN h11))) rfl hI10 ?_
      refine HP.takeOff rfl (.no rfl rfl (kb (bN h11))) rfl hI10 ?_
      refine HP.takeOff rfl (.no rfl rfl (kb (bN h11))) rfl hI10 ?_
      refine HP.takeOff rfl (.no rfl rfl (kb (bN h11))) rfl hI10 ?_
      refine HP.takeOff rfl (.no rfl rfl (kb (bN h11))) rfl hI10 ?_
      refine HP.takeOff rfl (.no rfl rfl (kb (bN h11))) rfl hI10 ?_
      refine HP.takeOff rfl (.no rfl rfl (kb (bN h11))) rfl hI10 ?_
      refine HP.take rfl (.free rfl) rfl hI10 (fun _ r _ hI => R.pick_no (r.e (kb (bN h11))) (r.e rfl)) ?_
      refine HP.done (EW.then (?_))
      refine CW.no rfl ?_
      refine CW.skip (EW.then (?_))
      refine CW.seq ?_
      refine HP.start (I := fun w' => Own w' [s, [(b1, .cells #[.int .i64 x.h, .slice x.a x.b.length x.c, .int .i64 x.pins] 79 (0, 0))], G, F]) (.take 0 (.take 1 (.take 2 (.take 3 (.take 4 (.take 5 (.take 6 (.take 7 (.done))))))))) Try.mixed (by intro c d v a w h; cases d <;> exact h) hO9 (by kernel_rfl) ?_
      intro w13 hO14
      have hI15 := hO14.pick [0, 0, 0, 0] rfl
      refine HP.take rfl (.free rfl) rfl hI15 (fun _ r _ hI => R.move (r.e rfl)) ?_
      refine HP.take rfl (.free rfl) rfl hI15 (fun _ r _ hI => R.move (r.e rfl)) ?_
      obtain ⟨x16, hxx16⟩ : ∃ t, (L)[i]? = some t := ⟨_, List.getElem?_eq_getElem (by omega)⟩
      obtain ⟨blx16, olx16, hax16, hcx16⟩ := hL.at_ _ _ hxx16
      refine HP.take rfl (.free rfl) rfl hI15 (fun _ r _ hI => R.indexAddr_o (k := olx16 + i * 3) (r.e rfl) hax16 (r.e rfl) Try.runUnderlying31 Try.sizeOf79 (by omega) (by omega) (by simp)) ?_
      refine HP.take rfl (.free rfl) rfl hI15 (fun _ r _ hI => R.fieldAddr (k := olx16 + i * 3) (r.e rfl) Try.runUnderlying79 rfl Try.sizeOf3 rfl) ?_
      refine HP.take rfl (.free rfl) rfl hI15 (fun _ r _ hI => R.load1 (r.e rfl) Try.isAgg3 (hI.pc (i := 2) rfl (hcx16 0 _ rfl))) ?_
      refine HP.take rfl (.free rfl) rfl hI15 (fun _ r _ hI => R.fieldAddr (k := 0) (r.e rfl) Try.runUnderlying79 rfl Try.sizeOf3 rfl) ?_
      refine HP.take rfl (.free rfl) rfl hI15 (fun _ r _ hI => R.load1 (r.e rfl) Try.isAgg3 (hI.cell (i := 1) rfl rfl)) ?_
      refine HP.take rfl (.free rfl) rfl hI15 (fun _ r _ hI => R.neq (r.e rfl) (r.e rfl)) ?_
      refine HP.done (EW.then (?_))
      by_cases h17 : x16.h = x.h
      · -- x16.h = x.h
        refine CW.no (kb (bN (dT h17))) ?_
        refine CW.skip (EW.inB_normal (EW.then (?_)))
        refine CW.region ?_
        refine LW.value (.free rfl) rfl (fun _ r => R.move (r.e rfl)) ?_
        refine LW.value (.free rfl) rfl (fun _ r => R.as (R.add (r.e rfl) (r.e rfl)) (congrArg (Value.int .i64) (wrap_i64 (by omega) (by omega)))) ?_
        refine LW.value (.free rfl) rfl (fun _ r => R.assign (r.e rfl)) ?_
        refine LW.nil ?_
        exact EW.sub (env' := [(0, .slice aL nL cL), (3, .pointer (some ⟨b1, 0, none⟩)), (5, v), (6, .bool laid), (7, .int .i64 ((i + 1) : Int))]) ⟨rfl, rfl, rfl, rfl, rfl, trivial⟩ (EW.round (i + 1, laid, out, v, s) ⟨i + 1, laid, out, v, s, rfl, rfl, hO14.pick [0, 0, 0, 0] rfl, by omega, by rw [putI_succ hxx16, hp]; simp [putS, h6, h11, h17] <;> omega, hg⟩ (by dsimp only; omega))
      · -- not: x16.h = x.h
        refine CW.yes (kb (bN (dF h17))) ?_
        refine CW.region ?_
        refine LW.value (.free rfl) rfl (fun _ r => R.move (r.e rfl)) ?_
        refine LW.value (.free rfl) rfl (fun _ r => R.move (r.e rfl)) ?_
        refine LW.value (.free rfl) rfl (fun _ r => R.move (r.e rfl)) ?_
        obtain ⟨blx16_18, olx16_18, hax16_18, hcx16_18⟩ := hL.at_ _ _ hxx16
        refine LW.value (.free rfl) rfl (fun _ r => R.indexAddr_o (k := olx16_18 + i * 3) (r.e rfl) hax16_18 (r.e rfl) Try.runUnderlying31 Try.sizeOf79 (by omega) (by omega) (by simp)) ?_
        refine LW.value (.free rfl) rfl (fun _ r => R.loadn (vs := [.int .i64 x16.h, .slice x16.a x16.b.length x16.c, .int .i64 x16.pins]) (r.e rfl) Try.isAgg79 Try.sizeOf79 rfl (fun j v hj => hO14.pc (i := 2) rfl (hcx16_18 j v hj))) ?_
        refine LW.op (.free rfl) (OW.buildSlice (cs := #[.int .i64 x16.h, .slice x16.a x16.b.length x16.c, .int .i64 x16.pins]) (e := 79) (vs := [(0, .agg #[.int .i64 x16.h, .slice x16.a x16.b.length x16.c, .int .i64 x16.pins])]) rfl hO14 (fun _ r => ⟨⟨r.e rfl, rfl⟩, trivial⟩) (fun _ => by simp [go_sem, Instr.buildSlice, newRow]) ?_)
        intro b19 w20 hO21
        have hO22 := hO21.move [1] rfl
        refine LW.op (.free rfl) (OW.append (xs := out) (ys := [x16]) elem28 rfl hO22 rfl rfl hg (fun _ _ => rfl) (fun _ _ => rfl) rfl (fun _ => src (i := 1) hO22 rfl rfl) (by simp; omega) (by simp; omega) (by decide) ?_)
        intro v23 s24 w25 hO26 hg27
        refine LW.value (.free rfl) rfl (fun _ r => R.assign (r.e rfl)) ?_
        refine LW.nil (EW.inB_normal (EW.then (?_)))
        refine CW.region ?_
        refine LW.value (.free rfl) rfl (fun _ r => R.move (r.e rfl)) ?_
        refine LW.value (.free rfl) rfl (fun _ r => R.as (R.add (r.e rfl) (r.e rfl)) (congrArg (Value.int .i64) (wrap_i64 (by omega) (by omega)))) ?_
        refine LW.value (.free rfl) rfl (fun _ r => R.assign (r.e rfl)) ?_
        refine LW.nil ?_
        exact EW.sub (env' := [(0, .slice aL nL cL), (3, .pointer (some ⟨b1, 0, none⟩)), (5, v23), (6, .bool laid), (7, .int .i64 ((i + 1) : Int))]) ⟨rfl, rfl, rfl, rfl, rfl, trivial⟩ (EW.round (i + 1, laid, (out ++ [x16]), v23, s24) ⟨i + 1, laid, (out ++ [x16]), v23, s24, rfl, rfl, hO26.pick [0, 1, 1, 1] rfl, by omega, by rw [putI_succ hxx16, hp]; simp [putS, h6, h11, h17] <;> omega, hg27⟩ (by dsimp only; omega))
    · -- not: laid
      refine HP.take rfl (.yes rfl rfl (kb (bN h11))) rfl hI10 (fun _ r _ hI => R.move (r.e rfl)) ?_
      refine HP.take rfl (.yes rfl rfl (kb (bN h11))) rfl hI10 (fun _ r _ hI => R.move (r.e rfl)) ?_
      obtain ⟨x28, hxx28⟩ : ∃ t, (L)[i]? = some t := ⟨_, List.getElem?_eq_getElem (by omega)⟩
      obtain ⟨blx28, olx28, hax28, hcx28⟩ := hL.at_ _ _ hxx28
      refine HP.take rfl (.yes rfl rfl (kb (bN h11))) rfl hI10 (fun _ r _ hI => R.indexAddr_o (k := olx28 + i * 3) (r.e rfl) hax28 (r.e rfl) Try.runUnderlying31 Try.sizeOf79 (by omega) (by omega) (by simp)) ?_
      refine HP.take rfl (.yes rfl rfl (kb (bN h11))) rfl hI10 (fun _ r _ hI => R.fieldAddr (k := olx28 + i * 3) (r.e rfl) Try.runUnderlying79 rfl Try.sizeOf3 rfl) ?_
      refine HP.take rfl (.yes rfl rfl (kb (bN h11))) rfl hI10 (fun _ r _ hI => R.load1 (r.e rfl) Try.isAgg3 (hI.pc (i := 2) rfl (hcx28 0 _ rfl))) ?_
      refine HP.take rfl (.yes rfl rfl (kb (bN h11))) rfl hI10 (fun _ r _ hI => R.fieldAddr (k := 0) (r.e rfl) Try.runUnderlying79 rfl Try.sizeOf3 rfl) ?_
      refine HP.take rfl (.yes rfl rfl (kb (bN h11))) rfl hI10 (fun _ r _ hI => R.load1 (r.e rfl) Try.isAgg3 (hI.cell (i := 1) rfl rfl)) ?_
      refine HP.take rfl (.yes rfl rfl (kb (bN h11))) rfl hI10 (fun _ r _ hI => R.geq (r.e rfl) (r.e rfl)) ?_
      refine HP.take rfl (.free rfl) rfl hI10 (fun _ r _ hI => R.pick_yes (r.e (kb (bN h11))) (r.e rfl)) ?_
      refine HP.done (EW.then (?_))
      by_cases h29 : x.h ≤ x28.h
      · -- x.h ≤ x28.h
        refine CW.yes (kb (dT h29)) ?_
        refine CW.seq ?_
        refine CW.region ?_
        refine LW.value (.free rfl) rfl (fun _ r => R.move (r.e rfl)) ?_
        refine LW.value (.free rfl) rfl (fun _ r => R.loadn (vs := [.int .i64 x.h, .slice x.a x.b.length x.c, .int .i64 x.pins]) (r.e rfl) Try.isAgg79 Try.sizeOf79 rfl (hO9.cells (i := 1) rfl rfl)) ?_
        refine LW.op (.free rfl) (OW.buildSlice (cs := #[.int .i64 x.h, .slice x.a x.b.length x.c, .int .i64 x.pins]) (e := 79) (vs := [(0, .agg #[.int .i64 x.h, .slice x.a x.b.length x.c, .int .i64 x.pins])]) rfl hO9 (fun _ r => ⟨⟨r.e rfl, rfl⟩, trivial⟩) (fun _ => by simp [go_sem, Instr.buildSlice, newRow]) ?_)
        intro b30 w31 hO32
        have hO33 := hO32.move [1] rfl
        refine LW.op (.free rfl) (OW.append (xs := out) (ys := [x]) elem28 rfl hO33 rfl rfl hg (fun _ _ => rfl) (fun _ _ => rfl) rfl (fun _ => src (i := 1) hO33 rfl rfl) (by simp; omega) (by simp; omega) (by decide) ?_)
        intro v34 s35 w36 hO37 hg38
        refine LW.value (.free rfl) rfl (fun _ r => R.assign (r.e rfl)) ?_
        refine LW.nil (EW.then (?_))
        refine CW.region ?_
        refine LW.value (.free rfl) rfl (fun _ r => R.assign (r.e rfl)) ?_
        refine LW.nil (EW.then (?_))
        refine CW.seq ?_
        refine HP.start (I := fun w' => Own w' [s35, [(b30, .cells #[.int .i64 x.h, .slice x.a x.b.length x.c, .int .i64 x.pins] 79 (0, 0))], [(b1, .cells #[.int .i64 x.h, .slice x.a x.b.length x.c, .int .i64 x.pins] 79 (0, 0))], G, F]) (.take 0 (.take 1 (.take 2 (.take 3 (.take 4 (.take 5 (.take 6 (.take 7 (.done))))))))) Try.mixed (by intro c d v a w h; cases d <;> exact h) hO37 (by kernel_rfl) ?_
        intro w40 hO41
        have hI42 := hO41.pick [0, 0, 0, 0, 0] rfl
        refine HP.take rfl (.free rfl) rfl hI42 (fun _ r _ hI => R.move (r.e rfl)) ?_
        refine HP.take rfl (.free rfl) rfl hI42 (fun _ r _ hI => R.move (r.e rfl)) ?_
        obtain ⟨blx28_43, olx28_43, hax28_43, hcx28_43⟩ := hL.at_ _ _ hxx28
        refine HP.take rfl (.free rfl) rfl hI42 (fun _ r _ hI => R.indexAddr_o (k := olx28_43 + i * 3) (r.e rfl) hax28_43 (r.e rfl) Try.runUnderlying31 Try.sizeOf79 (by omega) (by omega) (by simp)) ?_
        refine HP.take rfl (.free rfl) rfl hI42 (fun _ r _ hI => R.fieldAddr (k := olx28_43 + i * 3) (r.e rfl) Try.runUnderlying79 rfl Try.sizeOf3 rfl) ?_
        refine HP.take rfl (.free rfl) rfl hI42 (fun _ r _ hI => R.load1 (r.e rfl) Try.isAgg3 (hI.pc (i := 3) rfl (hcx28_43 0 _ rfl))) ?_
        refine HP.take rfl (.free rfl) rfl hI42 (fun _ r _ hI => R.fieldAddr (k := 0) (r.e rfl) Try.runUnderlying79 rfl Try.sizeOf3 rfl) ?_
        refine HP.take rfl (.free rfl) rfl hI42 (fun _ r _ hI => R.load1 (r.e rfl) Try.isAgg3 (hI.cell (i := 2) rfl rfl)) ?_
        refine HP.take rfl (.free rfl) rfl hI42 (fun _ r _ hI => R.neq (r.e rfl) (r.e rfl)) ?_
        refine HP.done (EW.then (?_))
        by_cases h44 : x28.h = x.h
        · -- x28.h = x.h
          refine CW.no (kb (bN (dT h44))) ?_
          refine CW.skip (EW.inB_normal (EW.then (?_)))
          refine CW.region ?_
          refine LW.value (.free rfl) rfl (fun _ r => R.move (r.e rfl)) ?_
          refine LW.value (.free rfl) rfl (fun _ r => R.as (R.add (r.e rfl) (r.e rfl)) (congrArg (Value.int .i64) (wrap_i64 (by omega) (by omega)))) ?_
          refine LW.value (.free rfl) rfl (fun _ r => R.assign (r.e rfl)) ?_
          refine LW.nil ?_
          exact EW.sub (env' := [(0, .slice aL nL cL), (3, .pointer (some ⟨b1, 0, none⟩)), (5, v34), (6, .bool true), (7, .int .i64 ((i + 1) : Int))]) ⟨rfl, rfl, rfl, rfl, rfl, trivial⟩ (EW.round (i + 1, true, (out ++ [x]), v34, s35) ⟨i + 1, true, (out ++ [x]), v34, s35, rfl, rfl, hO41.pick [0, 1, 1, 1] rfl, by omega, by rw [putI_succ hxx28, hp]; simp [putS, h6, h11, h29, h44] <;> omega, hg38⟩ (by dsimp only; omega))
        · -- not: x28.h = x.h
          refine CW.yes (kb (bN (dF h44))) ?_
          refine CW.region ?_
          refine LW.value (.free rfl) rfl (fun _ r => R.move (r.e rfl)) ?_
          refine LW.value (.free rfl) rfl (fun _ r => R.move (r.e rfl)) ?_
          refine LW.value (.free rfl) rfl (fun _ r => R.move (r.e rfl)) ?_
          obtain ⟨blx28_45, olx28_45, hax28_45, hcx28_45⟩ := hL.at_ _ _ hxx28
          refine LW.value (.free rfl) rfl (fun _ r => R.indexAddr_o (k := olx28_45 + i * 3) (r.e rfl) hax28_45 (r.e rfl) Try.runUnderlying31 Try.sizeOf79 (by omega) (by omega) (by simp)) ?_
          refine LW.value (.free rfl) rfl (fun _ r => R.loadn (vs := [.int .i64 x28.h, .slice x28.a x28.b.length x28.c, .int .i64 x28.pins]) (r.e rfl) Try.isAgg79 Try.sizeOf79 rfl (fun j v hj => hO41.pc (i := 3) rfl (hcx28_45 j v hj))) ?_
          refine LW.op (.free rfl) (OW.buildSlice (cs := #[.int .i64 x28.h, .slice x28.a x28.b.length x28.c, .int .i64 x28.pins]) (e := 79) (vs := [(0, .agg #[.int .i64 x28.h, .slice x28.a x28.b.length x28.c, .int .i64 x28.pins])]) rfl hO41 (fun _ r => ⟨⟨r.e rfl, rfl⟩, trivial⟩) (fun _ => by simp [go_sem, Instr.buildSlice, newRow]) ?_)
          intro b46 w47 hO48
          have hO49 := hO48.move [1] rfl
          refine LW.op (.free rfl) (OW.append (xs := (out ++ [x])) (ys := [x28]) elem28 rfl hO49 rfl rfl hg38 (fun _ _ => rfl) (fun _ _ => rfl) rfl (fun _ => src (i := 1) hO49 rfl rfl) (by simp; omega) (by simp; omega) (by decide) ?_)
          intro v50 s51 w52 hO53 hg54
          refine LW.value (.free rfl) rfl (fun _ r => R.assign (r.e rfl)) ?_
          refine LW.nil (EW.inB_normal (EW.then (?_)))
          refine CW.region ?_
          refine LW.value (.free rfl) rfl (fun _ r => R.move (r.e rfl)) ?_
          refine LW.value (.free rfl) rfl (fun _ r => R.as (R.add (r.e rfl) (r.e rfl)) (congrArg (Value.int .i64) (wrap_i64 (by omega) (by omega)))) ?_
          refine LW.value (.free rfl) rfl (fun _ r => R.assign (r.e rfl)) ?_
          refine LW.nil ?_
          exact EW.sub (env' := [(0, .slice aL nL cL), (3, .pointer (some ⟨b1, 0, none⟩)), (5, v50), (6, .bool true), (7, .int .i64 ((i + 1) : Int))]) ⟨rfl, rfl, rfl, rfl, rfl, trivial⟩ (EW.round (i + 1, true, ((out ++ [x]) ++ [x28]), v50, s51) ⟨i + 1, true, ((out ++ [x]) ++ [x28]), v50, s51, rfl, rfl, hO53.pick [0, 2, 2, 2] rfl, by omega, by rw [putI_succ hxx28, hp]; simp [putS, h6, h11, h29, h44] <;> omega, hg54⟩ (by dsimp only; omega))
      · -- not: x.h ≤ x28.h
        refine CW.no (kb (dF h29)) ?_
        refine CW.skip (EW.then (?_))
        refine CW.seq ?_
        refine HP.start (I := fun w' => Own w' [s, [(b1, .cells #[.int .i64 x.h, .slice x.a x.b.length x.c, .int .i64 x.pins] 79 (0, 0))], G, F]) (.take 0 (.take 1 (.take 2 (.take 3 (.take 4 (.take 5 (.take 6 (.take 7 (.done))))))))) Try.mixed (by intro c d v a w h; cases d <;> exact h) hO9 (by kernel_rfl) ?_
        intro w56 hO57
        have hI58 := hO57.pick [0, 0, 0, 0] rfl
        refine HP.take rfl (.free rfl) rfl hI58 (fun _ r _ hI => R.move (r.e rfl)) ?_
        refine HP.take rfl (.free rfl) rfl hI58 (fun _ r _ hI => R.move (r.e rfl)) ?_
        obtain ⟨blx28_59, olx28_59, hax28_59, hcx28_59⟩ := hL.at_ _ _ hxx28
        refine HP.take rfl (.free rfl) rfl hI58 (fun _ r _ hI => R.indexAddr_o (k := olx28_59 + i * 3) (r.e rfl) hax28_59 (r.e rfl) Try.runUnderlying31 Try.sizeOf79 (by omega) (by omega) (by simp)) ?_
        refine HP.take rfl (.free rfl) rfl hI58 (fun _ r _ hI => R.fieldAddr (k := olx28_59 + i * 3) (r.e rfl) Try.runUnderlying79 rfl Try.sizeOf3 rfl) ?_
        refine HP.take rfl (.free rfl) rfl hI58 (fun _ r _ hI => R.load1 (r.e rfl) Try.isAgg3 (hI.pc (i := 2) rfl (hcx28_59 0 _ rfl))) ?_
        refine HP.take rfl (.free rfl) rfl hI58 (fun _ r _ hI => R.fieldAddr (k := 0) (r.e rfl) Try.runUnderlying79 rfl Try.sizeOf3 rfl) ?_
        refine HP.take rfl (.free rfl) rfl hI58 (fun _ r _ hI => R.load1 (r.e rfl) Try.isAgg3 (hI.cell (i := 1) rfl rfl)) ?_
        refine HP.take rfl (.free rfl) rfl hI58 (fun _ r _ hI => R.neq (r.e rfl) (r.e rfl)) ?_
        refine HP.done (EW.then (?_))
        by_cases h60 : x28.h = x.h
        · -- x28.h = x.h
          refine CW.no (kb (bN (dT h60))) ?_
          refine CW.skip (EW.inB_normal (EW.then (?_)))
          refine CW.region ?_
          refine LW.value (.free rfl) rfl (fun _ r => R.move (r.e rfl)) ?_
          refine LW.value (.free rfl) rfl (fun _ r => R.as (R.add (r.e rfl) (r.e rfl)) (congrArg (Value.int .i64) (wrap_i64 (by omega) (by omega)))) ?_
          refine LW.value (.free rfl) rfl (fun _ r => R.assign (r.e rfl)) ?_
          refine LW.nil ?_
          exact EW.sub (env' := [(0, .slice aL nL cL), (3, .pointer (some ⟨b1, 0, none⟩)), (5, v), (6, .bool laid), (7, .int .i64 ((i + 1) : Int))]) ⟨rfl, rfl, rfl, rfl, rfl, trivial⟩ (EW.round (i + 1, laid, out, v, s) ⟨i + 1, laid, out, v, s, rfl, rfl, hO57.pick [0, 0, 0, 0] rfl, by omega, by rw [putI_succ hxx28, hp]; simp [putS, h6, h11, h29, h60] <;> omega, hg⟩ (by dsimp only; omega))
        · -- not: x28.h = x.h
          refine CW.yes (kb (bN (dF h60))) ?_
          refine CW.region ?_
          refine LW.value (.free rfl) rfl (fun _ r => R.move (r.e rfl)) ?_
          refine LW.value (.free rfl) rfl (fun _ r => R.move (r.e rfl)) ?_
          refine LW.value (.free rfl) rfl (fun _ r => R.move (r.e rfl)) ?_
          obtain ⟨blx28_61, olx28_61, hax28_61, hcx28_61⟩ := hL.at_ _ _ hxx28
          refine LW.value (.free rfl) rfl (fun _ r => R.indexAddr_o (k := olx28_61 + i * 3) (r.e rfl) hax28_61 (r.e rfl) Try.runUnderlying31 Try.sizeOf79 (by omega) (by omega) (by simp)) ?_
          refine LW.value (.free rfl) rfl (fun _ r => R.loadn (vs := [.int .i64 x28.h, .slice x28.a x28.b.length x28.c, .int .i64 x28.pins]) (r.e rfl) Try.isAgg79 Try.sizeOf79 rfl (fun j v hj => hO57.pc (i := 2) rfl (hcx28_61 j v hj))) ?_
          refine LW.op (.free rfl) (OW.buildSlice (cs := #[.int .i64 x28.h, .slice x28.a x28.b.length x28.c, .int .i64 x28.pins]) (e := 79) (vs := [(0, .agg #[.int .i64 x28.h, .slice x28.a x28.b.length x28.c, .int .i64 x28.pins])]) rfl hO57 (fun _ r => ⟨⟨r.e rfl, rfl⟩, trivial⟩) (fun _ => by simp [go_sem, Instr.buildSlice, newRow]) ?_)
          intro b62 w63 hO64
          have hO65 := hO64.move [1] rfl
          refine LW.op (.free rfl) (OW.append (xs := out) (ys := [x28]) elem28 rfl hO65 rfl rfl hg (fun _ _ => rfl) (fun _ _ => rfl) rfl (fun _ => src (i := 1) hO65 rfl rfl) (by simp; omega) (by simp; omega) (by decide) ?_)
          intro v66 s67 w68 hO69 hg70
          refine LW.value (.free rfl) rfl (fun _ r => R.assign (r.e rfl)) ?_
          refine LW.nil (EW.inB_normal (EW.then (?_)))
          refine CW.region ?_
          refine LW.value (.free rfl) rfl (fun _ r => R.move (r.e rfl)) ?_
          refine LW.value (.free rfl) rfl (fun _ r => R.as (R.add (r.e rfl) (r.e rfl)) (congrArg (Value.int .i64) (wrap_i64 (by omega) (by omega)))) ?_
          refine LW.value (.free rfl) rfl (fun _ r => R.assign (r.e rfl)) ?_
          refine LW.nil ?_
          exact EW.sub (env' := [(0, .slice aL nL cL), (3, .pointer (some ⟨b1, 0, none⟩)), (5, v66), (6, .bool laid), (7, .int .i64 ((i + 1) : Int))]) ⟨rfl, rfl, rfl, rfl, rfl, trivial⟩ (EW.round (i + 1, laid, (out ++ [x28]), v66, s67) ⟨i + 1, laid, (out ++ [x28]), v66, s67, rfl, rfl, hO69.pick [0, 1, 1, 1] rfl, by omega, by rw [putI_succ hxx28, hp]; simp [putS, h6, h11, h29, h60] <;> omega, hg70⟩ (by dsimp only; omega))
  · -- not: (i : Int) < (nL : Int)
    refine CW.no (kb (dF h6)) ?_
    refine CW.exit (EW.then_exit (EW.then_exit (EW.inB_same (EW.then (?_)))))
    refine CW.seq ?_
    refine CW.seq ?_
    refine CW.region ?_
    refine LW.value (.free rfl) rfl (fun _ r => R.move (r.e rfl)) ?_
    refine LW.value (.free rfl) rfl (fun _ r => R.not (r.e rfl)) ?_
    refine LW.nil (EW.then (?_))
    rcases Bool.eq_false_or_eq_true laid with h71 | h71
    · -- laid
      refine CW.no (kb (bN h71)) ?_
      refine CW.skip (EW.then (?_))
      refine CW.seq ?_
      refine CW.region ?_
      refine LW.value (.free rfl) rfl (fun _ r => R.move (r.e rfl)) ?_
      refine LW.value (.free rfl) rfl (fun _ r => R.assign (r.e rfl)) ?_
      refine LW.nil (EW.then (?_))
      refine CW.ret ?_
      refine EW.ret1 rfl rfl ?_
      have he : i = L.length := by omega
      subst he
      exact ⟨s, by simpa [putT, hp, h6, h71] using hg, hO5.pick [0, 1, 1] rfl⟩
    · -- not: laid
      refine CW.yes (kb (bN h71)) ?_
      refine CW.region ?_
      refine LW.value (.free rfl) rfl (fun _ r => R.move (r.e rfl)) ?_
      refine LW.value (.free rfl) rfl (fun _ r => R.loadn (vs := [.int .i64 x.h, .slice x.a x.b.length x.c, .int .i64 x.pins]) (r.e rfl) Try.isAgg79 Try.sizeOf79 rfl (hO5.cells (i := 1) rfl rfl)) ?_
      refine LW.op (.free rfl) (OW.buildSlice (cs := #[.int .i64 x.h, .slice x.a x.b.length x.c, .int .i64 x.pins]) (e := 79) (vs := [(0, .agg #[.int .i64 x.h, .slice x.a x.b.length x.c, .int .i64 x.pins])]) rfl hO5 (fun _ r => ⟨⟨r.e rfl, rfl⟩, trivial⟩) (fun _ => by simp [go_sem, Instr.buildSlice, newRow]) ?_)
      intro b72 w73 hO74
      have hO75 := hO74.move [1] rfl
      refine LW.op (.free rfl) (OW.append (xs := out) (ys := [x]) elem28 rfl hO75 rfl rfl hg (fun _ _ => rfl) (fun _ _ => rfl) rfl (fun _ => src (i := 1) hO75 rfl rfl) (by simp; omega) (by simp; omega) (by decide) ?_)
      intro v76 s77 w78 hO79 hg80
      refine LW.value (.free rfl) rfl (fun _ r => R.assign (r.e rfl)) ?_
      refine LW.nil (EW.then (?_))
      refine CW.seq ?_
      refine CW.region ?_
      refine LW.value (.free rfl) rfl (fun _ r => R.move (r.e rfl)) ?_
      refine LW.value (.free rfl) rfl (fun _ r => R.assign (r.e rfl)) ?_
      refine LW.nil (EW.then (?_))
      refine CW.ret ?_
      refine EW.ret1 rfl rfl ?_
      have he : i = L.length := by omega
      subst he
      exact ⟨s77, by simpa [putT, hp, h6, h71] using hg80, hO79.pick [0, 2, 2] rfl⟩

set_option maxRecDepth 100000 in
set_option maxHeartbeats 400000 in
theorem k_tell (k : Nat) (G F : Seg) (aL aT : Option Addr) (nL cL nT cT : Nat) (L : List Thing) (T : List Int) (h : Int) (w : World) (hT : Sl G 1 encI aT nT cT T) (hn : T.length ≤ 1000000) (hO : Own w [[(k, .cells #[.slice aL nL cL, .slice aT nT cT] 34 (0, 0))], G, F]) : Calls Try.prog 31 [.pointer (some ⟨k, 0, none⟩), .int .i64 h].toArray w (Ret fun v w' => (v = .bool false ∧ ¬ (isHandle h = true ∧ h ∉ T) ∧ Own w' [[(k, .cells #[.slice aL nL cL, .slice aT nT cT] 34 (0, 0))], G, F]) ∨ (v = .bool true ∧ isHandle h = true ∧ h ∉ T ∧ ∃ a n c s, Sl s 1 encI a n c (tellT h T) ∧ Own w' [[(k, .cells #[.slice aL nL cL, .slice a n c] 34 (0, 0))], s ++ G, F])) := by
  have hl := hT.hlen
  refine enter (n := 74) Try.func31 rfl rfl rfl ?_
  refine CW.seq ?_
  refine CW.region ?_
  refine LW.value (.free rfl) rfl (fun _ r => R.assign (r.e rfl)) ?_
  refine LW.nil (EW.then (?_))
  refine CW.seq ?_
  refine CW.region ?_
  refine LW.value (.free rfl) rfl (fun _ r => R.move (r.e rfl)) ?_
  refine LW.op (.free rfl) (OW.calls rfl (fun _ r => R.call (vs := [.int .i64 h]) Try.call55 rfl ⟨r.e rfl, trivial⟩) (k_split h _ _ (hO.frame [] rfl)) ?_)
  rintro _ w1 ⟨rfl, hO2⟩
  replace hO2 := hO2.unframe0
  refine LW.value (.free rfl) rfl (fun _ r => R.move (r.e rfl)) ?_
  refine LW.value (.free rfl) rfl (fun _ r => R.extract (r.e rfl) rfl) ?_
  refine LW.value (.free rfl) rfl (fun _ r => R.extract (r.e rfl) rfl) ?_
  refine LW.value (.free rfl) rfl (fun _ r => R.extract (r.e rfl) rfl) ?_
  refine LW.value (.free rfl) rfl (fun _ r => R.assign (r.e rfl)) ?_
  refine LW.value (.free rfl) rfl (fun _ r => R.assign (r.e rfl)) ?_
  refine LW.value (.free rfl) rfl (fun _ r => R.assign (r.e rfl)) ?_
  refine LW.nil (EW.then (?_))
  refine CW.seq ?_
  refine CW.region ?_
  refine LW.value (.free rfl) rfl (fun _ r => R.assign (r.e rfl)) ?_
  refine LW.nil (EW.then (?_))
  refine CW.seq ?_
  refine CW.region ?_
  refine LW.value (.free rfl) rfl (fun _ r => R.assign (r.e rfl)) ?_
  refine LW.nil (EW.then (?_))
  refine CW.seq ?_
  refine CW.seq ?_
  refine CW.region ?_
  refine LW.value (.free rfl) rfl (fun _ r => R.assign (r.e rfl)) ?_
  refine LW.nil (EW.then (?_))
  refine CW.block ?_
  refine CW.sub (env' := [(0, .pointer (some ⟨k, 0, none⟩)), (1, .int .i64 h), (7, .bool ((splitH h).2.2)), (8, (.slice none 0 0)), (9, .bool false), (10, .int .i64 (0 : Int))]) ⟨rfl, rfl, rfl, rfl, rfl, rfl, trivial⟩ ?_
  refine CW.loop (α := Nat × Bool × List Int × Value × Seg) (fun (x_ : Nat × Bool × List Int × Value × Seg) env_ w_ => ∃ i laid out v s, x_ = (i, laid, out, v, s) ∧ env_ = [(0, .pointer (some ⟨k, 0, none⟩)), (1, .int .i64 h), (7, .bool ((splitH h).2.2)), (8, v), (9, .bool laid), (10, .int .i64 (i : Int))] ∧ Own w_ [s, [(k, .cells #[.slice aL nL cL, .slice aT nT cT] 34 (0, 0))], G, F] ∧ (i ≤ T.length) ∧ (tellI h T i = (out, laid)) ∧ (∀ j u, j < i → T[j]? = some u → u ≠ h) ∧ (Grow 3 1 encI v s out)) (fun (x_ : Nat × Bool × List Int × Value × Seg) => T.length - x_.1) (0, false, [], .slice none 0 0, []) ⟨0, false, [], .slice none 0 0, [], rfl, rfl, (hO2.pick [0, 0, 0] rfl).nil, Nat.zero_le _, rfl, fun j u hj => by omega, Grow.start⟩ ?_
  rintro _ _ w3 ⟨i, laid, out, v, s, rfl, rfl, hO4, hi, hp, hb, hg⟩
  have hol := tellI_len hp (by omega)
  have hol' : out.length ≤ i + 1 := by cases laid <;> simp at hol <;> omega
  refine CW.seq ?_
  refine CW.seq ?_
  refine CW.region ?_
  refine LW.value (.free rfl) rfl (fun _ r => R.move (r.e rfl)) ?_
  refine LW.value (.free rfl) rfl (fun _ r => R.move (r.e rfl)) ?_
  refine LW.value (.free rfl) rfl (fun _ r => R.nilCheck (r.e rfl)) ?_
  refine LW.value (.free rfl) rfl (fun _ r => R.fieldAddr (k := 1) (r.e rfl) Try.runUnderlying34 rfl Try.sizeOf32 rfl) ?_
  refine LW.value (.free rfl) rfl (fun _ r => R.load1 (r.e rfl) Try.isAgg32 (hO4.cell (i := 1) rfl rfl)) ?_
  refine LW.value (.free rfl) rfl (fun _ r => R.len_slice (r.e rfl) Try.runUnderlying32) ?_
  refine LW.value (.free rfl) rfl (fun _ r => R.lss (r.e rfl) (r.e rfl)) ?_
  refine LW.nil (EW.then (?_))
  by_cases h5 : (i : Int) < (nT : Int)
  · -- (i : Int) < (nT : Int)
    refine CW.yes (kb (dT h5)) ?_
    refine CW.skip (EW.then (?_))
    refine CW.seq ?_
    refine CW.block ?_
    refine CW.seq ?_
    refine CW.seq ?_
    refine CW.region ?_
    refine LW.value (.free rfl) rfl (fun _ r => R.move (r.e rfl)) ?_
    refine LW.value (.free rfl) rfl (fun _ r => R.nilCheck (r.e rfl)) ?_
    refine LW.value (.free rfl) rfl (fun _ r => R.fieldAddr (k := 1) (r.e rfl) Try.runUnderlying34 rfl Try.sizeOf32 rfl) ?_
    refine LW.value (.free rfl) rfl (fun _ r => R.load1 (r.e rfl) Try.isAgg32 (hO4.cell (i := 1) rfl rfl)) ?_
    refine LW.value (.free rfl) rfl (fun _ r => R.move (r.e rfl)) ?_
    obtain ⟨x6, hxx6⟩ : ∃ t, (T)[i]? = some t := ⟨_, List.getElem?_eq_getElem (by omega)⟩
    obtain ⟨blx6, olx6, hax6, hcx6⟩ := hT.at_ _ _ hxx6
    refine LW.value (.free rfl) rfl (fun _ r => R.indexAddr_o (k := olx6 + i * 1) (r.e rfl) hax6 (r.e rfl) Try.runUnderlying32 Try.sizeOf3 (by omega) (by omega) (by simp)) ?_
    refine LW.value (.free rfl) rfl (fun _ r => R.load1 (r.e rfl) Try.isAgg3 (hO4.pc (i := 2) rfl (hcx6 0 _ rfl))) ?_
    refine LW.value (.free rfl) rfl (fun _ r => R.move (r.e rfl)) ?_
    refine LW.value (.free rfl) rfl (fun _ r => R.eql (r.e rfl) (r.e rfl)) ?_
    refine LW.nil (EW.then (?_))
    by_cases h7 : x6 = h
    · -- x6 = h
      refine CW.yes (kb (dT h7)) ?_
      refine CW.seq ?_
      refine CW.region ?_
      refine LW.value (.free rfl) rfl (fun _ r => R.assign (r.e rfl)) ?_
      refine LW.nil (EW.then (?_))
      refine CW.ret (EW.then_ret (EW.inB_ret (EW.then_ret (EW.then_ret (EW.inB_ret (EW.then_ret (?_)))))))
      refine EW.ret1 rfl rfl ?_
      exact .inl ⟨rfl, fun hh => hh.2 (h7 ▸ List.mem_of_getElem? hxx6), hO4.pick [1, 1, 1] rfl⟩
    · -- not: x6 = h
      refine CW.no (kb (dF h7)) ?_
      refine CW.skip (EW.then (?_))
      refine CW.seq ?_
      refine CW.seq ?_
      refine CW.region ?_
      refine LW.value (.free rfl) rfl (fun _ r => R.move (r.e rfl)) ?_
      refine LW.value (.free rfl) rfl (fun _ r => R.not (r.e rfl)) ?_
      refine LW.value (.free rfl) rfl (fun _ r => R.move (r.e rfl)) ?_
      rcases Bool.eq_false_or_eq_true laid with h8 | h8
      · -- laid
        refine LW.off (.no rfl rfl (kb (bN h8))) rfl ?_
        refine LW.off (.no rfl rfl (kb (bN h8))) rfl ?_
        refine LW.off (.no rfl rfl (kb (bN h8))) rfl ?_
        refine LW.off (.no rfl rfl (kb (bN h8))) rfl ?_
        refine LW.off (.no rfl rfl (kb (bN h8))) rfl ?_
        refine LW.off (.no rfl rfl (kb (bN h8))) rfl ?_
        refine LW.off (.no rfl rfl (kb (bN h8))) rfl ?_
        refine LW.off (.no rfl rfl (kb (bN h8))) rfl ?_
        refine LW.off (.no rfl rfl (kb (bN h8))) rfl ?_
        refine LW.value (.free rfl) rfl (fun _ r => R.pick_no (r.e (kb (bN h8))) (r.e rfl)) ?_
        refine LW.nil (EW.then (?_))
        refine CW.no rfl ?_
        refine CW.skip (EW.then (?_))
        refine CW.region ?_
        refine LW.value (.free rfl) rfl (fun _ r => R.move (r.e rfl)) ?_
        refine LW.value (.free rfl) rfl (fun _ r => R.move (r.e rfl)) ?_
        refine LW.value (.free rfl) rfl (fun _ r => R.nilCheck (r.e rfl)) ?_
        refine LW.value (.free rfl) rfl (fun _ r => R.fieldAddr (k := 1) (r.e rfl) Try.runUnderlying34 rfl Try.sizeOf32 rfl) ?_
        refine LW.value (.free rfl) rfl (fun _ r => R.load1 (r.e rfl) Try.isAgg32 (hO4.cell (i := 1) rfl rfl)) ?_
        refine LW.value (.free rfl) rfl (fun _ r => R.move (r.e rfl)) ?_
        obtain ⟨blx6_9, olx6_9, hax6_9, hcx6_9⟩ := hT.at_ _ _ hxx6
        refine LW.value (.free rfl) rfl (fun _ r => R.indexAddr_o (k := olx6_9 + i * 1) (r.e rfl) hax6_9 (r.e rfl) Try.runUnderlying32 Try.sizeOf3 (by omega) (by omega) (by simp)) ?_
        refine LW.value (.free rfl) rfl (fun _ r => R.load1 (r.e rfl) Try.isAgg3 (hO4.pc (i := 2) rfl (hcx6_9 0 _ rfl))) ?_
        refine LW.op (.free rfl) (OW.buildSlice (cs := #[.int .i64 x6]) (e := 3) (vs := [(0, .int .i64 x6)]) rfl hO4 (fun _ r => ⟨⟨r.e rfl, rfl⟩, trivial⟩) (fun _ => by simp [go_sem, Instr.buildSlice, newRow]) ?_)
        intro b10 w11 hO12
        have hO13 := hO12.move [1] rfl
        refine LW.op (.free rfl) (OW.append (xs := out) (ys := [x6]) elem29 rfl hO13 rfl rfl hg (fun _ _ => rfl) (fun _ _ => rfl) rfl (fun _ => src (i := 1) hO13 rfl rfl) (by simp; omega) (by simp; omega) (by decide) ?_)
        intro v14 s15 w16 hO17 hg18
        refine LW.value (.free rfl) rfl (fun _ r => R.assign (r.e rfl)) ?_
        refine LW.nil (EW.inB_normal (EW.then (?_)))
        refine CW.region ?_
        refine LW.value (.free rfl) rfl (fun _ r => R.move (r.e rfl)) ?_
        refine LW.value (.free rfl) rfl (fun _ r => R.as (R.add (r.e rfl) (r.e rfl)) (congrArg (Value.int .i64) (wrap_i64 (by omega) (by omega)))) ?_
        refine LW.value (.free rfl) rfl (fun _ r => R.assign (r.e rfl)) ?_
        refine LW.nil ?_
        exact EW.sub (env' := [(0, .pointer (some ⟨k, 0, none⟩)), (1, .int .i64 h), (7, .bool ((splitH h).2.2)), (8, v14), (9, .bool laid), (10, .int .i64 ((i + 1) : Int))]) ⟨rfl, rfl, rfl, rfl, rfl, rfl, trivial⟩ (EW.round (i + 1, laid, (out ++ [x6]), v14, s15) ⟨i + 1, laid, (out ++ [x6]), v14, s15, rfl, rfl, hO17.pick [0, 1, 1, 1] rfl, by omega, by rw [tellI_succ hxx6, hp]; simp [tellS, h5, h7, h8] <;> omega, fun j u hj hu => by
            rcases Nat.lt_succ_iff_lt_or_eq.1 hj with hj | rfl
            · exact hb j u hj hu
            · rw [hxx6] at hu; cases hu; exact h7, hg18⟩ (by dsimp only; omega))
      · -- not: laid
        refine LW.value (.yes rfl rfl (kb (bN h8))) rfl (fun _ r => R.move (r.e rfl)) ?_
        refine LW.value (.yes rfl rfl (kb (bN h8))) rfl (fun _ r => R.nilCheck (r.e rfl)) ?_
        refine LW.value (.yes rfl rfl (kb (bN h8))) rfl (fun _ r => R.fieldAddr (k := 1) (r.e rfl) Try.runUnderlying34 rfl Try.sizeOf32 rfl) ?_
        refine LW.value (.yes rfl rfl (kb (bN h8))) rfl (fun _ r => R.load1 (r.e rfl) Try.isAgg32 (hO4.cell (i := 1) rfl rfl)) ?_
        refine LW.value (.yes rfl rfl (kb (bN h8))) rfl (fun _ r => R.move (r.e rfl)) ?_
        obtain ⟨blx6_19, olx6_19, hax6_19, hcx6_19⟩ := hT.at_ _ _ hxx6
        refine LW.value (.yes rfl rfl (kb (bN h8))) rfl (fun _ r => R.indexAddr_o (k := olx6_19 + i * 1) (r.e rfl) hax6_19 (r.e rfl) Try.runUnderlying32 Try.sizeOf3 (by omega) (by omega) (by simp)) ?_
        refine LW.value (.yes rfl rfl (kb (bN h8))) rfl (fun _ r => R.load1 (r.e rfl) Try.isAgg3 (hO4.pc (i := 2) rfl (hcx6_19 0 _ rfl))) ?_
        refine LW.value (.yes rfl rfl (kb (bN h8))) rfl (fun _ r => R.move (r.e rfl)) ?_
        refine LW.value (.yes rfl rfl (kb (bN h8))) rfl (fun _ r => R.gtr (r.e rfl) (r.e rfl)) ?_
        refine LW.value (.free rfl) rfl (fun _ r => R.pick_yes (r.e (kb (bN h8))) (r.e rfl)) ?_
        refine LW.nil (EW.then (?_))
        by_cases h20 : h < x6
        · -- h < x6
          refine CW.yes (kb (dT h20)) ?_
          refine CW.seq ?_
          refine CW.region ?_
          refine LW.value (.free rfl) rfl (fun _ r => R.move (r.e rfl)) ?_
          refine LW.value (.free rfl) rfl (fun _ r => R.move (r.e rfl)) ?_
          refine LW.op (.free rfl) (OW.buildSlice (cs := #[.int .i64 h]) (e := 3) (vs := [(0, .int .i64 h)]) rfl hO4 (fun _ r => ⟨⟨r.e rfl, rfl⟩, trivial⟩) (fun _ => by simp [go_sem, Instr.buildSlice, newRow]) ?_)
          intro b21 w22 hO23
          have hO24 := hO23.move [1] rfl
          refine LW.op (.free rfl) (OW.append (xs := out) (ys := [h]) elem29 rfl hO24 rfl rfl hg (fun _ _ => rfl) (fun _ _ => rfl) rfl (fun _ => src (i := 1) hO24 rfl rfl) (by simp; omega) (by simp; omega) (by decide) ?_)
          intro v25 s26 w27 hO28 hg29
          refine LW.value (.free rfl) rfl (fun _ r => R.assign (r.e rfl)) ?_
          refine LW.nil (EW.then (?_))
          refine CW.region ?_
          refine LW.value (.free rfl) rfl (fun _ r => R.assign (r.e rfl)) ?_
          refine LW.nil (EW.then (?_))
          refine CW.region ?_
          refine LW.value (.free rfl) rfl (fun _ r => R.move (r.e rfl)) ?_
          refine LW.value (.free rfl) rfl (fun _ r => R.move (r.e rfl)) ?_
          refine LW.value (.free rfl) rfl (fun _ r => R.nilCheck (r.e rfl)) ?_
          refine LW.value (.free rfl) rfl (fun _ r => R.fieldAddr (k := 1) (r.e rfl) Try.runUnderlying34 rfl Try.sizeOf32 rfl) ?_
          refine LW.value (.free rfl) rfl (fun _ r => R.load1 (r.e rfl) Try.isAgg32 (hO28.cell (i := 2) rfl rfl)) ?_
          refine LW.value (.free rfl) rfl (fun _ r => R.move (r.e rfl)) ?_
          obtain ⟨blx6_30, olx6_30, hax6_30, hcx6_30⟩ := hT.at_ _ _ hxx6
          refine LW.value (.free rfl) rfl (fun _ r => R.indexAddr_o (k := olx6_30 + i * 1) (r.e rfl) hax6_30 (r.e rfl) Try.runUnderlying32 Try.sizeOf3 (by omega) (by omega) (by simp)) ?_
          refine LW.value (.free rfl) rfl (fun _ r => R.load1 (r.e rfl) Try.isAgg3 (hO28.pc (i := 3) rfl (hcx6_30 0 _ rfl))) ?_
          refine LW.op (.free rfl) (OW.buildSlice (cs := #[.int .i64 x6]) (e := 3) (vs := [(0, .int .i64 x6)]) rfl hO28 (fun _ r => ⟨⟨r.e rfl, rfl⟩, trivial⟩) (fun _ => by simp [go_sem, Instr.buildSlice, newRow]) ?_)
          intro b31 w32 hO33
          have hO34 := hO33.move [1] rfl
          refine LW.op (.free rfl) (OW.append (xs := (out ++ [h])) (ys := [x6]) elem29 rfl hO34 rfl rfl hg29 (fun _ _ => rfl) (fun _ _ => rfl) rfl (fun _ => src (i := 1) hO34 rfl rfl) (by simp; omega) (by simp; omega) (by decide) ?_)
          intro v35 s36 w37 hO38 hg39
          refine LW.value (.free rfl) rfl (fun _ r => R.assign (r.e rfl)) ?_
          refine LW.nil (EW.inB_normal (EW.then (?_)))
          refine CW.region ?_
          refine LW.value (.free rfl) rfl (fun _ r => R.move (r.e rfl)) ?_
          refine LW.value (.free rfl) rfl (fun _ r => R.as (R.add (r.e rfl) (r.e rfl)) (congrArg (Value.int .i64) (wrap_i64 (by omega) (by omega)))) ?_
          refine LW.value (.free rfl) rfl (fun _ r => R.assign (r.e rfl)) ?_
          refine LW.nil ?_
          exact EW.sub (env' := [(0, .pointer (some ⟨k, 0, none⟩)), (1, .int .i64 h), (7, .bool ((splitH h).2.2)), (8, v35), (9, .bool true), (10, .int .i64 ((i + 1) : Int))]) ⟨rfl, rfl, rfl, rfl, rfl, rfl, trivial⟩ (EW.round (i + 1, true, ((out ++ [h]) ++ [x6]), v35, s36) ⟨i + 1, true, ((out ++ [h]) ++ [x6]), v35, s36, rfl, rfl, hO38.pick [0, 2, 2, 2] rfl, by omega, by rw [tellI_succ hxx6, hp]; simp [tellS, h5, h7, h8, h20] <;> omega, fun j u hj hu => by
              rcases Nat.lt_succ_iff_lt_or_eq.1 hj with hj | rfl
              · exact hb j u hj hu
              · rw [hxx6] at hu; cases hu; exact h7, hg39⟩ (by dsimp only; omega))
        · -- not: h < x6
          refine CW.no (kb (dF h20)) ?_
          refine CW.skip (EW.then (?_))
          refine CW.region ?_
          refine LW.value (.free rfl) rfl (fun _ r => R.move (r.e rfl)) ?_
          refine LW.value (.free rfl) rfl (fun _ r => R.move (r.e rfl)) ?_
          refine LW.value (.free rfl) rfl (fun _ r => R.nilCheck (r.e rfl)) ?_
          refine LW.value (.free rfl) rfl (fun _ r => R.fieldAddr (k := 1) (r.e rfl) Try.runUnderlying34 rfl Try.sizeOf32 rfl) ?_
          refine LW.value (.free rfl) rfl (fun _ r => R.load1 (r.e rfl) Try.isAgg32 (hO4.cell (i := 1) rfl rfl)) ?_
          refine LW.value (.free rfl) rfl (fun _ r => R.move (r.e rfl)) ?_
          obtain ⟨blx6_40, olx6_40, hax6_40, hcx6_40⟩ := hT.at_ _ _ hxx6
          refine LW.value (.free rfl) rfl (fun _ r => R.indexAddr_o (k := olx6_40 + i * 1) (r.e rfl) hax6_40 (r.e rfl) Try.runUnderlying32 Try.sizeOf3 (by omega) (by omega) (by simp)) ?_
          refine LW.value (.free rfl) rfl (fun _ r => R.load1 (r.e rfl) Try.isAgg3 (hO4.pc (i := 2) rfl (hcx6_40 0 _ rfl))) ?_
          refine LW.op (.free rfl) (OW.buildSlice (cs := #[.int .i64 x6]) (e := 3) (vs := [(0, .int .i64 x6)]) rfl hO4 (fun _ r => ⟨⟨r.e rfl, rfl⟩, trivial⟩) (fun _ => by simp [go_sem, Instr.buildSlice, newRow]) ?_)
          intro b41 w42 hO43
          have hO44 := hO43.move [1] rfl
          refine LW.op (.free rfl) (OW.append (xs := out) (ys := [x6]) elem29 rfl hO44 rfl rfl hg (fun _ _ => rfl) (fun _ _ => rfl) rfl (fun _ => src (i := 1) hO44 rfl rfl) (by simp; omega) (by simp; omega) (by decide) ?_)
          intro v45 s46 w47 hO48 hg49
          refine LW.value (.free rfl) rfl (fun _ r => R.assign (r.e rfl)) ?_
          refine LW.nil (EW.inB_normal (EW.then (?_)))
          refine CW.region ?_
          refine LW.value (.free rfl) rfl (fun _ r => R.move (r.e rfl)) ?_
          refine LW.value (.free rfl) rfl (fun _ r => R.as (R.add (r.e rfl) (r.e rfl)) (congrArg (Value.int .i64) (wrap_i64 (by omega) (by omega)))) ?_
          refine LW.value (.free rfl) rfl (fun _ r => R.assign (r.e rfl)) ?_
          refine LW.nil ?_
          exact EW.sub (env' := [(0, .pointer (some ⟨k, 0, none⟩)), (1, .int .i64 h), (7, .bool ((splitH h).2.2)), (8, v45), (9, .bool laid), (10, .int .i64 ((i + 1) : Int))]) ⟨rfl, rfl, rfl, rfl, rfl, rfl, trivial⟩ (EW.round (i + 1, laid, (out ++ [x6]), v45, s46) ⟨i + 1, laid, (out ++ [x6]), v45, s46, rfl, rfl, hO48.pick [0, 1, 1, 1] rfl, by omega, by rw [tellI_succ hxx6, hp]; simp [tellS, h5, h7, h8, h20] <;> omega, fun j u hj hu => by
              rcases Nat.lt_succ_iff_lt_or_eq.1 hj with hj | rfl
              · exact hb j u hj hu
              · rw [hxx6] at hu; cases hu; exact h7, hg49⟩ (by dsimp only; omega))
  · -- not: (i : Int) < (nT : Int)
    refine CW.no (kb (dF h5)) ?_
    refine CW.exit (EW.then_exit (EW.then_exit (EW.inB_same (EW.then (?_)))))
    refine CW.seq ?_
    refine CW.seq ?_
    refine CW.region ?_
    refine LW.value (.free rfl) rfl (fun _ r => R.move (r.e rfl)) ?_
    refine LW.value (.free rfl) rfl (fun _ r => R.not (r.e rfl)) ?_
    refine LW.nil (EW.then (?_))
    rcases Bool.eq_false_or_eq_true laid with h50 | h50
    · -- laid
      refine CW.no (kb (bN h50)) ?_
      refine CW.skip (EW.then (?_))
      refine CW.seq ?_
      refine CW.seq ?_
      refine CW.region ?_
      refine LW.value (.free rfl) rfl (fun _ r => R.move (r.e rfl)) ?_
      refine LW.nil (EW.then (?_))
      rcases Bool.eq_false_or_eq_true ((splitH h).2.2) with h51 | h51
      · -- (splitH h).2.2
        refine CW.yes (kb h51) ?_
        refine CW.region ?_
        refine LW.value (.free rfl) rfl (fun _ r => R.move (r.e rfl)) ?_
        refine LW.value (.free rfl) rfl (fun _ r => R.move (r.e rfl)) ?_
        refine LW.value (.free rfl) rfl (fun _ r => R.nilCheck (r.e rfl)) ?_
        refine LW.value (.free rfl) rfl (fun _ r => R.fieldAddr (k := 1) (r.e rfl) Try.runUnderlying34 rfl Try.sizeOf32 rfl) ?_
        refine LW.op (.free rfl) (OW.store (i := 1) rfl hO4 rfl rfl rfl (Grow.one hg) Try.sizeOf32 rfl ?_)
        intro w52 hO53
        refine LW.nil (EW.then (?_))
        refine CW.seq ?_
        refine CW.region ?_
        refine LW.value (.free rfl) rfl (fun _ r => R.move (r.e rfl)) ?_
        refine LW.value (.free rfl) rfl (fun _ r => R.assign (r.e rfl)) ?_
        refine LW.nil (EW.then (?_))
        refine CW.ret ?_
        refine EW.ret1 rfl rfl ?_
        have he : i = T.length := by omega
        subst he
        have hh : isHandle h = true := by
          have h2 := h51
          unfold splitH at h2
          split at h2
          · assumption
          · simp at h2
        have hg2 : Grow 3 1 encI v s (tellT h T) := by simpa [tellT, hp, h5, h50, h51] using hg
        obtain ⟨a, n, c, rfl, hs⟩ := hg2.shut (fun _ _ => rfl)
        exact .inr ⟨congrArg Value.bool h51, hh, fun hm => by obtain ⟨j, hj, e⟩ := List.getElem_of_mem hm; exact hb j _ hj (by rw [← e]; exact List.getElem?_eq_getElem hj) rfl, a, n, c, s, hs, (hO53.pick [1, 0, 0, 0] rfl).perm' (by simp)⟩
      · -- not: (splitH h).2.2
        refine CW.no (kb h51) ?_
        refine CW.skip (EW.then (?_))
        refine CW.seq ?_
        refine CW.region ?_
        refine LW.value (.free rfl) rfl (fun _ r => R.move (r.e rfl)) ?_
        refine LW.value (.free rfl) rfl (fun _ r => R.assign (r.e rfl)) ?_
        refine LW.nil (EW.then (?_))
        refine CW.ret ?_
        refine EW.ret1 rfl rfl ?_
        exact .inl ⟨congrArg Value.bool h51, fun hh => by have h1 := hh.1; have h2 := h51; unfold splitH at h2; rw [if_pos h1] at h2; simp at h2, hO4.pick [1, 1, 1] rfl⟩
    · -- not: laid
      refine CW.yes (kb (bN h50)) ?_
      refine CW.region ?_
      refine LW.value (.free rfl) rfl (fun _ r => R.move (r.e rfl)) ?_
      refine LW.value (.free rfl) rfl (fun _ r => R.move (r.e rfl)) ?_
      refine LW.op (.free rfl) (OW.buildSlice (cs := #[.int .i64 h]) (e := 3) (vs := [(0, .int .i64 h)]) rfl hO4 (fun _ r => ⟨⟨r.e rfl, rfl⟩, trivial⟩) (fun _ => by simp [go_sem, Instr.buildSlice, newRow]) ?_)
      intro b54 w55 hO56
      have hO57 := hO56.move [1] rfl
      refine LW.op (.free rfl) (OW.append (xs := out) (ys := [h]) elem29 rfl hO57 rfl rfl hg (fun _ _ => rfl) (fun _ _ => rfl) rfl (fun _ => src (i := 1) hO57 rfl rfl) (by simp; omega) (by simp; omega) (by decide) ?_)
      intro v58 s59 w60 hO61 hg62
      refine LW.value (.free rfl) rfl (fun _ r => R.assign (r.e rfl)) ?_
      refine LW.nil (EW.then (?_))
      refine CW.seq ?_
      refine CW.seq ?_
      refine CW.region ?_
      refine LW.value (.free rfl) rfl (fun _ r => R.move (r.e rfl)) ?_
      refine LW.nil (EW.then (?_))
      rcases Bool.eq_false_or_eq_true ((splitH h).2.2) with h63 | h63
      · -- (splitH h).2.2
        refine CW.yes (kb h63) ?_
        refine CW.region ?_
        refine LW.value (.free rfl) rfl (fun _ r => R.move (r.e rfl)) ?_
        refine LW.value (.free rfl) rfl (fun _ r => R.move (r.e rfl)) ?_
        refine LW.value (.free rfl) rfl (fun _ r => R.nilCheck (r.e rfl)) ?_
        refine LW.value (.free rfl) rfl (fun _ r => R.fieldAddr (k := 1) (r.e rfl) Try.runUnderlying34 rfl Try.sizeOf32 rfl) ?_
        refine LW.op (.free rfl) (OW.store (i := 2) rfl hO61 rfl rfl rfl (Grow.one hg62) Try.sizeOf32 rfl ?_)
        intro w64 hO65
        refine LW.nil (EW.then (?_))
        refine CW.seq ?_
        refine CW.region ?_
        refine LW.value (.free rfl) rfl (fun _ r => R.move (r.e rfl)) ?_
        refine LW.value (.free rfl) rfl (fun _ r => R.assign (r.e rfl)) ?_
        refine LW.nil (EW.then (?_))
        refine CW.ret ?_
        refine EW.ret1 rfl rfl ?_
        have he : i = T.length := by omega
        subst he
        have hh : isHandle h = true := by
          have h2 := h63
          unfold splitH at h2
          split at h2
          · assumption
          · simp at h2
        have hg2 : Grow 3 1 encI v58 s59 (tellT h T) := by simpa [tellT, hp, h5, h50, h63] using hg62
        obtain ⟨a, n, c, rfl, hs⟩ := hg2.shut (fun _ _ => rfl)
        exact .inr ⟨congrArg Value.bool h63, hh, fun hm => by obtain ⟨j, hj, e⟩ := List.getElem_of_mem hm; exact hb j _ hj (by rw [← e]; exact List.getElem?_eq_getElem hj) rfl, a, n, c, s59, hs, (hO65.pick [2, 0, 1, 1] rfl).perm' (by simp)⟩
      · -- not: (splitH h).2.2
        refine CW.no (kb h63) ?_
        refine CW.skip (EW.then (?_))
        refine CW.seq ?_
        refine CW.region ?_
        refine LW.value (.free rfl) rfl (fun _ r => R.move (r.e rfl)) ?_
        refine LW.value (.free rfl) rfl (fun _ r => R.assign (r.e rfl)) ?_
        refine LW.nil (EW.then (?_))
        refine CW.ret ?_
        refine EW.ret1 rfl rfl ?_
        exact .inl ⟨congrArg Value.bool h63, fun hh => by have h1 := hh.1; have h2 := h63; unfold splitH at h2; rw [if_pos h1] at h2; simp at h2, hO61.pick [2, 2, 2] rfl⟩

theorem k_put2 (G F : Seg) (aL : Option Addr) (nL cL : Nat) (L : List Thing) (x : Thing) (nb : Nat) (w : World) (hL : Sl G 3 encT aL nL cL L) (hn : L.length ≤ 1000000) (hb : nb = x.b.length) (hO : Own w [G, F]) : Calls Try.prog 32 [.slice aL nL cL, .agg #[.int .i64 x.h, .slice x.a nb x.c, .int .i64 x.pins]].toArray w (Ret fun v w' => ∃ s, Grow 79 3 encT v s (putT x L) ∧ Own w' [s, G, F]) := by
  subst hb
  exact k_put G F aL nL cL L x w hL hn hO

set_option maxRecDepth 100000 in
set_option maxHeartbeats 1000000 in
theorem k_try (k : Nat) (G F : Seg) (aL aT : Option Addr) (nL cL nT cT : Nat) (L : List Thing) (T : List Int) (d h off n code num : Int) (w : World) (hK : KAt G aL aT nL cL nT cT L T) (hn : L.length ≤ 1000000) (hm : T.length ≤ 1000000) (hO : Own w [[(k, .cells #[.slice aL nL cL, .slice aT nT cT] 34 (0, 0))], G, F]) : Calls Try.prog 14 [.pointer (some ⟨k, 0, none⟩), .agg #[.int .i64 d, .int .i64 h, .int .i64 off, .int .i64 n], .agg #[.int .i64 code, .int .i64 num]].toArray w (Ret fun v w' => ∃ aL' aT' nL' cL' nT' cT' L' T' N, v = .bool (tryP (L.map Thing.p, T) d h off n code num).1 ∧ KAt (N ++ G) aL' aT' nL' cL' nT' cT' L' T' ∧ (L'.map Thing.p, T') = (tryP (L.map Thing.p, T) d h off n code num).2 ∧ Own w' [[(k, .cells #[.slice aL' nL' cL', .slice aT' nT' cT'] 34 (0, 0))], N ++ G, F]) := by
  have hL := hK.L_
  have hB := hK.B_
  have hT := hK.T_
  have hl := hL.hlen
  have htb := tmod_bounds n
  refine enter (n := 113) Try.func14 rfl rfl rfl ?_
  refine CW.seq ?_
  refine CW.region ?_
  refine LW.op (.free rfl) (OW.box (cs := #[.int .i64 d, .int .i64 h, .int .i64 off, .int .i64 n]) rfl hO rfl rfl ?_)
  intro b1 w2 hO3
  refine LW.op (.free rfl) (OW.box (cs := #[.int .i64 code, .int .i64 num]) rfl hO3 rfl rfl ?_)
  intro b4 w5 hO6
  refine LW.value (.free rfl) rfl (fun _ r => R.assign (r.e rfl)) ?_
  refine LW.nil (EW.then (?_))
  refine CW.seq ?_
  refine CW.region ?_
  refine LW.value (.free rfl) rfl (fun _ r => R.move (r.e rfl)) ?_
  refine LW.value (.free rfl) rfl (fun _ r => R.loadn (vs := [.int .i64 d, .int .i64 h, .int .i64 off, .int .i64 n]) (r.e rfl) Try.isAgg36 Try.sizeOf36 rfl (hO6.cells (i := 1) rfl rfl)) ?_
  refine LW.op (.free rfl) (OW.calls rfl (fun _ r => R.call (vs := [.pointer (some ⟨k, 0, none⟩), .agg #[.int .i64 d, .int .i64 h, .int .i64 off, .int .i64 n]]) Try.call30 rfl ⟨r.e rfl, r.e rfl, trivial⟩) (k_answer k _ _ _ _ _ _ _ _ L d h off n _ hL hB hn (hO6.frame [2, 2] rfl)) ?_)
  rintro _ w7 ⟨rfl, hO8⟩
  replace hO8 := hO8.unframe2
  refine LW.value (.free rfl) rfl (fun _ r => R.move (r.e rfl)) ?_
  refine LW.value (.free rfl) rfl (fun _ r => R.extract (r.e rfl) rfl) ?_
  refine LW.value (.free rfl) rfl (fun _ r => R.extract (r.e rfl) rfl) ?_
  refine LW.op (.free rfl) (OW.alloc (cs := #[.int .i64 0, .int .i64 0]) rfl hO8 Try.zeroValue39 rfl ?_)
  intro b9 w10 hO11
  refine LW.op (.free rfl) (OW.storeall (i := 0) (vs := [.int .i64 ((ansT L d h off n).1), .int .i64 ((ansT L d h off n).2.1)]) rfl hO11 rfl rfl rfl rfl Try.sizeOf39 rfl ?_)
  intro w12 hO13
  refine LW.value (.free rfl) rfl (fun _ r => R.assign (r.e rfl)) ?_
  refine LW.nil (EW.then (?_))
  refine CW.seq ?_
  refine CW.seq ?_
  refine CW.region ?_
  refine LW.value (.free rfl) rfl (fun _ r => R.move (r.e rfl)) ?_
  refine LW.value (.free rfl) rfl (fun _ r => R.not (r.e rfl)) ?_
  refine LW.nil (EW.then (?_))
  rcases Bool.eq_false_or_eq_true ((ansT L d h off n).2.2) with h14 | h14
  · -- (ansT L d h off n).2.2
    refine CW.no (kb (bN h14)) ?_
    refine CW.skip (EW.then (?_))
    refine CW.seq ?_
    refine CW.seq ?_
    refine CW.region ?_
    refine LW.value (.free rfl) rfl (fun _ r => R.loadn (vs := [.int .i64 ((ansT L d h off n).1), .int .i64 ((ansT L d h off n).2.1)]) (r.e rfl) Try.isAgg39 Try.sizeOf39 rfl (hO13.cells (i := 0) rfl rfl)) ?_
    refine LW.value (.free rfl) rfl (fun _ r => R.loadn (vs := [.int .i64 code, .int .i64 num]) (r.e rfl) Try.isAgg39 Try.sizeOf39 rfl (hO13.cells (i := 3) rfl rfl)) ?_
    refine LW.value (.free rfl) rfl (fun _ r => eq39_neq (r.e rfl) (r.e rfl)) ?_
    refine LW.nil (EW.then (?_))
    by_cases h15 : (ansT L d h off n).1 = code ∧ (ansT L d h off n).2.1 = num
    · -- (ansT L d h off n).1 = code ∧ (ansT L d h off n).2.1 = num
      refine CW.no (kb (bN (dT h15))) ?_
      refine CW.skip (EW.then (?_))
      refine CW.seq ?_
      refine CW.seq ?_
      refine CW.region ?_
      refine LW.value (.free rfl) rfl (fun _ r => R.fieldAddr (k := 0) (r.e rfl) Try.runUnderlying39 rfl Try.sizeOf37 rfl) ?_
      refine LW.value (.free rfl) rfl (fun _ r => R.load1 (r.e rfl) Try.isAgg37 (hO13.cell (i := 3) rfl rfl)) ?_
      refine LW.value (.free rfl) rfl (fun _ r => R.neq (r.e rfl) (r.e rfl)) ?_
      refine LW.nil (EW.then (?_))
      by_cases h16 : code = 0
      · -- code = 0
        refine CW.no (kb (bN (dT h16))) ?_
        refine CW.skip (EW.then (?_))
        refine CW.seq ?_
        refine HP.start (I := fun w' => Own w' [[(b9, .cells #[.int .i64 ((ansT L d h off n).1), .int .i64 ((ansT L d h off n).2.1)] 39 (0, 0))], [(k, .cells #[.slice aL nL cL, .slice aT nT cT] 34 (0, 0))], G, [(b4, .cells #[.int .i64 code, .int .i64 num] 39 (0, 0))], [(b1, .cells #[.int .i64 d, .int .i64 h, .int .i64 off, .int .i64 n] 36 (0, 0))], F]) (.take 0 (.take 1 (.take 2 (.take 3 (.take 4 (.take 5 (.take 6 (.two 7 10 (.take 8 (.take 9 (.one 10 (.one 11 (.done))))) (.one 7 (.take 8 (.take 9 (.one 11 (.done))))))))))))) Try.mixed (by intro c d v a w h; cases d <;> exact h) hO13 (by kernel_rfl) ?_
        intro w17 hO18
        have hI19 := hO18.pick [0, 0, 0, 0, 0, 0] rfl
        refine HP.take rfl (.free rfl) rfl hI19 (fun _ r _ hI => R.move (r.e rfl)) ?_
        refine HP.take rfl (.free rfl) rfl hI19 (fun _ r _ hI => R.nilCheck (r.e rfl)) ?_
        refine HP.take rfl (.free rfl) rfl hI19 (fun _ r _ hI => R.fieldAddr (k := 0) (r.e rfl) Try.runUnderlying34 rfl Try.sizeOf31 rfl) ?_
        refine HP.take rfl (.free rfl) rfl hI19 (fun _ r _ hI => R.load1 (r.e rfl) Try.isAgg31 (hI.cell (i := 1) rfl rfl)) ?_
        refine HP.take rfl (.free rfl) rfl hI19 (fun _ r _ hI => R.move (r.e rfl)) ?_
        refine HP.take rfl (.free rfl) rfl hI19 (fun _ r _ hI => R.fieldAddr (k := 1) (r.e rfl) Try.runUnderlying36 rfl Try.sizeOf3 rfl) ?_
        refine HP.take rfl (.free rfl) rfl hI19 (fun _ r _ hI => R.load1 (r.e rfl) Try.isAgg3 (hI.cell (i := 4) rfl rfl)) ?_
        refine HP.two rfl rfl (.free rfl) (.free rfl) ?_ ?_
        ·
          refine OW.calls rfl (fun _ r => R.call (vs := [.pointer (some ⟨k, 0, none⟩), .int .i64 h]) Try.call33 rfl ⟨r.e rfl, r.e rfl, trivial⟩) (k_find k _ _ _ _ _ _ _ _ L h _ hL hn (hO18.frame [1, 1] rfl)) ?_
          rintro _ w20 (⟨rfl, hf21, hO22⟩ | ⟨j23, x24, rfl, hx25, hf26, hO27⟩)
          ·
            replace hO22 := hO22.unframe2
            exact absurd (by rw [h15.1]; exact h16) (ansT_none hf21 h14)
          ·
            replace hO27 := hO27.unframe2
            have hltj23 : j23 < L.length := (List.getElem?_eq_some_iff.1 hx25).1
            obtain ⟨d1, d2, d3, d4, d5, d6⟩ := ansT_some hf26 h14 (by rw [h15.1]; exact h16)
            have hpx0 := hK.P_ _ (List.mem_of_getElem? hx25)
            have hI28 := hO27.pick [2, 0, 0, 0, 0, 0] rfl
            refine ⟨hI28, ?_⟩
            obtain ⟨blx24_29, olx24_29, hax24_29, hcx24_29⟩ := hL.at_ _ _ hx25
            refine HP.take rfl (.free rfl) rfl hI28 (fun _ r _ hI => R.indexAddr_o (k := olx24_29 + j23 * 3) (r.e rfl) hax24_29 (r.e rfl) Try.runUnderlying31 Try.sizeOf79 (by omega) (by omega) (by simp)) ?_
            refine HP.take rfl (.free rfl) rfl hI28 (fun _ r _ hI => R.loadn (vs := [.int .i64 x24.h, .slice x24.a x24.b.length x24.c, .int .i64 x24.pins]) (r.e rfl) Try.isAgg79 Try.sizeOf79 rfl (fun j v hj => hI.pc (i := 2) rfl (hcx24_29 j v hj))) ?_
            refine HP.one rfl (.free rfl) (OW.alloc (cs := #[.int .i64 0, .slice none 0 0, .int .i64 0]) rfl hO27 Try.zeroValue79 rfl ?_)
            intro b30 w31 hO32
            have hI33 := hO32.pick [3, 1, 1, 1, 1, 1] rfl
            refine ⟨hI33, ?_⟩
            refine HP.one rfl (.free rfl) (OW.storeall (i := 0) (vs := [.int .i64 x24.h, .slice x24.a x24.b.length x24.c, .int .i64 x24.pins]) rfl hO32 rfl rfl rfl rfl Try.sizeOf79 rfl ?_)
            intro w34 hO35
            have hI36 := hO35.pick [3, 1, 1, 1, 1, 1] rfl
            refine ⟨hI36, ?_⟩
            refine HP.done (EW.then (?_))
            refine CW.seq ?_
            refine CW.seq ?_
            refine CW.region ?_
            refine LW.value (.free rfl) rfl (fun _ r => R.fieldAddr (k := 0) (r.e rfl) Try.runUnderlying36 rfl Try.sizeOf3 rfl) ?_
            refine LW.value (.free rfl) rfl (fun _ r => R.load1 (r.e rfl) Try.isAgg3 (hO35.cell (i := 5) rfl rfl)) ?_
            refine LW.nil (EW.then (?_))
            refine CW.block ?_
            refine CW.seq ?_
            refine CW.region ?_
            refine LW.value (.free rfl) rfl (fun _ r => R.eql (r.e rfl) (r.e rfl)) ?_
            refine LW.value (.free rfl) rfl (fun _ r => R.assign (r.e rfl)) ?_
            refine LW.nil (EW.then (?_))
            by_cases h37 : d = 1
            · -- d = 1
              refine CW.yes (kb (dT h37)) ?_
              refine CW.region ?_
              refine LW.value (.free rfl) rfl (fun _ r => R.fieldAddr (k := 1) (r.e rfl) Try.runUnderlying79 rfl Try.sizeOf32 rfl) ?_
              refine LW.op (.free rfl) (OW.store (i := 0) rfl hO35 rfl rfl rfl rfl Try.sizeOf32 rfl ?_)
              intro w38 hO39
              refine LW.nil (EW.inB_normal (EW.then (?_)))
              refine CW.seq ?_
              refine HP.start (I := fun w' => Own w' [[(b30, .cells #[.int .i64 x24.h, .slice none 0 0, .int .i64 x24.pins] 79 (0, 0))], G, [(b9, .cells #[.int .i64 ((ansT L d h off n).1), .int .i64 ((ansT L d h off n).2.1)] 39 (0, 0))], [(b4, .cells #[.int .i64 code, .int .i64 num] 39 (0, 0))], [(b1, .cells #[.int .i64 d, .int .i64 h, .int .i64 off, .int .i64 n] 36 (0, 0))], F]) (.take 0 (.take 1 (.take 2 (.take 3 (.take 5 (.one 4 (.one 6 (.take 7 (.take 8 (.one 9 (.done))))))))))) Try.mixed (by intro c d v a w h; cases d <;> exact h) hO39 (by kernel_rfl) ?_
              intro w40 hO41
              have hI42 := hO41.pick [0, 1, 1, 1, 1, 1] rfl
              refine HP.take rfl (.free rfl) rfl hI42 (fun _ r _ hI => R.move (r.e rfl)) ?_
              refine HP.take rfl (.free rfl) rfl hI42 (fun _ r _ hI => R.move (r.e rfl)) ?_
              refine HP.take rfl (.free rfl) rfl hI42 (fun _ r _ hI => R.nilCheck (r.e rfl)) ?_
              refine HP.take rfl (.free rfl) rfl hI42 (fun _ r _ hI => R.fieldAddr (k := 0) (r.e rfl) Try.runUnderlying34 rfl Try.sizeOf31 rfl) ?_
              refine HP.take rfl (.free rfl) rfl hI42 (fun _ r _ hI => R.loadn (vs := [.int .i64 x24.h, .slice none 0 0, .int .i64 x24.pins]) (r.e rfl) Try.isAgg79 Try.sizeOf79 rfl (hI.cells (i := 0) rfl rfl)) ?_
              refine HP.one rfl (.free rfl) (OW.value rfl (fun _ r => R.load1 (r.e rfl) Try.isAgg31 (hO41.cell (i := 1) rfl rfl)) ⟨hI42, ?_⟩)
              obtain ⟨X48, hX48⟩ : ∃ X : Thing, X = ⟨x24.h, none, 0, [], x24.pins⟩ := ⟨_, rfl⟩
              refine HP.one rfl (.free rfl) (OW.calls rfl (fun _ r => R.call (vs := [.slice aL nL cL, .agg #[.int .i64 x24.h, .slice none 0 0, .int .i64 x24.pins]]) Try.call32 rfl ⟨r.e rfl, r.e rfl, trivial⟩) (k_put2 _ _ _ _ _ L ⟨x24.h, none, 0, [], x24.pins⟩ _ _ hL hn (by simp) (hO41.frame [2] rfl)) ?_)
              rintro v43 w46 ⟨s44, hg45, hO47⟩
              replace hO47 := hO47.unframe2
              rw [← hX48] at hg45
              have hI49 := hO47.pick [2, 1, 2, 2, 2, 2] rfl
              refine ⟨hI49, ?_⟩
              refine HP.take rfl (.free rfl) rfl hI49 (fun _ r _ hI => R.nilCheck (r.e rfl)) ?_
              refine HP.take rfl (.free rfl) rfl hI49 (fun _ r _ hI => R.fieldAddr (k := 0) (r.e rfl) Try.runUnderlying34 rfl Try.sizeOf31 rfl) ?_
              refine HP.one rfl (.free rfl) (OW.store (i := 3) rfl hO47 rfl rfl rfl (Grow.one hg45) Try.sizeOf31 rfl ?_)
              intro w50 hO51
              have hI52 := hO51.pick [2, 1, 2, 2, 2, 2] rfl
              refine ⟨hI52, ?_⟩
              refine HP.done (EW.then (?_))
              refine CW.seq ?_
              refine CW.region ?_
              refine LW.value (.free rfl) rfl (fun _ r => R.assign (r.e rfl)) ?_
              refine LW.nil (EW.then (?_))
              refine CW.ret ?_
              refine EW.ret1 rfl rfl ?_
              have hbs : Sl G 1 encI X48.a X48.b.length X48.c X48.b := by subst hX48; first | exact Sl.nil | exact hB x24 (List.mem_of_getElem? hx25)
              have hK2 := hK
              have hpx := hK.P_ _ (List.mem_of_getElem? hx25)
              obtain ⟨a', n', c', rfl, hK3⟩ := hK2.put hg45 hbs (by subst hX48; simp; omega)
              refine ⟨a', aT, n', c', nT, cT, _, _, s44, ?_, by simpa using hK3, ?_, ((hO51.pick [3, 0, 0, 4] rfl).perm' (by simp)).heap rfl⟩
              all_goals rw [tryP_ok (T := T) h14 h15 h16 hf26]
              · rw [putT_p, show X48.p = chgP d off n x24.p from by subst hX48; simp [chgP, Thing.p, h37, byte_tmod]]
            · -- not: d = 1
              refine CW.no (kb (dF h37)) ?_
              refine CW.seq ?_
              refine CW.region ?_
              refine LW.value (.free rfl) rfl (fun _ r => R.eql (r.e rfl) (r.e rfl)) ?_
              refine LW.value (.free rfl) rfl (fun _ r => R.assign (r.e rfl)) ?_
              refine LW.nil (EW.then (?_))
              by_cases h53 : d = 3
              · -- d = 3
                refine CW.yes (kb (dT h53)) ?_
                refine CW.seq ?_
                refine CW.region ?_
                refine LW.value (.free rfl) rfl (fun _ r => R.assign (r.e rfl)) ?_
                refine LW.nil (EW.then (?_))
                refine CW.seq ?_
                refine CW.region ?_
                refine LW.value (.free rfl) rfl (fun _ r => R.move (r.e rfl)) ?_
                refine LW.value (.free rfl) rfl (fun _ r => R.fieldAddr (k := 1) (r.e rfl) Try.runUnderlying79 rfl Try.sizeOf32 rfl) ?_
                refine LW.value (.free rfl) rfl (fun _ r => R.load1 (r.e rfl) Try.isAgg32 (hO35.cell (i := 0) rfl rfl)) ?_
                have hO54 := hO35.nil
                have hO55 := hO54.move [0] rfl
                refine LW.op (.free rfl) (OW.append (xs := []) (ys := x24.b) elem29 rfl hO55 rfl rfl Grow.start (fun _ _ => rfl) (fun _ _ => rfl) ((hB _ (List.mem_of_getElem? hx25)).hlen) (fun hne => let ⟨b, off, e, hc⟩ := (hB _ (List.mem_of_getElem? hx25)).cells (fun _ _ => rfl) hne; ⟨b, off, e, fun j u hj => hO55.pc (i := 3) rfl (hc j u hj)⟩) (by simp; omega) (by simp; omega) (by decide) ?_)
                intro v56 s57 w58 hO59 hg60
                change Grow _ _ _ _ _ x24.b at hg60
                refine LW.value (.free rfl) rfl (fun _ r => R.assign (r.e rfl)) ?_
                refine LW.nil (EW.then (?_))
                refine CW.seq ?_
                refine CW.region ?_
                refine LW.value (.free rfl) rfl (fun _ r => R.move (r.e rfl)) ?_
                refine LW.value (.free rfl) rfl (fun _ r => R.fieldAddr (k := 2) (r.e rfl) Try.runUnderlying36 rfl Try.sizeOf3 rfl) ?_
                refine LW.value (.free rfl) rfl (fun _ r => R.load1 (r.e rfl) Try.isAgg3 (hO59.cell (i := 6) rfl rfl)) ?_
                refine LW.value (.free rfl) rfl (fun _ r => R.fieldAddr (k := 3) (r.e rfl) Try.runUnderlying36 rfl Try.sizeOf3 rfl) ?_
                refine LW.value (.free rfl) rfl (fun _ r => R.load1 (r.e rfl) Try.isAgg3 (hO59.cell (i := 6) rfl rfl)) ?_
                refine LW.value (.free rfl) rfl (fun _ r => R.rem (r.e rfl) (r.e rfl) (by omega)) ?_
                refine LW.value (.free rfl) rfl (fun _ r => R.as (R.add (r.e rfl) (r.e rfl)) (congrArg (Value.int .i64) (wrap_i64 (by omega) (by omega)))) ?_
                refine LW.value (.free rfl) rfl (fun _ r => R.rem (r.e rfl) (r.e rfl) (by omega)) ?_
                have hl66 : off.toNat < x24.b.length := by (try simp only [List.length_append]); omega
                obtain ⟨b61, cap62, rest63, rfl, rfl, hc64, hc65⟩ := Grow.got hg60 (by omega)
                refine LW.value (.free rfl) rfl (fun _ r => R.indexAddr (k := off.toNat) (r.e rfl) (r.e rfl) Try.runUnderlying32 Try.sizeOf3 (by omega) (by omega) (by simp)) ?_
                refine LW.op (.free rfl) (OW.store (i := 0) rfl hO59 rfl rfl rfl rfl Try.sizeOf3 (by simp only [Nat.blt_eq, List.size_toArray, List.length_append, flat_length (enc := encI) (sz := 1) (fun _ _ => rfl)]; omega) ?_)
                intro w67 hO68
                have hg69 := Grow.set (E := 3) (enc1 := Value.int .i64) (b := b61) (y := (n.tmod 256 + 256).tmod 256) hl66 hc64 hc65
                refine LW.nil (EW.then (?_))
                refine CW.region ?_
                refine LW.value (.free rfl) rfl (fun _ r => R.move (r.e rfl)) ?_
                refine LW.value (.free rfl) rfl (fun _ r => R.fieldAddr (k := 1) (r.e rfl) Try.runUnderlying79 rfl Try.sizeOf32 rfl) ?_
                refine LW.op (.free rfl) (OW.store (i := 1) rfl hO68 rfl rfl rfl (Grow.one hg69) Try.sizeOf32 rfl ?_)
                intro w70 hO71
                refine LW.nil (EW.inB_normal (EW.then (?_)))
                refine CW.seq ?_
                refine HP.start (I := fun w' => Own w' [[(b61, .cells ((x24.b.flatMap encI ++ rest63).toArray.setIfInBounds off.toNat (.int .i64 ((n.tmod 256 + 256).tmod 256))) 3 (0, 0))], [(b30, .cells #[.int .i64 x24.h, (.slice (some ⟨b61, 0, none⟩) x24.b.length cap62), .int .i64 x24.pins] 79 (0, 0))], G, [(b9, .cells #[.int .i64 ((ansT L d h off n).1), .int .i64 ((ansT L d h off n).2.1)] 39 (0, 0))], [(b4, .cells #[.int .i64 code, .int .i64 num] 39 (0, 0))], [(b1, .cells #[.int .i64 d, .int .i64 h, .int .i64 off, .int .i64 n] 36 (0, 0))], F]) (.take 0 (.take 1 (.take 2 (.take 3 (.take 5 (.one 4 (.one 6 (.take 7 (.take 8 (.one 9 (.done))))))))))) Try.mixed (by intro c d v a w h; cases d <;> exact h) hO71 (by kernel_rfl) ?_
                intro w72 hO73
                have hI74 := hO73.pick [0, 0, 1, 1, 1, 1, 1] rfl
                refine HP.take rfl (.free rfl) rfl hI74 (fun _ r _ hI => R.move (r.e rfl)) ?_
                refine HP.take rfl (.free rfl) rfl hI74 (fun _ r _ hI => R.move (r.e rfl)) ?_
                refine HP.take rfl (.free rfl) rfl hI74 (fun _ r _ hI => R.nilCheck (r.e rfl)) ?_
                refine HP.take rfl (.free rfl) rfl hI74 (fun _ r _ hI => R.fieldAddr (k := 0) (r.e rfl) Try.runUnderlying34 rfl Try.sizeOf31 rfl) ?_
                refine HP.take rfl (.free rfl) rfl hI74 (fun _ r _ hI => R.loadn (vs := [.int .i64 x24.h, (.slice (some ⟨b61, 0, none⟩) x24.b.length cap62), .int .i64 x24.pins]) (r.e rfl) Try.isAgg79 Try.sizeOf79 rfl (hI.cells (i := 1) rfl rfl)) ?_
                refine HP.one rfl (.free rfl) (OW.value rfl (fun _ r => R.load1 (r.e rfl) Try.isAgg31 (hO73.cell (i := 2) rfl rfl)) ⟨hI74, ?_⟩)
                have hs75 : Sl ([(b61, .cells ((x24.b.flatMap encI ++ rest63).toArray.setIfInBounds off.toNat (.int .i64 ((n.tmod 256 + 256).tmod 256))) 3 (0, 0))]) 1 encI (some ⟨b61, 0, none⟩) (x24.b.set off.toNat ((n.tmod 256 + 256).tmod 256)).length cap62 (x24.b.set off.toNat ((n.tmod 256 + 256).tmod 256)) := Grow.shut1 hg69
                obtain ⟨X81, hX81⟩ : ∃ X : Thing, X = ⟨x24.h, some ⟨b61, 0, none⟩, cap62, (x24.b.set off.toNat ((n.tmod 256 + 256).tmod 256)), x24.pins⟩ := ⟨_, rfl⟩
                refine HP.one rfl (.free rfl) (OW.calls rfl (fun _ r => R.call (vs := [.slice aL nL cL, .agg #[.int .i64 x24.h, (.slice (some ⟨b61, 0, none⟩) x24.b.length cap62), .int .i64 x24.pins]]) Try.call32 rfl ⟨r.e rfl, r.e rfl, trivial⟩) (k_put2 _ _ _ _ _ L ⟨x24.h, some ⟨b61, 0, none⟩, cap62, (x24.b.set off.toNat ((n.tmod 256 + 256).tmod 256)), x24.pins⟩ _ _ hL hn (by simp) (hO73.frame [3] rfl)) ?_)
                rintro v76 w79 ⟨s77, hg78, hO80⟩
                replace hO80 := hO80.unframe2
                rw [← hX81] at hg78
                have hI82 := hO80.pick [2, 2, 1, 2, 2, 2, 2] rfl
                refine ⟨hI82, ?_⟩
                refine HP.take rfl (.free rfl) rfl hI82 (fun _ r _ hI => R.nilCheck (r.e rfl)) ?_
                refine HP.take rfl (.free rfl) rfl hI82 (fun _ r _ hI => R.fieldAddr (k := 0) (r.e rfl) Try.runUnderlying34 rfl Try.sizeOf31 rfl) ?_
                refine HP.one rfl (.free rfl) (OW.store (i := 4) rfl hO80 rfl rfl rfl (Grow.one hg78) Try.sizeOf31 rfl ?_)
                intro w83 hO84
                have hI85 := hO84.pick [2, 2, 1, 2, 2, 2, 2] rfl
                refine ⟨hI85, ?_⟩
                refine HP.done (EW.then (?_))
                refine CW.seq ?_
                refine CW.region ?_
                refine LW.value (.free rfl) rfl (fun _ r => R.assign (r.e rfl)) ?_
                refine LW.nil (EW.then (?_))
                refine CW.ret ?_
                refine EW.ret1 rfl rfl ?_
                have hbs : Sl ([(b61, .cells ((x24.b.flatMap encI ++ rest63).toArray.setIfInBounds off.toNat (.int .i64 ((n.tmod 256 + 256).tmod 256))) 3 (0, 0))] ++ G) 1 encI X81.a X81.b.length X81.c X81.b := by subst hX81; exact hs75.mono (fun p hp => List.mem_append_left _ hp)
                have hK2 := hK.mono (G' := [(b61, .cells ((x24.b.flatMap encI ++ rest63).toArray.setIfInBounds off.toNat (.int .i64 ((n.tmod 256 + 256).tmod 256))) 3 (0, 0))] ++ G) (fun p hp => List.mem_append_right _ hp)
                have hpx := hK.P_ _ (List.mem_of_getElem? hx25)
                obtain ⟨a', n', c', rfl, hK3⟩ := hK2.put hg78 hbs (by subst hX81; simp; omega)
                refine ⟨a', aT, n', c', nT, cT, _, _, s77 ++ [(b61, .cells ((x24.b.flatMap encI ++ rest63).toArray.setIfInBounds off.toNat (.int .i64 ((n.tmod 256 + 256).tmod 256))) 3 (0, 0))], ?_, by simpa using hK3, ?_, ((hO84.pick [4, 0, 1, 0, 4] rfl).perm' (by simp)).heap rfl⟩
                all_goals rw [tryP_ok (T := T) h14 h15 h16 hf26]
                · rw [putT_p, show X81.p = chgP d off n x24.p from by subst hX81; simp [chgP, Thing.p, h37, h53, byte_tmod]]
              · -- not: d = 3
                refine CW.no (kb (dF h53)) ?_
                refine CW.seq ?_
                refine CW.region ?_
                refine LW.value (.free rfl) rfl (fun _ r => R.eql (r.e rfl) (r.e rfl)) ?_
                refine LW.value (.free rfl) rfl (fun _ r => R.assign (r.e rfl)) ?_
                refine LW.nil (EW.then (?_))
                by_cases h86 : d = 4
                · -- d = 4
                  refine CW.yes (kb (dT h86)) ?_
                  refine CW.region ?_
                  refine LW.value (.free rfl) rfl (fun _ r => R.fieldAddr (k := 2) (r.e rfl) Try.runUnderlying79 rfl Try.sizeOf3 rfl) ?_
                  refine LW.value (.free rfl) rfl (fun _ r => R.load1 (r.e rfl) Try.isAgg3 (hO35.cell (i := 0) rfl rfl)) ?_
                  refine LW.value (.free rfl) rfl (fun _ r => R.as (R.add (r.e rfl) (r.e rfl)) (congrArg (Value.int .i64) (wrap_i64 (by omega) (by omega)))) ?_
                  refine LW.value (.free rfl) rfl (fun _ r => R.fieldAddr (k := 2) (r.e rfl) Try.runUnderlying79 rfl Try.sizeOf3 rfl) ?_
                  refine LW.op (.free rfl) (OW.store (i := 0) rfl hO35 rfl rfl rfl rfl Try.sizeOf3 rfl ?_)
                  intro w87 hO88
                  refine LW.nil (EW.inB_normal (EW.then (?_)))
                  refine CW.seq ?_
                  refine HP.start (I := fun w' => Own w' [[(b30, .cells #[.int .i64 x24.h, .slice x24.a x24.b.length x24.c, .int .i64 (x24.pins + 1)] 79 (0, 0))], G, [(b9, .cells #[.int .i64 ((ansT L d h off n).1), .int .i64 ((ansT L d h off n).2.1)] 39 (0, 0))], [(b4, .cells #[.int .i64 code, .int .i64 num] 39 (0, 0))], [(b1, .cells #[.int .i64 d, .int .i64 h, .int .i64 off, .int .i64 n] 36 (0, 0))], F]) (.take 0 (.take 1 (.take 2 (.take 3 (.take 5 (.one 4 (.one 6 (.take 7 (.take 8 (.one 9 (.done))))))))))) Try.mixed (by intro c d v a w h; cases d <;> exact h) hO88 (by kernel_rfl) ?_
                  intro w89 hO90
                  have hI91 := hO90.pick [0, 1, 1, 1, 1, 1] rfl
                  refine HP.take rfl (.free rfl) rfl hI91 (fun _ r _ hI => R.move (r.e rfl)) ?_
                  refine HP.take rfl (.free rfl) rfl hI91 (fun _ r _ hI => R.move (r.e rfl)) ?_
                  refine HP.take rfl (.free rfl) rfl hI91 (fun _ r _ hI => R.nilCheck (r.e rfl)) ?_
                  refine HP.take rfl (.free rfl) rfl hI91 (fun _ r _ hI => R.fieldAddr (k := 0) (r.e rfl) Try.runUnderlying34 rfl Try.sizeOf31 rfl) ?_
                  refine HP.take rfl (.free rfl) rfl hI91 (fun _ r _ hI => R.loadn (vs := [.int .i64 x24.h, .slice x24.a x24.b.length x24.c, .int .i64 (x24.pins + 1)]) (r.e rfl) Try.isAgg79 Try.sizeOf79 rfl (hI.cells (i := 0) rfl rfl)) ?_
                  refine HP.one rfl (.free rfl) (OW.value rfl (fun _ r => R.load1 (r.e rfl) Try.isAgg31 (hO90.cell (i := 1) rfl rfl)) ⟨hI91, ?_⟩)
                  obtain ⟨X97, hX97⟩ : ∃ X : Thing, X = ⟨x24.h, x24.a, x24.c, x24.b, x24.pins + 1⟩ := ⟨_, rfl⟩
                  refine HP.one rfl (.free rfl) (OW.calls rfl (fun _ r => R.call (vs := [.slice aL nL cL, .agg #[.int .i64 x24.h, .slice x24.a x24.b.length x24.c, .int .i64 (x24.pins + 1)]]) Try.call32 rfl ⟨r.e rfl, r.e rfl, trivial⟩) (k_put2 _ _ _ _ _ L ⟨x24.h, x24.a, x24.c, x24.b, x24.pins + 1⟩ _ _ hL hn (by simp) (hO90.frame [2] rfl)) ?_)
                  rintro v92 w95 ⟨s93, hg94, hO96⟩
                  replace hO96 := hO96.unframe2
                  rw [← hX97] at hg94
                  have hI98 := hO96.pick [2, 1, 2, 2, 2, 2] rfl
                  refine ⟨hI98, ?_⟩
                  refine HP.take rfl (.free rfl) rfl hI98 (fun _ r _ hI => R.nilCheck (r.e rfl)) ?_
                  refine HP.take rfl (.free rfl) rfl hI98 (fun _ r _ hI => R.fieldAddr (k := 0) (r.e rfl) Try.runUnderlying34 rfl Try.sizeOf31 rfl) ?_
                  refine HP.one rfl (.free rfl) (OW.store (i := 3) rfl hO96 rfl rfl rfl (Grow.one hg94) Try.sizeOf31 rfl ?_)
                  intro w99 hO100
                  have hI101 := hO100.pick [2, 1, 2, 2, 2, 2] rfl
                  refine ⟨hI101, ?_⟩
                  refine HP.done (EW.then (?_))
                  refine CW.seq ?_
                  refine CW.region ?_
                  refine LW.value (.free rfl) rfl (fun _ r => R.assign (r.e rfl)) ?_
                  refine LW.nil (EW.then (?_))
                  refine CW.ret ?_
                  refine EW.ret1 rfl rfl ?_
                  have hbs : Sl G 1 encI X97.a X97.b.length X97.c X97.b := by subst hX97; first | exact Sl.nil | exact hB x24 (List.mem_of_getElem? hx25)
                  have hK2 := hK
                  have hpx := hK.P_ _ (List.mem_of_getElem? hx25)
                  obtain ⟨a', n', c', rfl, hK3⟩ := hK2.put hg94 hbs (by subst hX97; simp; omega)
                  refine ⟨a', aT, n', c', nT, cT, _, _, s93, ?_, by simpa using hK3, ?_, ((hO100.pick [3, 0, 0, 4] rfl).perm' (by simp)).heap rfl⟩
                  all_goals rw [tryP_ok (T := T) h14 h15 h16 hf26]
                  · rw [putT_p, show X97.p = chgP d off n x24.p from by subst hX97; simp [chgP, Thing.p, h37, h53, h86, byte_tmod]]
                · -- not: d = 4
                  refine CW.no (kb (dF h86)) ?_
                  refine CW.seq ?_
                  refine CW.region ?_
                  refine LW.value (.free rfl) rfl (fun _ r => R.eql (r.e rfl) (r.e rfl)) ?_
                  refine LW.value (.free rfl) rfl (fun _ r => R.assign (r.e rfl)) ?_
                  refine LW.nil (EW.then (?_))
                  by_cases h102 : d = 5
                  · -- d = 5
                    refine CW.yes (kb (dT h102)) ?_
                    refine CW.region ?_
                    refine LW.value (.free rfl) rfl (fun _ r => R.fieldAddr (k := 2) (r.e rfl) Try.runUnderlying79 rfl Try.sizeOf3 rfl) ?_
                    refine LW.value (.free rfl) rfl (fun _ r => R.load1 (r.e rfl) Try.isAgg3 (hO35.cell (i := 0) rfl rfl)) ?_
                    refine LW.value (.free rfl) rfl (fun _ r => R.as (R.sub (r.e rfl) (r.e rfl)) (congrArg (Value.int .i64) (wrap_i64 (by omega) (by omega)))) ?_
                    refine LW.value (.free rfl) rfl (fun _ r => R.fieldAddr (k := 2) (r.e rfl) Try.runUnderlying79 rfl Try.sizeOf3 rfl) ?_
                    refine LW.op (.free rfl) (OW.store (i := 0) rfl hO35 rfl rfl rfl rfl Try.sizeOf3 rfl ?_)
                    intro w103 hO104
                    refine LW.nil (EW.inB_normal (EW.then (?_)))
                    refine CW.seq ?_
                    refine HP.start (I := fun w' => Own w' [[(b30, .cells #[.int .i64 x24.h, .slice x24.a x24.b.length x24.c, .int .i64 (x24.pins - 1)] 79 (0, 0))], G, [(b9, .cells #[.int .i64 ((ansT L d h off n).1), .int .i64 ((ansT L d h off n).2.1)] 39 (0, 0))], [(b4, .cells #[.int .i64 code, .int .i64 num] 39 (0, 0))], [(b1, .cells #[.int .i64 d, .int .i64 h, .int .i64 off, .int .i64 n] 36 (0, 0))], F]) (.take 0 (.take 1 (.take 2 (.take 3 (.take 5 (.one 4 (.one 6 (.take 7 (.take 8 (.one 9 (.done))))))))))) Try.mixed (by intro c d v a w h; cases d <;> exact h) hO104 (by kernel_rfl) ?_
                    intro w105 hO106
                    have hI107 := hO106.pick [0, 1, 1, 1, 1, 1] rfl
                    refine HP.take rfl (.free rfl) rfl hI107 (fun _ r _ hI => R.move (r.e rfl)) ?_
                    refine HP.take rfl (.free rfl) rfl hI107 (fun _ r _ hI => R.move (r.e rfl)) ?_
                    refine HP.take rfl (.free rfl) rfl hI107 (fun _ r _ hI => R.nilCheck (r.e rfl)) ?_
                    refine HP.take rfl (.free rfl) rfl hI107 (fun _ r _ hI => R.fieldAddr (k := 0) (r.e rfl) Try.runUnderlying34 rfl Try.sizeOf31 rfl) ?_
                    refine HP.take rfl (.free rfl) rfl hI107 (fun _ r _ hI => R.loadn (vs := [.int .i64 x24.h, .slice x24.a x24.b.length x24.c, .int .i64 (x24.pins - 1)]) (r.e rfl) Try.isAgg79 Try.sizeOf79 rfl (hI.cells (i := 0) rfl rfl)) ?_
                    refine HP.one rfl (.free rfl) (OW.value rfl (fun _ r => R.load1 (r.e rfl) Try.isAgg31 (hO106.cell (i := 1) rfl rfl)) ⟨hI107, ?_⟩)
                    obtain ⟨X113, hX113⟩ : ∃ X : Thing, X = ⟨x24.h, x24.a, x24.c, x24.b, x24.pins - 1⟩ := ⟨_, rfl⟩
                    refine HP.one rfl (.free rfl) (OW.calls rfl (fun _ r => R.call (vs := [.slice aL nL cL, .agg #[.int .i64 x24.h, .slice x24.a x24.b.length x24.c, .int .i64 (x24.pins - 1)]]) Try.call32 rfl ⟨r.e rfl, r.e rfl, trivial⟩) (k_put2 _ _ _ _ _ L ⟨x24.h, x24.a, x24.c, x24.b, x24.pins - 1⟩ _ _ hL hn (by simp) (hO106.frame [2] rfl)) ?_)
                    rintro v108 w111 ⟨s109, hg110, hO112⟩
                    replace hO112 := hO112.unframe2
                    rw [← hX113] at hg110
                    have hI114 := hO112.pick [2, 1, 2, 2, 2, 2] rfl
                    refine ⟨hI114, ?_⟩
                    refine HP.take rfl (.free rfl) rfl hI114 (fun _ r _ hI => R.nilCheck (r.e rfl)) ?_
                    refine HP.take rfl (.free rfl) rfl hI114 (fun _ r _ hI => R.fieldAddr (k := 0) (r.e rfl) Try.runUnderlying34 rfl Try.sizeOf31 rfl) ?_
                    refine HP.one rfl (.free rfl) (OW.store (i := 3) rfl hO112 rfl rfl rfl (Grow.one hg110) Try.sizeOf31 rfl ?_)
                    intro w115 hO116
                    have hI117 := hO116.pick [2, 1, 2, 2, 2, 2] rfl
                    refine ⟨hI117, ?_⟩
                    refine HP.done (EW.then (?_))
                    refine CW.seq ?_
                    refine CW.region ?_
                    refine LW.value (.free rfl) rfl (fun _ r => R.assign (r.e rfl)) ?_
                    refine LW.nil (EW.then (?_))
                    refine CW.ret ?_
                    refine EW.ret1 rfl rfl ?_
                    have hbs : Sl G 1 encI X113.a X113.b.length X113.c X113.b := by subst hX113; first | exact Sl.nil | exact hB x24 (List.mem_of_getElem? hx25)
                    have hK2 := hK
                    have hpx := hK.P_ _ (List.mem_of_getElem? hx25)
                    obtain ⟨a', n', c', rfl, hK3⟩ := hK2.put hg110 hbs (by subst hX113; simp; omega)
                    refine ⟨a', aT, n', c', nT, cT, _, _, s109, ?_, by simpa using hK3, ?_, ((hO116.pick [3, 0, 0, 4] rfl).perm' (by simp)).heap rfl⟩
                    all_goals rw [tryP_ok (T := T) h14 h15 h16 hf26]
                    · rw [putT_p, show X113.p = chgP d off n x24.p from by subst hX113; simp [chgP, Thing.p, h37, h53, h86, h102, byte_tmod]]
                  · -- not: d = 5
                    refine CW.no (kb (dF h102)) ?_
                    refine CW.skip (EW.inB_normal (EW.then (?_)))
                    refine CW.seq ?_
                    refine HP.start (I := fun w' => Own w' [[(b30, .cells #[.int .i64 x24.h, .slice x24.a x24.b.length x24.c, .int .i64 x24.pins] 79 (0, 0))], G, [(b9, .cells #[.int .i64 ((ansT L d h off n).1), .int .i64 ((ansT L d h off n).2.1)] 39 (0, 0))], [(b4, .cells #[.int .i64 code, .int .i64 num] 39 (0, 0))], [(b1, .cells #[.int .i64 d, .int .i64 h, .int .i64 off, .int .i64 n] 36 (0, 0))], F]) (.take 0 (.take 1 (.take 2 (.take 3 (.take 5 (.one 4 (.one 6 (.take 7 (.take 8 (.one 9 (.done))))))))))) Try.mixed (by intro c d v a w h; cases d <;> exact h) hO35 (by kernel_rfl) ?_
                    intro w118 hO119
                    have hI120 := hO119.pick [0, 1, 1, 1, 1, 1] rfl
                    refine HP.take rfl (.free rfl) rfl hI120 (fun _ r _ hI => R.move (r.e rfl)) ?_
                    refine HP.take rfl (.free rfl) rfl hI120 (fun _ r _ hI => R.move (r.e rfl)) ?_
                    refine HP.take rfl (.free rfl) rfl hI120 (fun _ r _ hI => R.nilCheck (r.e rfl)) ?_
                    refine HP.take rfl (.free rfl) rfl hI120 (fun _ r _ hI => R.fieldAddr (k := 0) (r.e rfl) Try.runUnderlying34 rfl Try.sizeOf31 rfl) ?_
                    refine HP.take rfl (.free rfl) rfl hI120 (fun _ r _ hI => R.loadn (vs := [.int .i64 x24.h, .slice x24.a x24.b.length x24.c, .int .i64 x24.pins]) (r.e rfl) Try.isAgg79 Try.sizeOf79 rfl (hI.cells (i := 0) rfl rfl)) ?_
                    refine HP.one rfl (.free rfl) (OW.value rfl (fun _ r => R.load1 (r.e rfl) Try.isAgg31 (hO119.cell (i := 1) rfl rfl)) ⟨hI120, ?_⟩)
                    obtain ⟨X126, hX126⟩ : ∃ X : Thing, X = ⟨x24.h, x24.a, x24.c, x24.b, x24.pins⟩ := ⟨_, rfl⟩
                    refine HP.one rfl (.free rfl) (OW.calls rfl (fun _ r => R.call (vs := [.slice aL nL cL, .agg #[.int .i64 x24.h, .slice x24.a x24.b.length x24.c, .int .i64 x24.pins]]) Try.call32 rfl ⟨r.e rfl, r.e rfl, trivial⟩) (k_put2 _ _ _ _ _ L ⟨x24.h, x24.a, x24.c, x24.b, x24.pins⟩ _ _ hL hn (by simp) (hO119.frame [2] rfl)) ?_)
                    rintro v121 w124 ⟨s122, hg123, hO125⟩
                    replace hO125 := hO125.unframe2
                    rw [← hX126] at hg123
                    have hI127 := hO125.pick [2, 1, 2, 2, 2, 2] rfl
                    refine ⟨hI127, ?_⟩
                    refine HP.take rfl (.free rfl) rfl hI127 (fun _ r _ hI => R.nilCheck (r.e rfl)) ?_
                    refine HP.take rfl (.free rfl) rfl hI127 (fun _ r _ hI => R.fieldAddr (k := 0) (r.e rfl) Try.runUnderlying34 rfl Try.sizeOf31 rfl) ?_
                    refine HP.one rfl (.free rfl) (OW.store (i := 3) rfl hO125 rfl rfl rfl (Grow.one hg123) Try.sizeOf31 rfl ?_)
                    intro w128 hO129
                    have hI130 := hO129.pick [2, 1, 2, 2, 2, 2] rfl
                    refine ⟨hI130, ?_⟩
                    refine HP.done (EW.then (?_))
                    refine CW.seq ?_
                    refine CW.region ?_
                    refine LW.value (.free rfl) rfl (fun _ r => R.assign (r.e rfl)) ?_
                    refine LW.nil (EW.then (?_))
                    refine CW.ret ?_
                    refine EW.ret1 rfl rfl ?_
                    have hbs : Sl G 1 encI X126.a X126.b.length X126.c X126.b := by subst hX126; first | exact Sl.nil | exact hB x24 (List.mem_of_getElem? hx25)
                    have hK2 := hK
                    have hpx := hK.P_ _ (List.mem_of_getElem? hx25)
                    obtain ⟨a', n', c', rfl, hK3⟩ := hK2.put hg123 hbs (by subst hX126; simp; omega)
                    refine ⟨a', aT, n', c', nT, cT, _, _, s122, ?_, by simpa using hK3, ?_, ((hO129.pick [3, 0, 0, 4] rfl).perm' (by simp)).heap rfl⟩
                    all_goals rw [tryP_ok (T := T) h14 h15 h16 hf26]
                    · rw [putT_p, show X126.p = chgP d off n x24.p from by subst hX126; simp [chgP, Thing.p, h37, h53, h86, h102, byte_tmod]]
        ·
          refine OW.alloc (cs := #[.int .i64 0, .slice none 0 0, .int .i64 0]) rfl hO18 Try.zeroValue79 rfl ?_
          intro b131 w132 hO133
          have hI134 := hO133.pick [1, 1, 1, 1, 1, 1] rfl
          refine ⟨hI134, ?_⟩
          refine HP.one rfl (.free rfl) (OW.calls rfl (fun _ r => R.call (vs := [.pointer (some ⟨k, 0, none⟩), .int .i64 h]) Try.call33 rfl ⟨r.e rfl, r.e rfl, trivial⟩) (k_find k _ _ _ _ _ _ _ _ L h _ hL hn (hO133.frame [2, 2] rfl)) ?_)
          rintro _ w135 (⟨rfl, hf136, hO137⟩ | ⟨j138, x139, rfl, hx140, hf141, hO142⟩)
          ·
            replace hO137 := hO137.unframe2
            exact absurd (by rw [h15.1]; exact h16) (ansT_none hf136 h14)
          ·
            replace hO142 := hO142.unframe2
            have hltj138 : j138 < L.length := (List.getElem?_eq_some_iff.1 hx140).1
            obtain ⟨d1, d2, d3, d4, d5, d6⟩ := ansT_some hf141 h14 (by rw [h15.1]; exact h16)
            have hpx0 := hK.P_ _ (List.mem_of_getElem? hx140)
            have hI143 := hO142.pick [3, 0, 0, 1, 1, 1] rfl
            refine ⟨hI143, ?_⟩
            obtain ⟨blx139_144, olx139_144, hax139_144, hcx139_144⟩ := hL.at_ _ _ hx140
            refine HP.take rfl (.free rfl) rfl hI143 (fun _ r _ hI => R.indexAddr_o (k := olx139_144 + j138 * 3) (r.e rfl) hax139_144 (r.e rfl) Try.runUnderlying31 Try.sizeOf79 (by omega) (by omega) (by simp)) ?_
            refine HP.take rfl (.free rfl) rfl hI143 (fun _ r _ hI => R.loadn (vs := [.int .i64 x139.h, .slice x139.a x139.b.length x139.c, .int .i64 x139.pins]) (r.e rfl) Try.isAgg79 Try.sizeOf79 rfl (fun j v hj => hI.pc (i := 2) rfl (hcx139_144 j v hj))) ?_
            refine HP.one rfl (.free rfl) (OW.storeall (i := 2) (vs := [.int .i64 x139.h, .slice x139.a x139.b.length x139.c, .int .i64 x139.pins]) rfl hO142 rfl rfl rfl rfl Try.sizeOf79 rfl ?_)
            intro w145 hO146
            have hI147 := hO146.pick [3, 0, 0, 1, 1, 1] rfl
            refine ⟨hI147, ?_⟩
            refine HP.done (EW.then (?_))
            refine CW.seq ?_
            refine CW.seq ?_
            refine CW.region ?_
            refine LW.value (.free rfl) rfl (fun _ r => R.fieldAddr (k := 0) (r.e rfl) Try.runUnderlying36 rfl Try.sizeOf3 rfl) ?_
            refine LW.value (.free rfl) rfl (fun _ r => R.load1 (r.e rfl) Try.isAgg3 (hO146.cell (i := 5) rfl rfl)) ?_
            refine LW.nil (EW.then (?_))
            refine CW.block ?_
            refine CW.seq ?_
            refine CW.region ?_
            refine LW.value (.free rfl) rfl (fun _ r => R.eql (r.e rfl) (r.e rfl)) ?_
            refine LW.value (.free rfl) rfl (fun _ r => R.assign (r.e rfl)) ?_
            refine LW.nil (EW.then (?_))
            by_cases h148 : d = 1
            · -- d = 1
              refine CW.yes (kb (dT h148)) ?_
              refine CW.region ?_
              refine LW.value (.free rfl) rfl (fun _ r => R.fieldAddr (k := 1) (r.e rfl) Try.runUnderlying79 rfl Try.sizeOf32 rfl) ?_
              refine LW.op (.free rfl) (OW.store (i := 2) rfl hO146 rfl rfl rfl rfl Try.sizeOf32 rfl ?_)
              intro w149 hO150
              refine LW.nil (EW.inB_normal (EW.then (?_)))
              refine CW.seq ?_
              refine HP.start (I := fun w' => Own w' [G, [(b131, .cells #[.int .i64 x139.h, .slice none 0 0, .int .i64 x139.pins] 79 (0, 0))], [(b9, .cells #[.int .i64 ((ansT L d h off n).1), .int .i64 ((ansT L d h off n).2.1)] 39 (0, 0))], [(b4, .cells #[.int .i64 code, .int .i64 num] 39 (0, 0))], [(b1, .cells #[.int .i64 d, .int .i64 h, .int .i64 off, .int .i64 n] 36 (0, 0))], F]) (.take 0 (.take 1 (.take 2 (.take 3 (.take 5 (.one 4 (.one 6 (.take 7 (.take 8 (.one 9 (.done))))))))))) Try.mixed (by intro c d v a w h; cases d <;> exact h) hO150 (by kernel_rfl) ?_
              intro w151 hO152
              have hI153 := hO152.pick [1, 1, 1, 1, 1, 1] rfl
              refine HP.take rfl (.free rfl) rfl hI153 (fun _ r _ hI => R.move (r.e rfl)) ?_
              refine HP.take rfl (.free rfl) rfl hI153 (fun _ r _ hI => R.move (r.e rfl)) ?_
              refine HP.take rfl (.free rfl) rfl hI153 (fun _ r _ hI => R.nilCheck (r.e rfl)) ?_
              refine HP.take rfl (.free rfl) rfl hI153 (fun _ r _ hI => R.fieldAddr (k := 0) (r.e rfl) Try.runUnderlying34 rfl Try.sizeOf31 rfl) ?_
              refine HP.take rfl (.free rfl) rfl hI153 (fun _ r _ hI => R.loadn (vs := [.int .i64 x139.h, .slice none 0 0, .int .i64 x139.pins]) (r.e rfl) Try.isAgg79 Try.sizeOf79 rfl (hI.cells (i := 1) rfl rfl)) ?_
              refine HP.one rfl (.free rfl) (OW.value rfl (fun _ r => R.load1 (r.e rfl) Try.isAgg31 (hO152.cell (i := 0) rfl rfl)) ⟨hI153, ?_⟩)
              obtain ⟨X159, hX159⟩ : ∃ X : Thing, X = ⟨x139.h, none, 0, [], x139.pins⟩ := ⟨_, rfl⟩
              refine HP.one rfl (.free rfl) (OW.calls rfl (fun _ r => R.call (vs := [.slice aL nL cL, .agg #[.int .i64 x139.h, .slice none 0 0, .int .i64 x139.pins]]) Try.call32 rfl ⟨r.e rfl, r.e rfl, trivial⟩) (k_put2 _ _ _ _ _ L ⟨x139.h, none, 0, [], x139.pins⟩ _ _ hL hn (by simp) (hO152.frame [1] rfl)) ?_)
              rintro v154 w157 ⟨s155, hg156, hO158⟩
              replace hO158 := hO158.unframe2
              rw [← hX159] at hg156
              have hI160 := hO158.pick [1, 2, 2, 2, 2, 2] rfl
              refine ⟨hI160, ?_⟩
              refine HP.take rfl (.free rfl) rfl hI160 (fun _ r _ hI => R.nilCheck (r.e rfl)) ?_
              refine HP.take rfl (.free rfl) rfl hI160 (fun _ r _ hI => R.fieldAddr (k := 0) (r.e rfl) Try.runUnderlying34 rfl Try.sizeOf31 rfl) ?_
              refine HP.one rfl (.free rfl) (OW.store (i := 2) rfl hO158 rfl rfl rfl (Grow.one hg156) Try.sizeOf31 rfl ?_)
              intro w161 hO162
              have hI163 := hO162.pick [1, 2, 2, 2, 2, 2] rfl
              refine ⟨hI163, ?_⟩
              refine HP.done (EW.then (?_))
              refine CW.seq ?_
              refine CW.region ?_
              refine LW.value (.free rfl) rfl (fun _ r => R.assign (r.e rfl)) ?_
              refine LW.nil (EW.then (?_))
              refine CW.ret ?_
              refine EW.ret1 rfl rfl ?_
              have hbs : Sl G 1 encI X159.a X159.b.length X159.c X159.b := by subst hX159; first | exact Sl.nil | exact hB x139 (List.mem_of_getElem? hx140)
              have hK2 := hK
              have hpx := hK.P_ _ (List.mem_of_getElem? hx140)
              obtain ⟨a', n', c', rfl, hK3⟩ := hK2.put hg156 hbs (by subst hX159; simp; omega)
              refine ⟨a', aT, n', c', nT, cT, _, _, s155, ?_, by simpa using hK3, ?_, ((hO162.pick [2, 0, 0, 4] rfl).perm' (by simp)).heap rfl⟩
              all_goals rw [tryP_ok (T := T) h14 h15 h16 hf141]
              · rw [putT_p, show X159.p = chgP d off n x139.p from by subst hX159; simp [chgP, Thing.p, h148, byte_tmod]]
            · -- not: d = 1
              refine CW.no (kb (dF h148)) ?_
              refine CW.seq ?_
              refine CW.region ?_
              refine LW.value (.free rfl) rfl (fun _ r => R.eql (r.e rfl) (r.e rfl)) ?_
              refine LW.value (.free rfl) rfl (fun _ r => R.assign (r.e rfl)) ?_
              refine LW.nil (EW.then (?_))
              by_cases h164 : d = 3
              · -- d = 3
                refine CW.yes (kb (dT h164)) ?_
                refine CW.seq ?_
                refine CW.region ?_
                refine LW.value (.free rfl) rfl (fun _ r => R.assign (r.e rfl)) ?_
                refine LW.nil (EW.then (?_))
                refine CW.seq ?_
                refine CW.region ?_
                refine LW.value (.free rfl) rfl (fun _ r => R.move (r.e rfl)) ?_
                refine LW.value (.free rfl) rfl (fun _ r => R.fieldAddr (k := 1) (r.e rfl) Try.runUnderlying79 rfl Try.sizeOf32 rfl) ?_
                refine LW.value (.free rfl) rfl (fun _ r => R.load1 (r.e rfl) Try.isAgg32 (hO146.cell (i := 2) rfl rfl)) ?_
                have hO165 := hO146.nil
                have hO166 := hO165.move [0] rfl
                refine LW.op (.free rfl) (OW.append (xs := []) (ys := x139.b) elem29 rfl hO166 rfl rfl Grow.start (fun _ _ => rfl) (fun _ _ => rfl) ((hB _ (List.mem_of_getElem? hx140)).hlen) (fun hne => let ⟨b, off, e, hc⟩ := (hB _ (List.mem_of_getElem? hx140)).cells (fun _ _ => rfl) hne; ⟨b, off, e, fun j u hj => hO166.pc (i := 2) rfl (hc j u hj)⟩) (by simp; omega) (by simp; omega) (by decide) ?_)
                intro v167 s168 w169 hO170 hg171
                change Grow _ _ _ _ _ x139.b at hg171
                refine LW.value (.free rfl) rfl (fun _ r => R.assign (r.e rfl)) ?_
                refine LW.nil (EW.then (?_))
                refine CW.seq ?_
                refine CW.region ?_
                refine LW.value (.free rfl) rfl (fun _ r => R.move (r.e rfl)) ?_
                refine LW.value (.free rfl) rfl (fun _ r => R.fieldAddr (k := 2) (r.e rfl) Try.runUnderlying36 rfl Try.sizeOf3 rfl) ?_
                refine LW.value (.free rfl) rfl (fun _ r => R.load1 (r.e rfl) Try.isAgg3 (hO170.cell (i := 6) rfl rfl)) ?_
                refine LW.value (.free rfl) rfl (fun _ r => R.fieldAddr (k := 3) (r.e rfl) Try.runUnderlying36 rfl Try.sizeOf3 rfl) ?_
                refine LW.value (.free rfl) rfl (fun _ r => R.load1 (r.e rfl) Try.isAgg3 (hO170.cell (i := 6) rfl rfl)) ?_
                refine LW.value (.free rfl) rfl (fun _ r => R.rem (r.e rfl) (r.e rfl) (by omega)) ?_
                refine LW.value (.free rfl) rfl (fun _ r => R.as (R.add (r.e rfl) (r.e rfl)) (congrArg (Value.int .i64) (wrap_i64 (by omega) (by omega)))) ?_
                refine LW.value (.free rfl) rfl (fun _ r => R.rem (r.e rfl) (r.e rfl) (by omega)) ?_
                have hl177 : off.toNat < x139.b.length := by (try simp only [List.length_append]); omega
                obtain ⟨b172, cap173, rest174, rfl, rfl, hc175, hc176⟩ := Grow.got hg171 (by omega)
                refine LW.value (.free rfl) rfl (fun _ r => R.indexAddr (k := off.toNat) (r.e rfl) (r.e rfl) Try.runUnderlying32 Try.sizeOf3 (by omega) (by omega) (by simp)) ?_
                refine LW.op (.free rfl) (OW.store (i := 0) rfl hO170 rfl rfl rfl rfl Try.sizeOf3 (by simp only [Nat.blt_eq, List.size_toArray, List.length_append, flat_length (enc := encI) (sz := 1) (fun _ _ => rfl)]; omega) ?_)
                intro w178 hO179
                have hg180 := Grow.set (E := 3) (enc1 := Value.int .i64) (b := b172) (y := (n.tmod 256 + 256).tmod 256) hl177 hc175 hc176
                refine LW.nil (EW.then (?_))
                refine CW.region ?_
                refine LW.value (.free rfl) rfl (fun _ r => R.move (r.e rfl)) ?_
                refine LW.value (.free rfl) rfl (fun _ r => R.fieldAddr (k := 1) (r.e rfl) Try.runUnderlying79 rfl Try.sizeOf32 rfl) ?_
                refine LW.op (.free rfl) (OW.store (i := 3) rfl hO179 rfl rfl rfl (Grow.one hg180) Try.sizeOf32 rfl ?_)
                intro w181 hO182
                refine LW.nil (EW.inB_normal (EW.then (?_)))
                refine CW.seq ?_
                refine HP.start (I := fun w' => Own w' [[(b172, .cells ((x139.b.flatMap encI ++ rest174).toArray.setIfInBounds off.toNat (.int .i64 ((n.tmod 256 + 256).tmod 256))) 3 (0, 0))], G, [(b131, .cells #[.int .i64 x139.h, (.slice (some ⟨b172, 0, none⟩) x139.b.length cap173), .int .i64 x139.pins] 79 (0, 0))], [(b9, .cells #[.int .i64 ((ansT L d h off n).1), .int .i64 ((ansT L d h off n).2.1)] 39 (0, 0))], [(b4, .cells #[.int .i64 code, .int .i64 num] 39 (0, 0))], [(b1, .cells #[.int .i64 d, .int .i64 h, .int .i64 off, .int .i64 n] 36 (0, 0))], F]) (.take 0 (.take 1 (.take 2 (.take 3 (.take 5 (.one 4 (.one 6 (.take 7 (.take 8 (.one 9 (.done))))))))))) Try.mixed (by intro c d v a w h; cases d <;> exact h) hO182 (by kernel_rfl) ?_
                intro w183 hO184
                have hI185 := hO184.pick [0, 1, 1, 1, 1, 1, 1] rfl
                refine HP.take rfl (.free rfl) rfl hI185 (fun _ r _ hI => R.move (r.e rfl)) ?_
                refine HP.take rfl (.free rfl) rfl hI185 (fun _ r _ hI => R.move (r.e rfl)) ?_
                refine HP.take rfl (.free rfl) rfl hI185 (fun _ r _ hI => R.nilCheck (r.e rfl)) ?_
                refine HP.take rfl (.free rfl) rfl hI185 (fun _ r _ hI => R.fieldAddr (k := 0) (r.e rfl) Try.runUnderlying34 rfl Try.sizeOf31 rfl) ?_
                refine HP.take rfl (.free rfl) rfl hI185 (fun _ r _ hI => R.loadn (vs := [.int .i64 x139.h, (.slice (some ⟨b172, 0, none⟩) x139.b.length cap173), .int .i64 x139.pins]) (r.e rfl) Try.isAgg79 Try.sizeOf79 rfl (hI.cells (i := 2) rfl rfl)) ?_
                refine HP.one rfl (.free rfl) (OW.value rfl (fun _ r => R.load1 (r.e rfl) Try.isAgg31 (hO184.cell (i := 1) rfl rfl)) ⟨hI185, ?_⟩)
                have hs186 : Sl ([(b172, .cells ((x139.b.flatMap encI ++ rest174).toArray.setIfInBounds off.toNat (.int .i64 ((n.tmod 256 + 256).tmod 256))) 3 (0, 0))]) 1 encI (some ⟨b172, 0, none⟩) (x139.b.set off.toNat ((n.tmod 256 + 256).tmod 256)).length cap173 (x139.b.set off.toNat ((n.tmod 256 + 256).tmod 256)) := Grow.shut1 hg180
                obtain ⟨X192, hX192⟩ : ∃ X : Thing, X = ⟨x139.h, some ⟨b172, 0, none⟩, cap173, (x139.b.set off.toNat ((n.tmod 256 + 256).tmod 256)), x139.pins⟩ := ⟨_, rfl⟩
                refine HP.one rfl (.free rfl) (OW.calls rfl (fun _ r => R.call (vs := [.slice aL nL cL, .agg #[.int .i64 x139.h, (.slice (some ⟨b172, 0, none⟩) x139.b.length cap173), .int .i64 x139.pins]]) Try.call32 rfl ⟨r.e rfl, r.e rfl, trivial⟩) (k_put2 _ _ _ _ _ L ⟨x139.h, some ⟨b172, 0, none⟩, cap173, (x139.b.set off.toNat ((n.tmod 256 + 256).tmod 256)), x139.pins⟩ _ _ hL hn (by simp) (hO184.frame [2] rfl)) ?_)
                rintro v187 w190 ⟨s188, hg189, hO191⟩
                replace hO191 := hO191.unframe2
                rw [← hX192] at hg189
                have hI193 := hO191.pick [2, 1, 2, 2, 2, 2, 2] rfl
                refine ⟨hI193, ?_⟩
                refine HP.take rfl (.free rfl) rfl hI193 (fun _ r _ hI => R.nilCheck (r.e rfl)) ?_
                refine HP.take rfl (.free rfl) rfl hI193 (fun _ r _ hI => R.fieldAddr (k := 0) (r.e rfl) Try.runUnderlying34 rfl Try.sizeOf31 rfl) ?_
                refine HP.one rfl (.free rfl) (OW.store (i := 3) rfl hO191 rfl rfl rfl (Grow.one hg189) Try.sizeOf31 rfl ?_)
                intro w194 hO195
                have hI196 := hO195.pick [2, 1, 2, 2, 2, 2, 2] rfl
                refine ⟨hI196, ?_⟩
                refine HP.done (EW.then (?_))
                refine CW.seq ?_
                refine CW.region ?_
                refine LW.value (.free rfl) rfl (fun _ r => R.assign (r.e rfl)) ?_
                refine LW.nil (EW.then (?_))
                refine CW.ret ?_
                refine EW.ret1 rfl rfl ?_
                have hbs : Sl ([(b172, .cells ((x139.b.flatMap encI ++ rest174).toArray.setIfInBounds off.toNat (.int .i64 ((n.tmod 256 + 256).tmod 256))) 3 (0, 0))] ++ G) 1 encI X192.a X192.b.length X192.c X192.b := by subst hX192; exact hs186.mono (fun p hp => List.mem_append_left _ hp)
                have hK2 := hK.mono (G' := [(b172, .cells ((x139.b.flatMap encI ++ rest174).toArray.setIfInBounds off.toNat (.int .i64 ((n.tmod 256 + 256).tmod 256))) 3 (0, 0))] ++ G) (fun p hp => List.mem_append_right _ hp)
                have hpx := hK.P_ _ (List.mem_of_getElem? hx140)
                obtain ⟨a', n', c', rfl, hK3⟩ := hK2.put hg189 hbs (by subst hX192; simp; omega)
                refine ⟨a', aT, n', c', nT, cT, _, _, s188 ++ [(b172, .cells ((x139.b.flatMap encI ++ rest174).toArray.setIfInBounds off.toNat (.int .i64 ((n.tmod 256 + 256).tmod 256))) 3 (0, 0))], ?_, by simpa using hK3, ?_, ((hO195.pick [3, 0, 1, 0, 4] rfl).perm' (by simp)).heap rfl⟩
                all_goals rw [tryP_ok (T := T) h14 h15 h16 hf141]
                · rw [putT_p, show X192.p = chgP d off n x139.p from by subst hX192; simp [chgP, Thing.p, h148, h164, byte_tmod]]
              · -- not: d = 3
                refine CW.no (kb (dF h164)) ?_
                refine CW.seq ?_
                refine CW.region ?_
                refine LW.value (.free rfl) rfl (fun _ r => R.eql (r.e rfl) (r.e rfl)) ?_
                refine LW.value (.free rfl) rfl (fun _ r => R.assign (r.e rfl)) ?_
                refine LW.nil (EW.then (?_))
                by_cases h197 : d = 4
                · -- d = 4
                  refine CW.yes (kb (dT h197)) ?_
                  refine CW.region ?_
                  refine LW.value (.free rfl) rfl (fun _ r => R.fieldAddr (k := 2) (r.e rfl) Try.runUnderlying79 rfl Try.sizeOf3 rfl) ?_
                  refine LW.value (.free rfl) rfl (fun _ r => R.load1 (r.e rfl) Try.isAgg3 (hO146.cell (i := 2) rfl rfl)) ?_
                  refine LW.value (.free rfl) rfl (fun _ r => R.as (R.add (r.e rfl) (r.e rfl)) (congrArg (Value.int .i64) (wrap_i64 (by omega) (by omega)))) ?_
                  refine LW.value (.free rfl) rfl (fun _ r => R.fieldAddr (k := 2) (r.e rfl) Try.runUnderlying79 rfl Try.sizeOf3 rfl) ?_
                  refine LW.op (.free rfl) (OW.store (i := 2) rfl hO146 rfl rfl rfl rfl Try.sizeOf3 rfl ?_)
                  intro w198 hO199
                  refine LW.nil (EW.inB_normal (EW.then (?_)))
                  refine CW.seq ?_
                  refine HP.start (I := fun w' => Own w' [G, [(b131, .cells #[.int .i64 x139.h, .slice x139.a x139.b.length x139.c, .int .i64 (x139.pins + 1)] 79 (0, 0))], [(b9, .cells #[.int .i64 ((ansT L d h off n).1), .int .i64 ((ansT L d h off n).2.1)] 39 (0, 0))], [(b4, .cells #[.int .i64 code, .int .i64 num] 39 (0, 0))], [(b1, .cells #[.int .i64 d, .int .i64 h, .int .i64 off, .int .i64 n] 36 (0, 0))], F]) (.take 0 (.take 1 (.take 2 (.take 3 (.take 5 (.one 4 (.one 6 (.take 7 (.take 8 (.one 9 (.done))))))))))) Try.mixed (by intro c d v a w h; cases d <;> exact h) hO199 (by kernel_rfl) ?_
                  intro w200 hO201
                  have hI202 := hO201.pick [1, 1, 1, 1, 1, 1] rfl
                  refine HP.take rfl (.free rfl) rfl hI202 (fun _ r _ hI => R.move (r.e rfl)) ?_
                  refine HP.take rfl (.free rfl) rfl hI202 (fun _ r _ hI => R.move (r.e rfl)) ?_
                  refine HP.take rfl (.free rfl) rfl hI202 (fun _ r _ hI => R.nilCheck (r.e rfl)) ?_
                  refine HP.take rfl (.free rfl) rfl hI202 (fun _ r _ hI => R.fieldAddr (k := 0) (r.e rfl) Try.runUnderlying34 rfl Try.sizeOf31 rfl) ?_
                  refine HP.take rfl (.free rfl) rfl hI202 (fun _ r _ hI => R.loadn (vs := [.int .i64 x139.h, .slice x139.a x139.b.length x139.c, .int .i64 (x139.pins + 1)]) (r.e rfl) Try.isAgg79 Try.sizeOf79 rfl (hI.cells (i := 1) rfl rfl)) ?_
                  refine HP.one rfl (.free rfl) (OW.value rfl (fun _ r => R.load1 (r.e rfl) Try.isAgg31 (hO201.cell (i := 0) rfl rfl)) ⟨hI202, ?_⟩)
                  obtain ⟨X208, hX208⟩ : ∃ X : Thing, X = ⟨x139.h, x139.a, x139.c, x139.b, x139.pins + 1⟩ := ⟨_, rfl⟩
                  refine HP.one rfl (.free rfl) (OW.calls rfl (fun _ r => R.call (vs := [.slice aL nL cL, .agg #[.int .i64 x139.h, .slice x139.a x139.b.length x139.c, .int .i64 (x139.pins + 1)]]) Try.call32 rfl ⟨r.e rfl, r.e rfl, trivial⟩) (k_put2 _ _ _ _ _ L ⟨x139.h, x139.a, x139.c, x139.b, x139.pins + 1⟩ _ _ hL hn (by simp) (hO201.frame [1] rfl)) ?_)
                  rintro v203 w206 ⟨s204, hg205, hO207⟩
                  replace hO207 := hO207.unframe2
                  rw [← hX208] at hg205
                  have hI209 := hO207.pick [1, 2, 2, 2, 2, 2] rfl
                  refine ⟨hI209, ?_⟩
                  refine HP.take rfl (.free rfl) rfl hI209 (fun _ r _ hI => R.nilCheck (r.e rfl)) ?_
                  refine HP.take rfl (.free rfl) rfl hI209 (fun _ r _ hI => R.fieldAddr (k := 0) (r.e rfl) Try.runUnderlying34 rfl Try.sizeOf31 rfl) ?_
                  refine HP.one rfl (.free rfl) (OW.store (i := 2) rfl hO207 rfl rfl rfl (Grow.one hg205) Try.sizeOf31 rfl ?_)
                  intro w210 hO211
                  have hI212 := hO211.pick [1, 2, 2, 2, 2, 2] rfl
                  refine ⟨hI212, ?_⟩
                  refine HP.done (EW.then (?_))
                  refine CW.seq ?_
                  refine CW.region ?_
                  refine LW.value (.free rfl) rfl (fun _ r => R.assign (r.e rfl)) ?_
                  refine LW.nil (EW.then (?_))
                  refine CW.ret ?_
                  refine EW.ret1 rfl rfl ?_
                  have hbs : Sl G 1 encI X208.a X208.b.length X208.c X208.b := by subst hX208; first | exact Sl.nil | exact hB x139 (List.mem_of_getElem? hx140)
                  have hK2 := hK
                  have hpx := hK.P_ _ (List.mem_of_getElem? hx140)
                  obtain ⟨a', n', c', rfl, hK3⟩ := hK2.put hg205 hbs (by subst hX208; simp; omega)
                  refine ⟨a', aT, n', c', nT, cT, _, _, s204, ?_, by simpa using hK3, ?_, ((hO211.pick [2, 0, 0, 4] rfl).perm' (by simp)).heap rfl⟩
                  all_goals rw [tryP_ok (T := T) h14 h15 h16 hf141]
                  · rw [putT_p, show X208.p = chgP d off n x139.p from by subst hX208; simp [chgP, Thing.p, h148, h164, h197, byte_tmod]]
                · -- not: d = 4
                  refine CW.no (kb (dF h197)) ?_
                  refine CW.seq ?_
                  refine CW.region ?_
                  refine LW.value (.free rfl) rfl (fun _ r => R.eql (r.e rfl) (r.e rfl)) ?_
                  refine LW.value (.free rfl) rfl (fun _ r => R.assign (r.e rfl)) ?_
                  refine LW.nil (EW.then (?_))
                  by_cases h213 : d = 5
                  · -- d = 5
                    refine CW.yes (kb (dT h213)) ?_
                    refine CW.region ?_
                    refine LW.value (.free rfl) rfl (fun _ r => R.fieldAddr (k := 2) (r.e rfl) Try.runUnderlying79 rfl Try.sizeOf3 rfl) ?_
                    refine LW.value (.free rfl) rfl (fun _ r => R.load1 (r.e rfl) Try.isAgg3 (hO146.cell (i := 2) rfl rfl)) ?_
                    refine LW.value (.free rfl) rfl (fun _ r => R.as (R.sub (r.e rfl) (r.e rfl)) (congrArg (Value.int .i64) (wrap_i64 (by omega) (by omega)))) ?_
                    refine LW.value (.free rfl) rfl (fun _ r => R.fieldAddr (k := 2) (r.e rfl) Try.runUnderlying79 rfl Try.sizeOf3 rfl) ?_
                    refine LW.op (.free rfl) (OW.store (i := 2) rfl hO146 rfl rfl rfl rfl Try.sizeOf3 rfl ?_)
                    intro w214 hO215
                    refine LW.nil (EW.inB_normal (EW.then (?_)))
                    refine CW.seq ?_
                    refine HP.start (I := fun w' => Own w' [G, [(b131, .cells #[.int .i64 x139.h, .slice x139.a x139.b.length x139.c, .int .i64 (x139.pins - 1)] 79 (0, 0))], [(b9, .cells #[.int .i64 ((ansT L d h off n).1), .int .i64 ((ansT L d h off n).2.1)] 39 (0, 0))], [(b4, .cells #[.int .i64 code, .int .i64 num] 39 (0, 0))], [(b1, .cells #[.int .i64 d, .int .i64 h, .int .i64 off, .int .i64 n] 36 (0, 0))], F]) (.take 0 (.take 1 (.take 2 (.take 3 (.take 5 (.one 4 (.one 6 (.take 7 (.take 8 (.one 9 (.done))))))))))) Try.mixed (by intro c d v a w h; cases d <;> exact h) hO215 (by kernel_rfl) ?_
                    intro w216 hO217
                    have hI218 := hO217.pick [1, 1, 1, 1, 1, 1] rfl
                    refine HP.take rfl (.free rfl) rfl hI218 (fun _ r _ hI => R.move (r.e rfl)) ?_
                    refine HP.take rfl (.free rfl) rfl hI218 (fun _ r _ hI => R.move (r.e rfl)) ?_
                    refine HP.take rfl (.free rfl) rfl hI218 (fun _ r _ hI => R.nilCheck (r.e rfl)) ?_
                    refine HP.take rfl (.free rfl) rfl hI218 (fun _ r _ hI => R.fieldAddr (k := 0) (r.e rfl) Try.runUnderlying34 rfl Try.sizeOf31 rfl) ?_
                    refine HP.take rfl (.free rfl) rfl hI218 (fun _ r _ hI => R.loadn (vs := [.int .i64 x139.h, .slice x139.a x139.b.length x139.c, .int .i64 (x139.pins - 1)]) (r.e rfl) Try.isAgg79 Try.sizeOf79 rfl (hI.cells (i := 1) rfl rfl)) ?_
                    refine HP.one rfl (.free rfl) (OW.value rfl (fun _ r => R.load1 (r.e rfl) Try.isAgg31 (hO217.cell (i := 0) rfl rfl)) ⟨hI218, ?_⟩)
                    obtain ⟨X224, hX224⟩ : ∃ X : Thing, X = ⟨x139.h, x139.a, x139.c, x139.b, x139.pins - 1⟩ := ⟨_, rfl⟩
                    refine HP.one rfl (.free rfl) (OW.calls rfl (fun _ r => R.call (vs := [.slice aL nL cL, .agg #[.int .i64 x139.h, .slice x139.a x139.b.length x139.c, .int .i64 (x139.pins - 1)]]) Try.call32 rfl ⟨r.e rfl, r.e rfl, trivial⟩) (k_put2 _ _ _ _ _ L ⟨x139.h, x139.a, x139.c, x139.b, x139.pins - 1⟩ _ _ hL hn (by simp) (hO217.frame [1] rfl)) ?_)
                    rintro v219 w222 ⟨s220, hg221, hO223⟩
                    replace hO223 := hO223.unframe2
                    rw [← hX224] at hg221
                    have hI225 := hO223.pick [1, 2, 2, 2, 2, 2] rfl
                    refine ⟨hI225, ?_⟩
                    refine HP.take rfl (.free rfl) rfl hI225 (fun _ r _ hI => R.nilCheck (r.e rfl)) ?_
                    refine HP.take rfl (.free rfl) rfl hI225 (fun _ r _ hI => R.fieldAddr (k := 0) (r.e rfl) Try.runUnderlying34 rfl Try.sizeOf31 rfl) ?_
                    refine HP.one rfl (.free rfl) (OW.store (i := 2) rfl hO223 rfl rfl rfl (Grow.one hg221) Try.sizeOf31 rfl ?_)
                    intro w226 hO227
                    have hI228 := hO227.pick [1, 2, 2, 2, 2, 2] rfl
                    refine ⟨hI228, ?_⟩
                    refine HP.done (EW.then (?_))
                    refine CW.seq ?_
                    refine CW.region ?_
                    refine LW.value (.free rfl) rfl (fun _ r => R.assign (r.e rfl)) ?_
                    refine LW.nil (EW.then (?_))
                    refine CW.ret ?_
                    refine EW.ret1 rfl rfl ?_
                    have hbs : Sl G 1 encI X224.a X224.b.length X224.c X224.b := by subst hX224; first | exact Sl.nil | exact hB x139 (List.mem_of_getElem? hx140)
                    have hK2 := hK
                    have hpx := hK.P_ _ (List.mem_of_getElem? hx140)
                    obtain ⟨a', n', c', rfl, hK3⟩ := hK2.put hg221 hbs (by subst hX224; simp; omega)
                    refine ⟨a', aT, n', c', nT, cT, _, _, s220, ?_, by simpa using hK3, ?_, ((hO227.pick [2, 0, 0, 4] rfl).perm' (by simp)).heap rfl⟩
                    all_goals rw [tryP_ok (T := T) h14 h15 h16 hf141]
                    · rw [putT_p, show X224.p = chgP d off n x139.p from by subst hX224; simp [chgP, Thing.p, h148, h164, h197, h213, byte_tmod]]
                  · -- not: d = 5
                    refine CW.no (kb (dF h213)) ?_
                    refine CW.skip (EW.inB_normal (EW.then (?_)))
                    refine CW.seq ?_
                    refine HP.start (I := fun w' => Own w' [G, [(b131, .cells #[.int .i64 x139.h, .slice x139.a x139.b.length x139.c, .int .i64 x139.pins] 79 (0, 0))], [(b9, .cells #[.int .i64 ((ansT L d h off n).1), .int .i64 ((ansT L d h off n).2.1)] 39 (0, 0))], [(b4, .cells #[.int .i64 code, .int .i64 num] 39 (0, 0))], [(b1, .cells #[.int .i64 d, .int .i64 h, .int .i64 off, .int .i64 n] 36 (0, 0))], F]) (.take 0 (.take 1 (.take 2 (.take 3 (.take 5 (.one 4 (.one 6 (.take 7 (.take 8 (.one 9 (.done))))))))))) Try.mixed (by intro c d v a w h; cases d <;> exact h) hO146 (by kernel_rfl) ?_
                    intro w229 hO230
                    have hI231 := hO230.pick [1, 1, 1, 1, 1, 1] rfl
                    refine HP.take rfl (.free rfl) rfl hI231 (fun _ r _ hI => R.move (r.e rfl)) ?_
                    refine HP.take rfl (.free rfl) rfl hI231 (fun _ r _ hI => R.move (r.e rfl)) ?_
                    refine HP.take rfl (.free rfl) rfl hI231 (fun _ r _ hI => R.nilCheck (r.e rfl)) ?_
                    refine HP.take rfl (.free rfl) rfl hI231 (fun _ r _ hI => R.fieldAddr (k := 0) (r.e rfl) Try.runUnderlying34 rfl Try.sizeOf31 rfl) ?_
                    refine HP.take rfl (.free rfl) rfl hI231 (fun _ r _ hI => R.loadn (vs := [.int .i64 x139.h, .slice x139.a x139.b.length x139.c, .int .i64 x139.pins]) (r.e rfl) Try.isAgg79 Try.sizeOf79 rfl (hI.cells (i := 1) rfl rfl)) ?_
                    refine HP.one rfl (.free rfl) (OW.value rfl (fun _ r => R.load1 (r.e rfl) Try.isAgg31 (hO230.cell (i := 0) rfl rfl)) ⟨hI231, ?_⟩)
                    obtain ⟨X237, hX237⟩ : ∃ X : Thing, X = ⟨x139.h, x139.a, x139.c, x139.b, x139.pins⟩ := ⟨_, rfl⟩
                    refine HP.one rfl (.free rfl) (OW.calls rfl (fun _ r => R.call (vs := [.slice aL nL cL, .agg #[.int .i64 x139.h, .slice x139.a x139.b.length x139.c, .int .i64 x139.pins]]) Try.call32 rfl ⟨r.e rfl, r.e rfl, trivial⟩) (k_put2 _ _ _ _ _ L ⟨x139.h, x139.a, x139.c, x139.b, x139.pins⟩ _ _ hL hn (by simp) (hO230.frame [1] rfl)) ?_)
                    rintro v232 w235 ⟨s233, hg234, hO236⟩
                    replace hO236 := hO236.unframe2
                    rw [← hX237] at hg234
                    have hI238 := hO236.pick [1, 2, 2, 2, 2, 2] rfl
                    refine ⟨hI238, ?_⟩
                    refine HP.take rfl (.free rfl) rfl hI238 (fun _ r _ hI => R.nilCheck (r.e rfl)) ?_
                    refine HP.take rfl (.free rfl) rfl hI238 (fun _ r _ hI => R.fieldAddr (k := 0) (r.e rfl) Try.runUnderlying34 rfl Try.sizeOf31 rfl) ?_
                    refine HP.one rfl (.free rfl) (OW.store (i := 2) rfl hO236 rfl rfl rfl (Grow.one hg234) Try.sizeOf31 rfl ?_)
                    intro w239 hO240
                    have hI241 := hO240.pick [1, 2, 2, 2, 2, 2] rfl
                    refine ⟨hI241, ?_⟩
                    refine HP.done (EW.then (?_))
                    refine CW.seq ?_
                    refine CW.region ?_
                    refine LW.value (.free rfl) rfl (fun _ r => R.assign (r.e rfl)) ?_
                    refine LW.nil (EW.then (?_))
                    refine CW.ret ?_
                    refine EW.ret1 rfl rfl ?_
                    have hbs : Sl G 1 encI X237.a X237.b.length X237.c X237.b := by subst hX237; first | exact Sl.nil | exact hB x139 (List.mem_of_getElem? hx140)
                    have hK2 := hK
                    have hpx := hK.P_ _ (List.mem_of_getElem? hx140)
                    obtain ⟨a', n', c', rfl, hK3⟩ := hK2.put hg234 hbs (by subst hX237; simp; omega)
                    refine ⟨a', aT, n', c', nT, cT, _, _, s233, ?_, by simpa using hK3, ?_, ((hO240.pick [2, 0, 0, 4] rfl).perm' (by simp)).heap rfl⟩
                    all_goals rw [tryP_ok (T := T) h14 h15 h16 hf141]
                    · rw [putT_p, show X237.p = chgP d off n x139.p from by subst hX237; simp [chgP, Thing.p, h148, h164, h197, h213, byte_tmod]]
      · -- not: code = 0
        refine CW.yes (kb (bN (dF h16))) ?_
        refine CW.seq ?_
        refine CW.region ?_
        refine LW.value (.free rfl) rfl (fun _ r => R.assign (r.e rfl)) ?_
        refine LW.nil (EW.then (?_))
        refine CW.ret (EW.then_ret (?_))
        refine EW.ret1 rfl rfl ?_
        exact ⟨aL, aT, nL, cL, nT, cT, L, T, [], by simp [tryP, ← ansT_p, h14, h15, h16], hK, by simp [tryP, ← ansT_p, h14, h15, h16], hO13.pick [1, 1, 3] rfl⟩
    · -- not: (ansT L d h off n).1 = code ∧ (ansT L d h off n).2.1 = num
      refine CW.yes (kb (bN (dF h15))) ?_
      refine CW.seq ?_
      refine CW.region ?_
      refine LW.value (.free rfl) rfl (fun _ r => R.assign (r.e rfl)) ?_
      refine LW.nil (EW.then (?_))
      refine CW.ret (EW.then_ret (?_))
      refine EW.ret1 rfl rfl ?_
      exact ⟨aL, aT, nL, cL, nT, cT, L, T, [], by simp [tryP, ← ansT_p, h14, h15], hK, by simp [tryP, ← ansT_p, h14, h15], hO13.pick [1, 1, 3] rfl⟩
  · -- not: (ansT L d h off n).2.2
    refine CW.yes (kb (bN h14)) ?_
    refine CW.seq ?_
    refine CW.seq ?_
    refine CW.region ?_
    refine LW.value (.free rfl) rfl (fun _ r => R.fieldAddr (k := 0) (r.e rfl) Try.runUnderlying39 rfl Try.sizeOf37 rfl) ?_
    refine LW.value (.free rfl) rfl (fun _ r => R.load1 (r.e rfl) Try.isAgg37 (hO13.cell (i := 3) rfl rfl)) ?_
    refine LW.value (.free rfl) rfl (fun _ r => R.eql (r.e rfl) (r.e rfl)) ?_
    refine LW.value (.free rfl) rfl (fun _ r => R.move (r.e rfl)) ?_
    by_cases h242 : code = 10
    · -- code = 10
      refine LW.off (.no rfl rfl (kb (dT h242))) rfl ?_
      refine LW.off (.no rfl rfl (kb (dT h242))) rfl ?_
      refine LW.off (.no rfl rfl (kb (dT h242))) rfl ?_
      refine LW.value (.free rfl) rfl (fun _ r => R.pick_yes (r.e (kb (dT h242))) (r.e rfl)) ?_
      refine LW.nil (EW.then (?_))
      refine CW.yes rfl ?_
      refine CW.seq ?_
      refine CW.region ?_
      refine LW.value (.free rfl) rfl (fun _ r => R.fieldAddr (k := 1) (r.e rfl) Try.runUnderlying39 rfl Try.sizeOf3 rfl) ?_
      refine LW.value (.free rfl) rfl (fun _ r => R.load1 (r.e rfl) Try.isAgg3 (hO13.cell (i := 3) rfl rfl)) ?_
      refine LW.value (.free rfl) rfl (fun _ r => R.eql (r.e rfl) (r.e rfl)) ?_
      refine LW.value (.free rfl) rfl (fun _ r => R.assign (r.e rfl)) ?_
      refine LW.nil (EW.then (?_))
      refine CW.ret (EW.then_ret (EW.then_ret (?_)))
      refine EW.ret1 rfl rfl ?_
      exact ⟨aL, aT, nL, cL, nT, cT, L, T, [], by simp [tryP, ← ansT_p, h14, h242], hK, by simp [tryP, ← ansT_p, h14, h242], hO13.pick [1, 1, 3] rfl⟩
    · -- not: code = 10
      refine LW.value (.yes rfl rfl (kb (dF h242))) rfl (fun _ r => R.fieldAddr (k := 0) (r.e rfl) Try.runUnderlying39 rfl Try.sizeOf37 rfl) ?_
      refine LW.value (.yes rfl rfl (kb (dF h242))) rfl (fun _ r => R.load1 (r.e rfl) Try.isAgg37 (hO13.cell (i := 3) rfl rfl)) ?_
      refine LW.value (.yes rfl rfl (kb (dF h242))) rfl (fun _ r => R.eql (r.e rfl) (r.e rfl)) ?_
      refine LW.value (.free rfl) rfl (fun _ r => R.pick_no (r.e (kb (dF h242))) (r.e rfl)) ?_
      refine LW.nil (EW.then (?_))
      by_cases h243 : code = 11
      · -- code = 11
        refine CW.yes (kb (dT h243)) ?_
        refine CW.seq ?_
        refine CW.region ?_
        refine LW.value (.free rfl) rfl (fun _ r => R.fieldAddr (k := 1) (r.e rfl) Try.runUnderlying39 rfl Try.sizeOf3 rfl) ?_
        refine LW.value (.free rfl) rfl (fun _ r => R.load1 (r.e rfl) Try.isAgg3 (hO13.cell (i := 3) rfl rfl)) ?_
        refine LW.value (.free rfl) rfl (fun _ r => R.eql (r.e rfl) (r.e rfl)) ?_
        refine LW.value (.free rfl) rfl (fun _ r => R.assign (r.e rfl)) ?_
        refine LW.nil (EW.then (?_))
        refine CW.ret (EW.then_ret (EW.then_ret (?_)))
        refine EW.ret1 rfl rfl ?_
        exact ⟨aL, aT, nL, cL, nT, cT, L, T, [], by simp [tryP, ← ansT_p, h14, h242, h243], hK, by simp [tryP, ← ansT_p, h14, h242, h243], hO13.pick [1, 1, 3] rfl⟩
      · -- not: code = 11
        refine CW.no (kb (dF h243)) ?_
        refine CW.skip (EW.then (?_))
        refine CW.seq ?_
        refine CW.seq ?_
        refine CW.region ?_
        refine LW.value (.free rfl) rfl (fun _ r => R.fieldAddr (k := 0) (r.e rfl) Try.runUnderlying39 rfl Try.sizeOf37 rfl) ?_
        refine LW.value (.free rfl) rfl (fun _ r => R.load1 (r.e rfl) Try.isAgg37 (hO13.cell (i := 3) rfl rfl)) ?_
        refine LW.value (.free rfl) rfl (fun _ r => R.neq (r.e rfl) (r.e rfl)) ?_
        refine LW.value (.free rfl) rfl (fun _ r => R.move (r.e rfl)) ?_
        by_cases h244 : code = 0
        · -- code = 0
          refine LW.value (.yes rfl rfl (kb (bN (dT h244)))) rfl (fun _ r => R.move (r.e rfl)) ?_
          refine LW.value (.yes rfl rfl (kb (bN (dT h244)))) rfl (fun _ r => R.fieldAddr (k := 1) (r.e rfl) Try.runUnderlying39 rfl Try.sizeOf3 rfl) ?_
          refine LW.value (.yes rfl rfl (kb (bN (dT h244)))) rfl (fun _ r => R.load1 (r.e rfl) Try.isAgg3 (hO13.cell (i := 3) rfl rfl)) ?_
          refine LW.op (.yes rfl rfl (kb (bN (dT h244)))) (OW.calls rfl (fun _ r => R.call (vs := [.pointer (some ⟨k, 0, none⟩), .int .i64 num]) Try.call31 rfl ⟨r.e rfl, r.e rfl, trivial⟩) (k_tell k _ _ _ _ _ _ _ _ L T num _ hT hm (hO13.frame [1, 1] rfl)) ?_)
          rintro _ w245 (⟨rfl, hno246, hO247⟩ | ⟨rfl, hh248, hnew249, a250, n251, c252, s253, hs254, hO255⟩)
          ·
            replace hO247 := hO247.unframe2
            refine LW.value (.yes rfl rfl (kb (bN (dT h244)))) rfl (fun _ r => R.not (r.e rfl)) ?_
            refine LW.value (.free rfl) rfl (fun _ r => R.pick_no (r.e (kb (bN (dT h244)))) (r.e rfl)) ?_
            refine LW.nil (EW.then (?_))
            refine CW.yes rfl ?_
            refine CW.seq ?_
            refine CW.region ?_
            refine LW.value (.free rfl) rfl (fun _ r => R.assign (r.e rfl)) ?_
            refine LW.nil (EW.then (?_))
            refine CW.ret (EW.then_ret (EW.then_ret (?_)))
            refine EW.ret1 rfl rfl ?_
            exact ⟨aL, aT, nL, cL, nT, cT, L, T, [], by simp [tryP, ← ansT_p, h14, h242, h243, h244, hno246], hK, by simp [tryP, ← ansT_p, h14, h242, h243, h244, hno246], hO247.pick [0, 0, 3] rfl⟩
          ·
            replace hO255 := hO255.unframe2
            replace hK := hK.told hs254
            have hL := hK.L_
            have hB := hK.B_
            obtain ⟨f1, f2, f3⟩ := ansT_fresh h14
            refine LW.value (.yes rfl rfl (kb (bN (dT h244)))) rfl (fun _ r => R.not (r.e rfl)) ?_
            refine LW.value (.free rfl) rfl (fun _ r => R.pick_no (r.e (kb (bN (dT h244)))) (r.e rfl)) ?_
            refine LW.nil (EW.then (?_))
            refine CW.no rfl ?_
            refine CW.skip (EW.then (?_))
            refine CW.seq ?_
            refine HP.start (I := fun w' => Own w' [(s253 ++ G), [(b9, .cells #[.int .i64 ((ansT L d h off n).1), .int .i64 ((ansT L d h off n).2.1)] 39 (0, 0))], [(b4, .cells #[.int .i64 code, .int .i64 num] 39 (0, 0))], [(b1, .cells #[.int .i64 d, .int .i64 h, .int .i64 off, .int .i64 n] 36 (0, 0))], F]) (.take 0 (.take 1 (.take 2 (.take 3 (.take 5 (.take 6 (.take 7 (.take 8 (.two 4 9 (.one 9 (.take 10 (.one 11 (.take 12 (.take 13 (.one 14 (.done))))))) (.take 10 (.one 4 (.one 11 (.take 12 (.take 13 (.one 14 (.done)))))))))))))))) Try.mixed (by intro c d v a w h; cases d <;> exact h) hO255 (by kernel_rfl) ?_
            intro w256 hO257
            have hI258 := hO257.pick [1, 1, 1, 1, 1] rfl
            refine HP.take rfl (.free rfl) rfl hI258 (fun _ r _ hI => R.move (r.e rfl)) ?_
            refine HP.take rfl (.free rfl) rfl hI258 (fun _ r _ hI => R.move (r.e rfl)) ?_
            refine HP.take rfl (.free rfl) rfl hI258 (fun _ r _ hI => R.nilCheck (r.e rfl)) ?_
            refine HP.take rfl (.free rfl) rfl hI258 (fun _ r _ hI => R.fieldAddr (k := 0) (r.e rfl) Try.runUnderlying34 rfl Try.sizeOf31 rfl) ?_
            refine HP.take rfl (.free rfl) rfl hI258 (fun _ r _ hI => R.fieldAddr (k := 1) (r.e rfl) Try.runUnderlying39 rfl Try.sizeOf3 rfl) ?_
            refine HP.take rfl (.free rfl) rfl hI258 (fun _ r _ hI => R.load1 (r.e rfl) Try.isAgg3 (hI.cell (i := 2) rfl rfl)) ?_
            refine HP.take rfl (.free rfl) rfl hI258 (fun _ r _ hI => R.fieldAddr (k := 3) (r.e rfl) Try.runUnderlying36 rfl Try.sizeOf3 rfl) ?_
            refine HP.take rfl (.free rfl) rfl hI258 (fun _ r _ hI => R.load1 (r.e rfl) Try.isAgg3 (hI.cell (i := 3) rfl rfl)) ?_
            refine HP.two rfl rfl (.free rfl) (.free rfl) ?_ ?_
            ·
              refine OW.value rfl (fun _ r => R.load1 (r.e rfl) Try.isAgg31 (hO257.cell (i := 0) rfl rfl)) ⟨hI258, ?_⟩
              refine HP.one rfl (.free rfl) (OW.makeSlice (u := .int .i64 0) rfl hO257 elem29 rfl rfl (by omega) (by omega) (by omega) ?_)
              intro b259 w260 hO261
              have hI262 := hO261.pick [2, 2, 2, 2, 2] rfl
              refine ⟨hI262, ?_⟩
              refine HP.take rfl (.free rfl) rfl hI262 (fun _ r _ hI => R.build (v := .agg #[.int .i64 num, .slice (some ⟨b259, 0, none⟩) n.toNat n.toNat, .int .i64 0]) (vs := [(0, .int .i64 num), (1, .slice (some ⟨b259, 0, none⟩) n.toNat n.toNat)]) ⟨⟨r.e rfl, rfl⟩, ⟨r.e rfl, rfl⟩, trivial⟩ (by simp [go_sem])) ?_
              obtain ⟨X268, hX268⟩ : ∃ X : Thing, X = ⟨num, some ⟨b259, 0, none⟩, n.toNat, List.replicate n.toNat 0, 0⟩ := ⟨_, rfl⟩
              refine HP.one rfl (.free rfl) (OW.calls rfl (fun _ r => R.call (vs := [.slice aL nL cL, .agg #[.int .i64 num, .slice (some ⟨b259, 0, none⟩) n.toNat n.toNat, .int .i64 0]]) Try.call32 rfl ⟨r.e rfl, r.e rfl, trivial⟩) (k_put2 _ _ _ _ _ L ⟨num, some ⟨b259, 0, none⟩, n.toNat, List.replicate n.toNat 0, 0⟩ _ _ hL hn (by simp) (hO261.frame [2] rfl)) ?_)
              rintro v263 w266 ⟨s264, hg265, hO267⟩
              replace hO267 := hO267.unframe2
              rw [← hX268] at hg265
              have hI269 := hO267.pick [1, 3, 3, 3, 3] rfl
              refine ⟨hI269, ?_⟩
              refine HP.take rfl (.free rfl) rfl hI269 (fun _ r _ hI => R.nilCheck (r.e rfl)) ?_
              refine HP.take rfl (.free rfl) rfl hI269 (fun _ r _ hI => R.fieldAddr (k := 0) (r.e rfl) Try.runUnderlying34 rfl Try.sizeOf31 rfl) ?_
              refine HP.one rfl (.free rfl) (OW.store (i := 3) rfl hO267 rfl rfl rfl (Grow.one hg265) Try.sizeOf31 rfl ?_)
              intro w270 hO271
              have hI272 := hO271.pick [1, 3, 3, 3, 3] rfl
              refine ⟨hI272, ?_⟩
              refine HP.done (EW.then (?_))
              refine CW.seq ?_
              refine CW.region ?_
              refine LW.value (.free rfl) rfl (fun _ r => R.assign (r.e rfl)) ?_
              refine LW.nil (EW.then (?_))
              refine CW.ret (EW.then_ret (?_))
              refine EW.ret1 rfl rfl ?_
              have hbs : Sl ([(b259, .cells (List.replicate n.toNat (.int .i64 0)).toArray 3 (0, 0))] ++ (s253 ++ G)) 1 encI X268.a X268.b.length X268.c X268.b := by subst hX268; exact made_sl (by simp)
              have hK2 := hK.mono (G' := [(b259, .cells (List.replicate n.toNat (.int .i64 0)).toArray 3 (0, 0))] ++ (s253 ++ G)) (fun p hp => List.mem_append_right _ hp)
              obtain ⟨a', n', c', rfl, hK3⟩ := hK2.put hg265 hbs (by subst hX268; simp; omega)
              refine ⟨a', a250, n', c', n251, c252, _, _, s264 ++ ([(b259, .cells (List.replicate n.toNat (.int .i64 0)).toArray 3 (0, 0))] ++ s253), ?_, by simpa using hK3, ?_, ((hO271.pick [3, 0, 1, 0, 3] rfl).perm' (by simp)).heap rfl⟩
              all_goals rw [tryP_new (T := T) h14 h244 hh248 hnew249]
              · rw [putT_p]; subst hX268; rfl
            ·
              refine OW.makeSlice (u := .int .i64 0) rfl hO257 elem29 rfl rfl (by omega) (by omega) (by omega) ?_
              intro b273 w274 hO275
              have hI276 := hO275.pick [2, 2, 2, 2, 2] rfl
              refine ⟨hI276, ?_⟩
              refine HP.take rfl (.free rfl) rfl hI276 (fun _ r _ hI => R.build (v := .agg #[.int .i64 num, .slice (some ⟨b273, 0, none⟩) n.toNat n.toNat, .int .i64 0]) (vs := [(0, .int .i64 num), (1, .slice (some ⟨b273, 0, none⟩) n.toNat n.toNat)]) ⟨⟨r.e rfl, rfl⟩, ⟨r.e rfl, rfl⟩, trivial⟩ (by simp [go_sem])) ?_
              refine HP.one rfl (.free rfl) (OW.value rfl (fun _ r => R.load1 (r.e rfl) Try.isAgg31 (hO275.cell (i := 1) rfl rfl)) ⟨hI276, ?_⟩)
              obtain ⟨X282, hX282⟩ : ∃ X : Thing, X = ⟨num, some ⟨b273, 0, none⟩, n.toNat, List.replicate n.toNat 0, 0⟩ := ⟨_, rfl⟩
              refine HP.one rfl (.free rfl) (OW.calls rfl (fun _ r => R.call (vs := [.slice aL nL cL, .agg #[.int .i64 num, .slice (some ⟨b273, 0, none⟩) n.toNat n.toNat, .int .i64 0]]) Try.call32 rfl ⟨r.e rfl, r.e rfl, trivial⟩) (k_put2 _ _ _ _ _ L ⟨num, some ⟨b273, 0, none⟩, n.toNat, List.replicate n.toNat 0, 0⟩ _ _ hL hn (by simp) (hO275.frame [2] rfl)) ?_)
              rintro v277 w280 ⟨s278, hg279, hO281⟩
              replace hO281 := hO281.unframe2
              rw [← hX282] at hg279
              have hI283 := hO281.pick [1, 3, 3, 3, 3] rfl
              refine ⟨hI283, ?_⟩
              refine HP.take rfl (.free rfl) rfl hI283 (fun _ r _ hI => R.nilCheck (r.e rfl)) ?_
              refine HP.take rfl (.free rfl) rfl hI283 (fun _ r _ hI => R.fieldAddr (k := 0) (r.e rfl) Try.runUnderlying34 rfl Try.sizeOf31 rfl) ?_
              refine HP.one rfl (.free rfl) (OW.store (i := 3) rfl hO281 rfl rfl rfl (Grow.one hg279) Try.sizeOf31 rfl ?_)
              intro w284 hO285
              have hI286 := hO285.pick [1, 3, 3, 3, 3] rfl
              refine ⟨hI286, ?_⟩
              refine HP.done (EW.then (?_))
              refine CW.seq ?_
              refine CW.region ?_
              refine LW.value (.free rfl) rfl (fun _ r => R.assign (r.e rfl)) ?_
              refine LW.nil (EW.then (?_))
              refine CW.ret (EW.then_ret (?_))
              refine EW.ret1 rfl rfl ?_
              have hbs : Sl ([(b273, .cells (List.replicate n.toNat (.int .i64 0)).toArray 3 (0, 0))] ++ (s253 ++ G)) 1 encI X282.a X282.b.length X282.c X282.b := by subst hX282; exact made_sl (by simp)
              have hK2 := hK.mono (G' := [(b273, .cells (List.replicate n.toNat (.int .i64 0)).toArray 3 (0, 0))] ++ (s253 ++ G)) (fun p hp => List.mem_append_right _ hp)
              obtain ⟨a', n', c', rfl, hK3⟩ := hK2.put hg279 hbs (by subst hX282; simp; omega)
              refine ⟨a', a250, n', c', n251, c252, _, _, s278 ++ ([(b273, .cells (List.replicate n.toNat (.int .i64 0)).toArray 3 (0, 0))] ++ s253), ?_, by simpa using hK3, ?_, ((hO285.pick [3, 0, 1, 0, 3] rfl).perm' (by simp)).heap rfl⟩
              all_goals rw [tryP_new (T := T) h14 h244 hh248 hnew249]
              · rw [putT_p]; subst hX282; rfl
        · -- not: code = 0
          refine LW.off (.no rfl rfl (kb (bN (dF h244)))) rfl ?_
          refine LW.off (.no rfl rfl (kb (bN (dF h244)))) rfl ?_
          refine LW.off (.no rfl rfl (kb (bN (dF h244)))) rfl ?_
          refine LW.off (.no rfl rfl (kb (bN (dF h244)))) rfl ?_
          refine LW.off (.no rfl rfl (kb (bN (dF h244)))) rfl ?_
          refine LW.value (.free rfl) rfl (fun _ r => R.pick_yes (r.e (kb (bN (dF h244)))) (r.e rfl)) ?_
          refine LW.nil (EW.then (?_))
          refine CW.yes rfl ?_
          refine CW.seq ?_
          refine CW.region ?_
          refine LW.value (.free rfl) rfl (fun _ r => R.assign (r.e rfl)) ?_
          refine LW.nil (EW.then (?_))
          refine CW.ret (EW.then_ret (EW.then_ret (?_)))
          refine EW.ret1 rfl rfl ?_
          exact ⟨aL, aT, nL, cL, nT, cT, L, T, [], by simp [tryP, ← ansT_p, h14, h242, h243, h244], hK, by simp [tryP, ← ansT_p, h14, h242, h243, h244], hO13.pick [1, 1, 3] rfl⟩

set_option maxRecDepth 100000 in
set_option maxHeartbeats 400000 in
theorem k_copy (k : Nat) (G F : Seg) (aL aT : Option Addr) (nL cL nT cT : Nat) (L : List Thing) (T : List Int) (w : World) (hK : KAt G aL aT nL cL nT cT L T) (hn : L.length ≤ 1000000) (hm : T.length ≤ 1000000) (hO : Own w [[(k, .cells #[.slice aL nL cL, .slice aT nT cT] 34 (0, 0))], G, F]) : Calls Try.prog 37 [.pointer (some ⟨k, 0, none⟩)].toArray w (Ret fun v w' => ∃ b aL' aT' nL' cL' nT' cT' N, v = .pointer (some ⟨b, 0, none⟩) ∧ KAt (N ++ G) aL' aT' nL' cL' nT' cT' L T ∧ Own w' [[(k, .cells #[.slice aL nL cL, .slice aT nT cT] 34 (0, 0))], [(b, .cells #[.slice aL' nL' cL', .slice aT' nT' cT'] 34 (0, 0))], N ++ G, F]) := by
  have hL := hK.L_
  have hT := hK.T_
  refine enter (n := 31) Try.func37 rfl rfl rfl ?_
  refine CW.seq ?_
  refine CW.region ?_
  refine LW.value (.free rfl) rfl (fun _ r => R.assign (r.e rfl)) ?_
  refine LW.nil (EW.then (?_))
  refine CW.seq ?_
  refine CW.region ?_
  refine LW.value (.free rfl) rfl (fun _ r => R.build (v := .agg #[.slice none 0 0, .slice none 0 0]) (vs := []) trivial (by simp [go_sem])) ?_
  refine LW.op (.free rfl) (OW.box (cs := #[.slice none 0 0, .slice none 0 0]) rfl hO rfl rfl ?_)
  intro b1 w2 hO3
  refine LW.value (.free rfl) rfl (fun _ r => R.assign (r.e rfl)) ?_
  refine LW.nil (EW.then (?_))
  refine CW.seq ?_
  refine HP.start (I := fun w' => Own w' [[(k, .cells #[.slice aL nL cL, .slice aT nT cT] 34 (0, 0))], G]) (.take 0 (.take 1 (.take 2 (.take 3 (.take 5 (.take 6 (.take 7 (.take 8 (.one 4 (.one 9 (.take 10 (.take 11 (.one 12 (.done)))))))))))))) Try.mixed (by intro c d v a w h; cases d <;> exact h) hO3 (by kernel_rfl) ?_
  intro w4 hO5
  have hI6 := hO5.pick [1, 1] rfl
  refine HP.take rfl (.free rfl) rfl hI6 (fun _ r _ hI => R.move (r.e rfl)) ?_
  refine HP.take rfl (.free rfl) rfl hI6 (fun _ r _ hI => R.move (r.e rfl)) ?_
  refine HP.take rfl (.free rfl) rfl hI6 (fun _ r _ hI => R.nilCheck (r.e rfl)) ?_
  refine HP.take rfl (.free rfl) rfl hI6 (fun _ r _ hI => R.fieldAddr (k := 0) (r.e rfl) Try.runUnderlying34 rfl Try.sizeOf31 rfl) ?_
  refine HP.take rfl (.free rfl) rfl hI6 (fun _ r _ hI => R.move (r.e rfl)) ?_
  refine HP.take rfl (.free rfl) rfl hI6 (fun _ r _ hI => R.nilCheck (r.e rfl)) ?_
  refine HP.take rfl (.free rfl) rfl hI6 (fun _ r _ hI => R.fieldAddr (k := 0) (r.e rfl) Try.runUnderlying34 rfl Try.sizeOf31 rfl) ?_
  refine HP.take rfl (.free rfl) rfl hI6 (fun _ r _ hI => R.load1 (r.e rfl) Try.isAgg31 (hI.cell (i := 0) rfl rfl)) ?_
  refine HP.one rfl (.free rfl) (OW.value rfl (fun _ r => R.load1 (r.e rfl) Try.isAgg31 (hO5.cell (i := 0) rfl rfl)) ⟨hI6, ?_⟩)
  have hO7 := hO5.nil
  have hO8 := hO7.move [0] rfl
  refine HP.one rfl (.free rfl) (OW.append (xs := []) (ys := L) elem28 rfl hO8 rfl rfl Grow.start (fun _ _ => rfl) (fun _ _ => rfl) (hL.hlen) (fun hne => let ⟨b, off, e, hc⟩ := hL.cells (fun _ _ => rfl) hne; ⟨b, off, e, fun j u hj => hO8.pc (i := 3) rfl (hc j u hj)⟩) (by simp; omega) (by simp; omega) (by decide) ?_)
  intro v9 s10 w11 hO12 hg13
  change Grow _ _ _ _ _ L at hg13
  have hI14 := hO12.pick [2, 2] rfl
  refine ⟨hI14, ?_⟩
  refine HP.take rfl (.free rfl) rfl hI14 (fun _ r _ hI => R.nilCheck (r.e rfl)) ?_
  refine HP.take rfl (.free rfl) rfl hI14 (fun _ r _ hI => R.fieldAddr (k := 0) (r.e rfl) Try.runUnderlying34 rfl Try.sizeOf31 rfl) ?_
  refine HP.one rfl (.free rfl) (OW.store (i := 1) rfl hO12 rfl rfl rfl (Grow.one hg13) Try.sizeOf31 rfl ?_)
  intro w15 hO16
  have hI17 := hO16.pick [2, 2] rfl
  refine ⟨hI17, ?_⟩
  refine HP.done (EW.then (?_))
  refine CW.seq ?_
  refine HP.start (I := fun w' => Own w' [[(k, .cells #[.slice aL nL cL, .slice aT nT cT] 34 (0, 0))], G]) (.take 0 (.take 1 (.take 2 (.take 3 (.take 5 (.take 6 (.take 7 (.take 8 (.one 4 (.one 9 (.take 10 (.take 11 (.one 12 (.done)))))))))))))) Try.mixed (by intro c d v a w h; cases d <;> exact h) hO16 (by kernel_rfl) ?_
  intro w18 hO19
  have hI20 := hO19.pick [2, 2] rfl
  refine HP.take rfl (.free rfl) rfl hI20 (fun _ r _ hI => R.move (r.e rfl)) ?_
  refine HP.take rfl (.free rfl) rfl hI20 (fun _ r _ hI => R.move (r.e rfl)) ?_
  refine HP.take rfl (.free rfl) rfl hI20 (fun _ r _ hI => R.nilCheck (r.e rfl)) ?_
  refine HP.take rfl (.free rfl) rfl hI20 (fun _ r _ hI => R.fieldAddr (k := 1) (r.e rfl) Try.runUnderlying34 rfl Try.sizeOf32 rfl) ?_
  refine HP.take rfl (.free rfl) rfl hI20 (fun _ r _ hI => R.move (r.e rfl)) ?_
  refine HP.take rfl (.free rfl) rfl hI20 (fun _ r _ hI => R.nilCheck (r.e rfl)) ?_
  refine HP.take rfl (.free rfl) rfl hI20 (fun _ r _ hI => R.fieldAddr (k := 1) (r.e rfl) Try.runUnderlying34 rfl Try.sizeOf32 rfl) ?_
  refine HP.take rfl (.free rfl) rfl hI20 (fun _ r _ hI => R.load1 (r.e rfl) Try.isAgg32 (hI.cell (i := 0) rfl rfl)) ?_
  refine HP.one rfl (.free rfl) (OW.value rfl (fun _ r => R.load1 (r.e rfl) Try.isAgg32 (hO19.cell (i := 1) rfl rfl)) ⟨hI20, ?_⟩)
  have hO21 := hO19.nil
  have hO22 := hO21.move [0] rfl
  refine HP.one rfl (.free rfl) (OW.append (xs := []) (ys := T) elem29 rfl hO22 rfl rfl Grow.start (fun _ _ => rfl) (fun _ _ => rfl) (hT.hlen) (fun hne => let ⟨b, off, e, hc⟩ := hT.cells (fun _ _ => rfl) hne; ⟨b, off, e, fun j u hj => hO22.pc (i := 4) rfl (hc j u hj)⟩) (by simp; omega) (by simp; omega) (by decide) ?_)
  intro v23 s24 w25 hO26 hg27
  change Grow _ _ _ _ _ T at hg27
  have hI28 := hO26.pick [3, 3] rfl
  refine ⟨hI28, ?_⟩
  refine HP.take rfl (.free rfl) rfl hI28 (fun _ r _ hI => R.nilCheck (r.e rfl)) ?_
  refine HP.take rfl (.free rfl) rfl hI28 (fun _ r _ hI => R.fieldAddr (k := 1) (r.e rfl) Try.runUnderlying34 rfl Try.sizeOf32 rfl) ?_
  refine HP.one rfl (.free rfl) (OW.store (i := 2) rfl hO26 rfl rfl rfl (Grow.one hg27) Try.sizeOf32 rfl ?_)
  intro w29 hO30
  have hI31 := hO30.pick [3, 3] rfl
  refine ⟨hI31, ?_⟩
  refine HP.done (EW.then (?_))
  refine CW.seq ?_
  refine CW.region ?_
  refine LW.value (.free rfl) rfl (fun _ r => R.move (r.e rfl)) ?_
  refine LW.value (.free rfl) rfl (fun _ r => R.assign (r.e rfl)) ?_
  refine LW.nil (EW.then (?_))
  refine CW.ret ?_
  refine EW.ret1 rfl rfl ?_
  obtain ⟨a32, n33, c34, rfl, hs35⟩ := (show Grow 79 3 encT _ _ L from hg13).shut (fun _ _ => rfl)
  obtain ⟨a36, n37, c38, rfl, hs39⟩ := (show Grow 3 1 encI _ _ T from hg27).shut (fun _ _ => rfl)
  exact ⟨b1, a32, a36, n33, c34, n37, c38, s10 ++ s24, rfl, hK.copy hs35 hs39, (hO30.pick [3, 2, 1, 0, 0, 0] rfl).perm' (by simp)⟩

end Go.Sd
