/-
  Package event, walked.
-/
import Derived.Test.YtgkbmelecalllaaSe2
import Derived.Test.YtgkbmelecalllaaSe3
set_option linter.unusedSimpArgs false
set_option linter.unusedVariables false
set_option linter.unusedSectionVars false
namespace Go.Sd
open Go Go.Proofs
variable [Str]
theorem elemCal2 : ElemT Try.prog 53 73 10 80 (.agg #[.int .i64 0, .int .i64 0, .int .i64 0, .int .i64 0, .int .i64 0, .int .i64 0, .int .i64 0, .bool false, .int .i64 0, .int .i64 0]) := ⟨Try.underlying53, ⟨Try.t73, by kernel_rfl, rfl, rfl, rfl⟩, by decide, rfl⟩

set_option maxRecDepth 100000 in
set_option maxHeartbeats 4000000 in
theorem v_calls (G F : Seg) (a : Option Addr) (n c : Nat) (l : List Ev) (hs : Sl G 8 encE a n c l) (hn : l.length ≤ 1000000) (w : World) (hO : Own w [G, F]) : Calls Try.prog 19 [.slice a n c].toArray w (Ret fun v w' => ∃ u s, v = .tuple #[u, .int .i64 (checkL l)] ∧ Grow 73 10 encL u s (if checkL l = 0 then callsI l l.length else []) ∧ Own w' [s, G, F]) := by
  have hl := hs.hlen
  refine enter (n := 95) Try.func19 rfl rfl rfl ?_
  refine CW.seq ?_
  refine CW.region ?_
  refine LW.value (.free rfl) rfl (fun _ r => R.assign (r.e rfl)) ?_
  refine LW.value (.free rfl) rfl (fun _ r => R.assign (r.e rfl)) ?_
  refine LW.nil (EW.then (?_))
  refine CW.seq ?_
  refine CW.region ?_
  refine LW.value (.free rfl) rfl (fun _ r => R.assign (r.e rfl)) ?_
  refine LW.nil (EW.then (?_))
  refine CW.seq ?_
  refine CW.region ?_
  refine LW.op (.free rfl) (OW.alloc (cs := #[.int .i64 0, .int .i64 0, .int .i64 0, .int .i64 0]) rfl hO Try.zeroValue85 rfl ?_)
  intro b1 w2 hO3
  refine LW.nil (EW.then (?_))
  refine CW.seq ?_
  refine CW.seq ?_
  refine CW.region ?_
  refine LW.value (.free rfl) rfl (fun _ r => R.move (r.e rfl)) ?_
  refine LW.value (.free rfl) rfl (fun _ r => R.len_slice (r.e rfl) Try.runUnderlying22) ?_
  refine LW.value (.free rfl) rfl (fun _ r => R.move (r.e rfl)) ?_
  refine LW.nil (EW.then (?_))
  refine CW.block ?_
  refine CW.sub (env' := [(0, .slice a n c), (4, (.slice none 0 0)), (5, .pointer (some ⟨b1, 0, none⟩)), (10, .slice a n c), (11, .int .i64 (n : Int)), (12, .int .i64 (0 : Int))]) ⟨rfl, rfl, rfl, rfl, rfl, rfl, trivial⟩ ?_
  refine CW.loop (α := Nat × List Cal × (Int → Int) × Value × Seg) (fun (x_ : Nat × List Cal × (Int → Int) × Value × Seg) env_ w_ => ∃ i cs W v s, x_ = (i, cs, W, v, s) ∧ env_ = [(0, .slice a n c), (4, v), (5, .pointer (some ⟨b1, 0, none⟩)), (10, .slice a n c), (11, .int .i64 (n : Int)), (12, .int .i64 (i : Int))] ∧ Own w_ [s, [(b1, .cells (arrc W 4) 85 (0, 0))], G, F] ∧ (i ≤ l.length) ∧ (foldE l i = some (cs, W)) ∧ (Grow 73 10 encL v s cs)) (fun (x_ : Nat × List Cal × (Int → Int) × Value × Seg) => l.length - x_.1) (0, [], W0, .slice none 0 0, []) ⟨0, [], W0, .slice none 0 0, [], rfl, rfl, (hO3.pick [0, 0, 0] rfl).nil, Nat.zero_le _, rfl, Grow.start⟩ ?_
  rintro _ _ w4 ⟨i, cs, W, v, s, rfl, rfl, hO5, hi, hf, hg⟩
  have hok := foldE_ok hf
  have hwk := hok.1
  refine CW.seq ?_
  refine CW.region ?_
  refine LW.value (.free rfl) rfl (fun _ r => R.lss (r.e rfl) (r.e rfl)) ?_
  refine LW.nil (EW.then (?_))
  refine CW.seq ?_
  by_cases h6 : (i : Int) < (n : Int)
  · -- (i : Int) < (n : Int)
    refine CW.yes (kb (dT h6)) ?_
    refine CW.skip (EW.then (?_))
    refine CW.seq ?_
    refine CW.block ?_
    refine CW.seq ?_
    refine CW.region ?_
    refine LW.value (.free rfl) rfl (fun _ r => R.move (r.e rfl)) ?_
    obtain ⟨x7, hxx7⟩ : ∃ t, (l)[i]? = some t := ⟨_, List.getElem?_eq_getElem (by omega)⟩
    obtain ⟨blx7, olx7, hax7, hcx7⟩ := hs.at_ _ _ hxx7
    refine LW.value (.free rfl) rfl (fun _ r => R.indexAddr_o (k := olx7 + i * 8) (r.e rfl) hax7 (r.e rfl) Try.runUnderlying22 Try.sizeOf41 (by omega) (by omega) (by simp)) ?_
    refine LW.value (.free rfl) rfl (fun _ r => R.loadn (vs := [.int .i64 x7.th, .bool x7.back, .int .i64 x7.d, .int .i64 x7.h, .int .i64 x7.off, .int .i64 x7.n, .int .i64 x7.code, .int .i64 x7.num]) (r.e rfl) Try.isAgg41 Try.sizeOf41 rfl (fun j v hj => hO5.pc (i := 2) rfl (hcx7 j v hj))) ?_
    refine LW.op (.free rfl) (OW.alloc (cs := #[.int .i64 0, .bool false, .int .i64 0, .int .i64 0, .int .i64 0, .int .i64 0, .int .i64 0, .int .i64 0]) rfl hO5 Try.zeroValue41 rfl ?_)
    intro b8 w9 hO10
    refine LW.value (.free rfl) rfl (fun _ r => R.assign (r.e rfl)) ?_
    refine LW.op (.free rfl) (OW.storeall (i := 0) (vs := [.int .i64 x7.th, .bool x7.back, .int .i64 x7.d, .int .i64 x7.h, .int .i64 x7.off, .int .i64 x7.n, .int .i64 x7.code, .int .i64 x7.num]) rfl hO10 rfl rfl rfl rfl Try.sizeOf41 rfl ?_)
    intro w11 hO12
    refine LW.nil (EW.then (?_))
    refine CW.seq ?_
    refine CW.seq ?_
    refine CW.region ?_
    refine LW.value (.free rfl) rfl (fun _ r => R.fieldAddr (k := 0) (r.e rfl) Try.runUnderlying41 rfl Try.sizeOf3 rfl) ?_
    refine LW.value (.free rfl) rfl (fun _ r => R.load1 (r.e rfl) Try.isAgg3 (hO12.cell (i := 0) rfl rfl)) ?_
    refine LW.value (.free rfl) rfl (fun _ r => R.lss (r.e rfl) (r.e rfl)) ?_
    refine LW.value (.free rfl) rfl (fun _ r => R.move (r.e rfl)) ?_
    by_cases h13 : x7.th < 0
    · -- x7.th < 0
      refine LW.off (.no rfl rfl (kb (dT h13))) rfl ?_
      refine LW.off (.no rfl rfl (kb (dT h13))) rfl ?_
      refine LW.off (.no rfl rfl (kb (dT h13))) rfl ?_
      refine LW.value (.free rfl) rfl (fun _ r => R.pick_yes (r.e (kb (dT h13))) (r.e rfl)) ?_
      refine LW.nil (EW.then (?_))
      refine CW.yes rfl ?_
      refine CW.seq ?_
      refine CW.region ?_
      refine LW.value (.free rfl) rfl (fun _ r => R.assign (r.e rfl)) ?_
      refine LW.value (.free rfl) rfl (fun _ r => R.assign (r.e rfl)) ?_
      refine LW.nil (EW.then (?_))
      refine CW.ret (EW.then_ret (EW.inB_ret (EW.then_ret (EW.then_ret (EW.inB_ret (EW.then_ret (?_)))))))
      refine EW.ret2 rfl rfl rfl ?_
      have hn := foldE_none (l := l) (i := i + 1) (by rw [foldE_succ hf hxx7, stepE_th (.inl h13)]) l.length (by omega)
      rcases foldE_all l with ⟨h1, W', h2⟩ | ⟨h1, h2⟩
      · rw [hn] at h2; cases h2
      · exact ⟨_, [], by rw [h1], by rw [if_neg (by omega)]; exact Grow.start, (hO12.pick [3, 3] rfl).nil⟩
    · -- not: x7.th < 0
      refine LW.value (.yes rfl rfl (kb (dF h13))) rfl (fun _ r => R.fieldAddr (k := 0) (r.e rfl) Try.runUnderlying41 rfl Try.sizeOf3 rfl) ?_
      refine LW.value (.yes rfl rfl (kb (dF h13))) rfl (fun _ r => R.load1 (r.e rfl) Try.isAgg3 (hO12.cell (i := 0) rfl rfl)) ?_
      refine LW.value (.yes rfl rfl (kb (dF h13))) rfl (fun _ r => R.geq (r.e rfl) (r.e rfl)) ?_
      refine LW.value (.free rfl) rfl (fun _ r => R.pick_no (r.e (kb (dF h13))) (r.e rfl)) ?_
      refine LW.nil (EW.then (?_))
      by_cases h14 : 4 ≤ x7.th
      · -- 4 ≤ x7.th
        refine CW.yes (kb (dT h14)) ?_
        refine CW.seq ?_
        refine CW.region ?_
        refine LW.value (.free rfl) rfl (fun _ r => R.assign (r.e rfl)) ?_
        refine LW.value (.free rfl) rfl (fun _ r => R.assign (r.e rfl)) ?_
        refine LW.nil (EW.then (?_))
        refine CW.ret (EW.then_ret (EW.inB_ret (EW.then_ret (EW.then_ret (EW.inB_ret (EW.then_ret (?_)))))))
        refine EW.ret2 rfl rfl rfl ?_
        have hn := foldE_none (l := l) (i := i + 1) (by rw [foldE_succ hf hxx7, stepE_th (.inr h14)]) l.length (by omega)
        rcases foldE_all l with ⟨h1, W', h2⟩ | ⟨h1, h2⟩
        · rw [hn] at h2; cases h2
        · exact ⟨_, [], by rw [h1], by rw [if_neg (by omega)]; exact Grow.start, (hO12.pick [3, 3] rfl).nil⟩
      · -- not: 4 ≤ x7.th
        refine CW.no (kb (dF h14)) ?_
        refine CW.skip (EW.then (?_))
        refine CW.seq ?_
        refine CW.region ?_
        refine LW.value (.free rfl) rfl (fun _ r => R.fieldAddr (k := 0) (r.e rfl) Try.runUnderlying41 rfl Try.sizeOf3 rfl) ?_
        refine LW.value (.free rfl) rfl (fun _ r => R.load1 (r.e rfl) Try.isAgg3 (hO12.cell (i := 0) rfl rfl)) ?_
        refine LW.value (.free rfl) rfl (fun _ r => R.indexAddr_arr (k := (x7.th).toNat) (r.e rfl) (r.e rfl) Try.runUnderlying85 Try.sizeOf3 (by omega) (by omega) (by simp)) ?_
        have hwk15 := hwk x7.th
        refine LW.value (.free rfl) rfl (fun _ r => R.load1 (r.e rfl) Try.isAgg3 (hO12.arr (i := 2) rfl (by omega) (by omega))) ?_
        refine LW.value (.free rfl) rfl (fun _ r => R.as (R.sub (r.e rfl) (r.e rfl)) (congrArg (Value.int .i64) (wrap_i64 (by omega) (by omega)))) ?_
        refine LW.value (.free rfl) rfl (fun _ r => R.assign (r.e rfl)) ?_
        refine LW.nil (EW.then (?_))
        refine CW.block ?_
        refine CW.seq ?_
        refine CW.region ?_
        refine LW.value (.free rfl) rfl (fun _ r => R.fieldAddr (k := 1) (r.e rfl) Try.runUnderlying41 rfl Try.sizeOf4 rfl) ?_
        refine LW.value (.free rfl) rfl (fun _ r => R.load1 (r.e rfl) Try.isAgg4 (hO12.cell (i := 0) rfl rfl)) ?_
        refine LW.value (.free rfl) rfl (fun _ r => R.move (r.e rfl)) ?_
        refine LW.value (.free rfl) rfl (fun _ r => R.gtr (r.e rfl) (r.e rfl)) ?_
        refine LW.value (.free rfl) rfl (fun _ r => R.neq_bool Try.underlying4 (r.e rfl) (r.e rfl)) ?_
        refine LW.value (.free rfl) rfl (fun _ r => R.assign (r.e rfl)) ?_
        refine LW.nil (EW.then (?_))
        by_cases h16 : x7.back = (decide (-1 < (W x7.th) - 1))
        · -- x7.back = (decide (-1 < (W x7.th) - 1))
          refine CW.no (kb (bN (dT h16))) ?_
          refine CW.seq ?_
          refine CW.region ?_
          refine LW.value (.free rfl) rfl (fun _ r => R.fieldAddr (k := 1) (r.e rfl) Try.runUnderlying41 rfl Try.sizeOf4 rfl) ?_
          refine LW.value (.free rfl) rfl (fun _ r => R.load1 (r.e rfl) Try.isAgg4 (hO12.cell (i := 0) rfl rfl)) ?_
          refine LW.value (.free rfl) rfl (fun _ r => R.move (r.e rfl)) ?_
          rcases Bool.eq_false_or_eq_true x7.back with h17 | h17
          · -- x7.back
            refine LW.value (.yes rfl rfl (kb h17)) rfl (fun _ r => R.fieldAddr (k := 2) (r.e rfl) Try.runUnderlying41 rfl Try.sizeOf36 rfl) ?_
            refine LW.value (.yes rfl rfl (kb h17)) rfl (fun _ r => R.loadn (vs := [.int .i64 x7.d, .int .i64 x7.h, .int .i64 x7.off, .int .i64 x7.n]) (r.e rfl) Try.isAgg36 Try.sizeOf36 rfl (hO12.cells (i := 0) rfl rfl)) ?_
            refine LW.value (.yes rfl rfl (kb h17)) rfl (fun _ r => R.build (v := .agg #[.int .i64 0, .int .i64 0, .int .i64 0, .int .i64 0]) (vs := []) trivial (by simp [go_sem])) ?_
            refine LW.value (.yes rfl rfl (kb h17)) rfl (fun _ r => eq36_neq (r.e rfl) (r.e rfl)) ?_
            refine LW.value (.free rfl) rfl (fun _ r => R.pick_yes (r.e (kb h17)) (r.e rfl)) ?_
            refine LW.value (.free rfl) rfl (fun _ r => R.move (r.e rfl)) ?_
            by_cases h18 : x7.d = 0 ∧ x7.h = 0 ∧ x7.off = 0 ∧ x7.n = 0
            · -- x7.d = 0 ∧ x7.h = 0 ∧ x7.off = 0 ∧ x7.n = 0
              refine LW.value (.yes rfl rfl (kb (bN (dT h18)))) rfl (fun _ r => R.fieldAddr (k := 1) (r.e rfl) Try.runUnderlying41 rfl Try.sizeOf4 rfl) ?_
              refine LW.value (.yes rfl rfl (kb (bN (dT h18)))) rfl (fun _ r => R.load1 (r.e rfl) Try.isAgg4 (hO12.cell (i := 0) rfl rfl)) ?_
              refine LW.value (.yes rfl rfl (kb (bN (dT h18)))) rfl (fun _ r => R.not (r.e rfl)) ?_
              refine LW.value (.yes rfl rfl (kb (bN (dT h18)))) rfl (fun _ r => R.move (r.e rfl)) ?_
              refine LW.off (.no rfl rfl (kb (bN h17))) rfl ?_
              refine LW.off (.no rfl rfl (kb (bN h17))) rfl ?_
              refine LW.off (.no rfl rfl (kb (bN h17))) rfl ?_
              refine LW.off (.no rfl rfl (kb (bN h17))) rfl ?_
              refine LW.value (.yes rfl rfl (kb (bN (dT h18)))) rfl (fun _ r => R.pick_no (r.e (kb (bN h17))) (r.e rfl)) ?_
              refine LW.value (.free rfl) rfl (fun _ r => R.pick_no (r.e (kb (bN (dT h18)))) (r.e rfl)) ?_
              refine LW.value (.free rfl) rfl (fun _ r => R.assign (r.e rfl)) ?_
              refine LW.nil (EW.then (?_))
              refine CW.no rfl ?_
              refine CW.seq ?_
              refine CW.region ?_
              refine LW.value (.free rfl) rfl (fun _ r => R.fieldAddr (k := 1) (r.e rfl) Try.runUnderlying41 rfl Try.sizeOf4 rfl) ?_
              refine LW.value (.free rfl) rfl (fun _ r => R.load1 (r.e rfl) Try.isAgg4 (hO12.cell (i := 0) rfl rfl)) ?_
              refine LW.value (.free rfl) rfl (fun _ r => R.assign (r.e rfl)) ?_
              refine LW.nil (EW.then (?_))
              refine CW.yes (kb h17) ?_
              refine CW.seq ?_
              have hbk : 0 < W x7.th := by have h := h16; rw [h17] at h; simp at h; omega
              refine CW.region ?_
              refine LW.value (.free rfl) rfl (fun _ r => R.move (r.e rfl)) ?_
              refine LW.value (.free rfl) rfl (fun _ r => R.move (r.e rfl)) ?_
              have hl19 : ((W x7.th) - 1).toNat < (cs).length := by (try simp only [List.length_append, List.length_set, List.length_singleton]); omega
              obtain ⟨b20, cap21, rfl⟩ := Grow.opened hg (by omega)
              obtain ⟨q22, hq23⟩ : ∃ t, (cs)[((W x7.th) - 1).toNat]? = some t := ⟨_, List.getElem?_eq_getElem hl19⟩
              refine LW.value (.free rfl) rfl (fun _ r => R.indexAddr (k := (((W x7.th) - 1).toNat) * 10) (r.e rfl) (r.e rfl) Try.runUnderlying53 Try.sizeOf73 (by omega) (by omega) (by simp)) ?_
              refine LW.value (.free rfl) rfl (fun _ r => R.assign (r.e rfl)) ?_
              refine LW.nil (EW.then (?_))
              refine CW.seq ?_
              refine CW.region ?_
              refine LW.value (.free rfl) rfl (fun _ r => R.move (r.e rfl)) ?_
              refine LW.value (.free rfl) rfl (fun _ r => R.move (r.e rfl)) ?_
              refine LW.value (.free rfl) rfl (fun _ r => R.move (r.e rfl)) ?_
              refine LW.value (.free rfl) rfl (fun _ r => R.fieldAddr (k := 6) (r.e rfl) Try.runUnderlying41 rfl Try.sizeOf39 rfl) ?_
              refine LW.value (.free rfl) rfl (fun _ r => R.loadn (vs := [.int .i64 x7.code, .int .i64 x7.num]) (r.e rfl) Try.isAgg39 Try.sizeOf39 rfl (hO12.cells (i := 0) rfl rfl)) ?_
              refine LW.value (.free rfl) rfl (fun _ r => R.move (r.e rfl)) ?_
              refine LW.value (.free rfl) rfl (fun _ r => R.nilCheck (r.e rfl)) ?_
              refine LW.value (.free rfl) rfl (fun _ r => R.fieldAddr (k := (((W x7.th) - 1).toNat) * 10 + 5) (r.e rfl) Try.runUnderlying73 rfl Try.sizeOf39 rfl) ?_
              refine LW.op (.free rfl) (OW.storeElem (i := 1) (o := 5) (q' := (⟨q22.th, q22.d, q22.h, q22.off, q22.n, x7.code, x7.num, q22.done, q22.frm, q22.to_⟩ : Cal)) (vs := [.int .i64 x7.code, .int .i64 x7.num]) rfl hO12 rfl hg (fun _ _ => rfl) hq23 rfl rfl rfl rfl rfl Try.sizeOf39 rfl rfl ?_)
              intro w24 s26 hg27 hO25
              have hq28 := get_set_self (y := (⟨q22.th, q22.d, q22.h, q22.off, q22.n, x7.code, x7.num, q22.done, q22.frm, q22.to_⟩ : Cal)) hq23
              refine LW.value (.free rfl) rfl (fun _ r => R.nilCheck (r.e rfl)) ?_
              refine LW.value (.free rfl) rfl (fun _ r => R.fieldAddr (k := (((W x7.th) - 1).toNat) * 10 + 7) (r.e rfl) Try.runUnderlying73 rfl Try.sizeOf4 rfl) ?_
              refine LW.op (.free rfl) (OW.storeElem (i := 1) (o := 7) (q' := (⟨q22.th, q22.d, q22.h, q22.off, q22.n, x7.code, x7.num, true, q22.frm, q22.to_⟩ : Cal)) (vs := [.bool true]) rfl hO25 rfl hg27 (fun _ _ => rfl) hq28 rfl rfl rfl rfl rfl Try.sizeOf4 rfl rfl ?_)
              intro w29 s31 hg32 hO30
              have hq33 := get_set_self (y := (⟨q22.th, q22.d, q22.h, q22.off, q22.n, x7.code, x7.num, true, q22.frm, q22.to_⟩ : Cal)) hq28
              refine LW.value (.free rfl) rfl (fun _ r => R.nilCheck (r.e rfl)) ?_
              refine LW.value (.free rfl) rfl (fun _ r => R.fieldAddr (k := (((W x7.th) - 1).toNat) * 10 + 9) (r.e rfl) Try.runUnderlying73 rfl Try.sizeOf3 rfl) ?_
              refine LW.op (.free rfl) (OW.storeElem (i := 1) (o := 9) (q' := (⟨q22.th, q22.d, q22.h, q22.off, q22.n, x7.code, x7.num, true, q22.frm, (i : Int)⟩ : Cal)) (vs := [.int .i64 (i : Int)]) rfl hO30 rfl hg32 (fun _ _ => rfl) hq33 rfl rfl rfl rfl rfl Try.sizeOf3 rfl rfl ?_)
              intro w34 s36 hg37 hO35
              have hq38 := get_set_self (y := (⟨q22.th, q22.d, q22.h, q22.off, q22.n, x7.code, x7.num, true, q22.frm, (i : Int)⟩ : Cal)) hq33
              refine LW.nil (EW.then (?_))
              refine CW.region ?_
              refine LW.value (.free rfl) rfl (fun _ r => R.fieldAddr (k := 0) (r.e rfl) Try.runUnderlying41 rfl Try.sizeOf3 rfl) ?_
              refine LW.value (.free rfl) rfl (fun _ r => R.load1 (r.e rfl) Try.isAgg3 (hO35.cell (i := 0) rfl rfl)) ?_
              refine LW.value (.free rfl) rfl (fun _ r => R.indexAddr_arr (k := (x7.th).toNat) (r.e rfl) (r.e rfl) Try.runUnderlying85 Try.sizeOf3 (by omega) (by omega) (by simp)) ?_
              refine LW.op (.free rfl) (OW.storeArr (i := 2) rfl hO35 rfl rfl rfl Try.sizeOf3 (by omega) (by omega) ?_)
              intro w39 hO40
              refine LW.nil (EW.inB_normal (EW.inB_normal (EW.then (?_))))
              refine CW.region ?_
              refine LW.value (.free rfl) rfl (fun _ r => R.as (R.add (r.e rfl) (r.e rfl)) (congrArg (Value.int .i64) (wrap_i64 (by omega) (by omega)))) ?_
              refine LW.value (.free rfl) rfl (fun _ r => R.move (r.e rfl)) ?_
              refine LW.nil ?_
              exact EW.sub (env' := [(0, .slice a n c), (4, (.slice (some ⟨b20, 0, none⟩) (cs).length cap21)), (5, .pointer (some ⟨b1, 0, none⟩)), (10, .slice a n c), (11, .int .i64 (n : Int)), (12, .int .i64 ((i + 1) : Int))]) ⟨rfl, rfl, rfl, rfl, rfl, rfl, trivial⟩ (EW.round (i + 1, (((cs.set (((W x7.th) - 1).toNat) (⟨q22.th, q22.d, q22.h, q22.off, q22.n, x7.code, x7.num, q22.done, q22.frm, q22.to_⟩ : Cal)).set (((W x7.th) - 1).toNat) (⟨q22.th, q22.d, q22.h, q22.off, q22.n, x7.code, x7.num, true, q22.frm, q22.to_⟩ : Cal)).set (((W x7.th) - 1).toNat) (⟨q22.th, q22.d, q22.h, q22.off, q22.n, x7.code, x7.num, true, q22.frm, (i : Int)⟩ : Cal)), (upd W x7.th 0), .slice (some ⟨b20, 0, none⟩) (cs).length cap21, s36) ⟨i + 1, (((cs.set (((W x7.th) - 1).toNat) (⟨q22.th, q22.d, q22.h, q22.off, q22.n, x7.code, x7.num, q22.done, q22.frm, q22.to_⟩ : Cal)).set (((W x7.th) - 1).toNat) (⟨q22.th, q22.d, q22.h, q22.off, q22.n, x7.code, x7.num, true, q22.frm, q22.to_⟩ : Cal)).set (((W x7.th) - 1).toNat) (⟨q22.th, q22.d, q22.h, q22.off, q22.n, x7.code, x7.num, true, q22.frm, (i : Int)⟩ : Cal)), (upd W x7.th 0), .slice (some ⟨b20, 0, none⟩) (cs).length cap21, s36, rfl, rfl, hO40.pick [1, 1, 1, 1] rfl, by omega, by rw [foldE_succ hf hxx7, stepE_back h13 h14 h16 h17 h18 hq23]; simp [hl], hg37⟩ (by dsimp only; omega))
            · -- not: x7.d = 0 ∧ x7.h = 0 ∧ x7.off = 0 ∧ x7.n = 0
              refine LW.off (.no rfl rfl (kb (bN (dF h18)))) rfl ?_
              refine LW.off (.no rfl rfl (kb (bN (dF h18)))) rfl ?_
              refine LW.off (.no rfl rfl (kb (bN (dF h18)))) rfl ?_
              refine LW.off (.no rfl rfl (kb (bN (dF h18)))) rfl ?_
              refine LW.off (.un rfl rfl rfl) rfl ?_
              refine LW.off (.un rfl rfl rfl) rfl ?_
              refine LW.off (.un rfl rfl rfl) rfl ?_
              refine LW.off (.un rfl rfl rfl) rfl ?_
              refine LW.off (.no rfl rfl (kb (bN (dF h18)))) rfl ?_
              refine LW.value (.free rfl) rfl (fun _ r => R.pick_yes (r.e (kb (bN (dF h18)))) (r.e rfl)) ?_
              refine LW.value (.free rfl) rfl (fun _ r => R.assign (r.e rfl)) ?_
              refine LW.nil (EW.then (?_))
              refine CW.yes rfl ?_
              refine CW.seq ?_
              refine CW.region ?_
              refine LW.value (.free rfl) rfl (fun _ r => R.assign (r.e rfl)) ?_
              refine LW.value (.free rfl) rfl (fun _ r => R.assign (r.e rfl)) ?_
              refine LW.nil (EW.then (?_))
              refine CW.ret (EW.inB_ret (EW.inB_ret (EW.then_ret (EW.then_ret (EW.inB_ret (EW.then_ret (?_)))))))
              refine EW.ret2 rfl rfl rfl ?_
              have hn := foldE_none (l := l) (i := i + 1) (by rw [foldE_succ hf hxx7, stepE_op h17 h18]) l.length (by omega)
              rcases foldE_all l with ⟨h1, W', h2⟩ | ⟨h1, h2⟩
              · rw [hn] at h2; cases h2
              · exact ⟨_, [], by rw [h1], by rw [if_neg (by omega)]; exact Grow.start, (hO12.pick [3, 3] rfl).nil⟩
          · -- not: x7.back
            refine LW.off (.no rfl rfl (kb h17)) rfl ?_
            refine LW.off (.no rfl rfl (kb h17)) rfl ?_
            refine LW.off (.no rfl rfl (kb h17)) rfl ?_
            refine LW.off (.no rfl rfl (kb h17)) rfl ?_
            refine LW.value (.free rfl) rfl (fun _ r => R.pick_no (r.e (kb h17)) (r.e rfl)) ?_
            refine LW.value (.free rfl) rfl (fun _ r => R.move (r.e rfl)) ?_
            refine LW.value (.yes rfl rfl rfl) rfl (fun _ r => R.fieldAddr (k := 1) (r.e rfl) Try.runUnderlying41 rfl Try.sizeOf4 rfl) ?_
            refine LW.value (.yes rfl rfl rfl) rfl (fun _ r => R.load1 (r.e rfl) Try.isAgg4 (hO12.cell (i := 0) rfl rfl)) ?_
            refine LW.value (.yes rfl rfl rfl) rfl (fun _ r => R.not (r.e rfl)) ?_
            refine LW.value (.yes rfl rfl rfl) rfl (fun _ r => R.move (r.e rfl)) ?_
            refine LW.value (.yes rfl rfl (kb (bN h17))) rfl (fun _ r => R.fieldAddr (k := 6) (r.e rfl) Try.runUnderlying41 rfl Try.sizeOf39 rfl) ?_
            refine LW.value (.yes rfl rfl (kb (bN h17))) rfl (fun _ r => R.loadn (vs := [.int .i64 x7.code, .int .i64 x7.num]) (r.e rfl) Try.isAgg39 Try.sizeOf39 rfl (hO12.cells (i := 0) rfl rfl)) ?_
            refine LW.value (.yes rfl rfl (kb (bN h17))) rfl (fun _ r => R.build (v := .agg #[.int .i64 0, .int .i64 0]) (vs := []) trivial (by simp [go_sem])) ?_
            refine LW.value (.yes rfl rfl (kb (bN h17))) rfl (fun _ r => eq39_neq (r.e rfl) (r.e rfl)) ?_
            refine LW.value (.yes rfl rfl rfl) rfl (fun _ r => R.pick_yes (r.e (kb (bN h17))) (r.e rfl)) ?_
            refine LW.value (.free rfl) rfl (fun _ r => R.pick_no (r.e rfl) (r.e rfl)) ?_
            refine LW.value (.free rfl) rfl (fun _ r => R.assign (r.e rfl)) ?_
            refine LW.nil (EW.then (?_))
            by_cases h41 : x7.code = 0 ∧ x7.num = 0
            · -- x7.code = 0 ∧ x7.num = 0
              refine CW.no (kb (bN (dT h41))) ?_
              refine CW.seq ?_
              refine CW.region ?_
              refine LW.value (.free rfl) rfl (fun _ r => R.fieldAddr (k := 1) (r.e rfl) Try.runUnderlying41 rfl Try.sizeOf4 rfl) ?_
              refine LW.value (.free rfl) rfl (fun _ r => R.load1 (r.e rfl) Try.isAgg4 (hO12.cell (i := 0) rfl rfl)) ?_
              refine LW.value (.free rfl) rfl (fun _ r => R.assign (r.e rfl)) ?_
              refine LW.nil (EW.then (?_))
              refine CW.no (kb h17) ?_
              refine CW.seq ?_
              refine CW.region ?_
              refine LW.value (.free rfl) rfl (fun _ r => R.move (r.e rfl)) ?_
              refine LW.value (.free rfl) rfl (fun _ r => R.fieldAddr (k := 0) (r.e rfl) Try.runUnderlying41 rfl Try.sizeOf3 rfl) ?_
              refine LW.value (.free rfl) rfl (fun _ r => R.load1 (r.e rfl) Try.isAgg3 (hO12.cell (i := 0) rfl rfl)) ?_
              refine LW.value (.free rfl) rfl (fun _ r => R.fieldAddr (k := 2) (r.e rfl) Try.runUnderlying41 rfl Try.sizeOf36 rfl) ?_
              refine LW.value (.free rfl) rfl (fun _ r => R.loadn (vs := [.int .i64 x7.d, .int .i64 x7.h, .int .i64 x7.off, .int .i64 x7.n]) (r.e rfl) Try.isAgg36 Try.sizeOf36 rfl (hO12.cells (i := 0) rfl rfl)) ?_
              refine LW.value (.free rfl) rfl (fun _ r => R.move (r.e rfl)) ?_
              refine LW.value (.free rfl) rfl (fun _ r => R.move (r.e rfl)) ?_
              refine LW.value (.free rfl) rfl (fun _ r => R.len_slice (r.e rfl) Try.runUnderlying22) ?_
              refine LW.value (.free rfl) rfl (fun _ r => R.build (v := .agg #[.int .i64 x7.th, .int .i64 x7.d, .int .i64 x7.h, .int .i64 x7.off, .int .i64 x7.n, .int .i64 0, .int .i64 0, .bool false, .int .i64 (i : Int), .int .i64 (n : Int)]) (vs := [(0, .int .i64 x7.th), (1, .agg #[.int .i64 x7.d, .int .i64 x7.h, .int .i64 x7.off, .int .i64 x7.n]), (4, .int .i64 (i : Int)), (5, .int .i64 (n : Int))]) ⟨⟨r.e rfl, rfl⟩, ⟨r.e rfl, rfl⟩, ⟨r.e rfl, rfl⟩, ⟨r.e rfl, rfl⟩, trivial⟩ (by simp [go_sem])) ?_
              refine LW.op (.free rfl) (OW.buildSlice (cs := #[.int .i64 x7.th, .int .i64 x7.d, .int .i64 x7.h, .int .i64 x7.off, .int .i64 x7.n, .int .i64 0, .int .i64 0, .bool false, .int .i64 (i : Int), .int .i64 (n : Int)]) (e := 73) (vs := [(0, .agg #[.int .i64 x7.th, .int .i64 x7.d, .int .i64 x7.h, .int .i64 x7.off, .int .i64 x7.n, .int .i64 0, .int .i64 0, .bool false, .int .i64 (i : Int), .int .i64 (n : Int)])]) rfl hO12 (fun _ r => ⟨⟨r.e rfl, rfl⟩, trivial⟩) (fun _ => by simp [go_sem, Instr.buildSlice, newRow]) ?_)
              intro b42 w43 hO44
              have hO45 := hO44.move [2] rfl
              refine LW.op (.free rfl) (OW.append (xs := cs) (ys := [(⟨x7.th, x7.d, x7.h, x7.off, x7.n, 0, 0, false, (i : Int), (n : Int)⟩ : Cal)]) elemCal2 rfl hO45 rfl rfl hg (fun _ _ => rfl) (fun _ _ => rfl) rfl (fun _ => src (i := 1) hO45 rfl rfl) (by simp; omega) (by simp; omega) (by decide) ?_)
              intro v46 s47 w48 hO49 hg50
              refine LW.value (.free rfl) rfl (fun _ r => R.assign (r.e rfl)) ?_
              refine LW.nil (EW.then (?_))
              refine CW.region ?_
              refine LW.value (.free rfl) rfl (fun _ r => R.fieldAddr (k := 0) (r.e rfl) Try.runUnderlying41 rfl Try.sizeOf3 rfl) ?_
              refine LW.value (.free rfl) rfl (fun _ r => R.load1 (r.e rfl) Try.isAgg3 (hO49.cell (i := 2) rfl rfl)) ?_
              refine LW.value (.free rfl) rfl (fun _ r => R.move (r.e rfl)) ?_
              obtain ⟨a51, cap52, rfl⟩ := Grow.slice hg50
              refine LW.value (.free rfl) rfl (fun _ r => R.len_slice (r.e rfl) Try.runUnderlying53) ?_
              refine LW.value (.free rfl) rfl (fun _ r => R.indexAddr_arr (k := (x7.th).toNat) (r.e rfl) (r.e rfl) Try.runUnderlying85 Try.sizeOf3 (by omega) (by omega) (by simp)) ?_
              refine LW.op (.free rfl) (OW.storeArr (i := 3) rfl hO49 rfl rfl rfl Try.sizeOf3 (by omega) (by omega) ?_)
              intro w53 hO54
              refine LW.nil (EW.inB_normal (EW.inB_normal (EW.then (?_))))
              refine CW.region ?_
              refine LW.value (.free rfl) rfl (fun _ r => R.as (R.add (r.e rfl) (r.e rfl)) (congrArg (Value.int .i64) (wrap_i64 (by omega) (by omega)))) ?_
              refine LW.value (.free rfl) rfl (fun _ r => R.move (r.e rfl)) ?_
              refine LW.nil ?_
              exact EW.sub (env' := [(0, .slice a n c), (4, (.slice a51 ((cs ++ [(⟨x7.th, x7.d, x7.h, x7.off, x7.n, 0, 0, false, (i : Int), (n : Int)⟩ : Cal)])).length cap52)), (5, .pointer (some ⟨b1, 0, none⟩)), (10, .slice a n c), (11, .int .i64 (n : Int)), (12, .int .i64 ((i + 1) : Int))]) ⟨rfl, rfl, rfl, rfl, rfl, rfl, trivial⟩ (EW.round (i + 1, (cs ++ [(⟨x7.th, x7.d, x7.h, x7.off, x7.n, 0, 0, false, (i : Int), (n : Int)⟩ : Cal)]), (upd W x7.th (((cs ++ [(⟨x7.th, x7.d, x7.h, x7.off, x7.n, 0, 0, false, (i : Int), (n : Int)⟩ : Cal)])).length : Int)), .slice a51 ((cs ++ [(⟨x7.th, x7.d, x7.h, x7.off, x7.n, 0, 0, false, (i : Int), (n : Int)⟩ : Cal)])).length cap52, s47) ⟨i + 1, (cs ++ [(⟨x7.th, x7.d, x7.h, x7.off, x7.n, 0, 0, false, (i : Int), (n : Int)⟩ : Cal)]), (upd W x7.th (((cs ++ [(⟨x7.th, x7.d, x7.h, x7.off, x7.n, 0, 0, false, (i : Int), (n : Int)⟩ : Cal)])).length : Int)), .slice a51 ((cs ++ [(⟨x7.th, x7.d, x7.h, x7.off, x7.n, 0, 0, false, (i : Int), (n : Int)⟩ : Cal)])).length cap52, s47, rfl, rfl, hO54.pick [0, 2, 2, 2] rfl, by omega, by rw [foldE_succ hf hxx7, stepE_call h13 h14 h16 h17 h41]; simp [hl], hg50⟩ (by dsimp only; omega))
            · -- not: x7.code = 0 ∧ x7.num = 0
              refine CW.yes (kb (bN (dF h41))) ?_
              refine CW.seq ?_
              refine CW.region ?_
              refine LW.value (.free rfl) rfl (fun _ r => R.assign (r.e rfl)) ?_
              refine LW.value (.free rfl) rfl (fun _ r => R.assign (r.e rfl)) ?_
              refine LW.nil (EW.then (?_))
              refine CW.ret (EW.inB_ret (EW.inB_ret (EW.then_ret (EW.then_ret (EW.inB_ret (EW.then_ret (?_)))))))
              refine EW.ret2 rfl rfl rfl ?_
              have hn := foldE_none (l := l) (i := i + 1) (by rw [foldE_succ hf hxx7, stepE_res h17 h41]) l.length (by omega)
              rcases foldE_all l with ⟨h1, W', h2⟩ | ⟨h1, h2⟩
              · rw [hn] at h2; cases h2
              · exact ⟨_, [], by rw [h1], by rw [if_neg (by omega)]; exact Grow.start, (hO12.pick [3, 3] rfl).nil⟩
        · -- not: x7.back = (decide (-1 < (W x7.th) - 1))
          refine CW.yes (kb (bN (dF h16))) ?_
          refine CW.seq ?_
          refine CW.region ?_
          refine LW.value (.free rfl) rfl (fun _ r => R.assign (r.e rfl)) ?_
          refine LW.value (.free rfl) rfl (fun _ r => R.assign (r.e rfl)) ?_
          refine LW.nil (EW.then (?_))
          refine CW.ret (EW.inB_ret (EW.inB_ret (EW.then_ret (EW.then_ret (EW.inB_ret (EW.then_ret (?_)))))))
          refine EW.ret2 rfl rfl rfl ?_
          have hn := foldE_none (l := l) (i := i + 1) (by rw [foldE_succ hf hxx7, stepE_ne h16]) l.length (by omega)
          rcases foldE_all l with ⟨h1, W', h2⟩ | ⟨h1, h2⟩
          · rw [hn] at h2; cases h2
          · exact ⟨_, [], by rw [h1], by rw [if_neg (by omega)]; exact Grow.start, (hO12.pick [3, 3] rfl).nil⟩
  · -- not: (i : Int) < (n : Int)
    refine CW.no (kb (dF h6)) ?_
    refine CW.exit (EW.then_exit (EW.then_exit (EW.inB_same (EW.then (?_)))))
    refine CW.seq ?_
    refine CW.region ?_
    refine LW.value (.free rfl) rfl (fun _ r => R.move (r.e rfl)) ?_
    refine LW.value (.free rfl) rfl (fun _ r => R.assign (r.e rfl)) ?_
    refine LW.value (.free rfl) rfl (fun _ r => R.assign (r.e rfl)) ?_
    refine LW.nil (EW.then (?_))
    refine CW.ret ?_
    refine EW.ret2 rfl rfl rfl ?_
    rw [show i = l.length from by omega] at hf
    rcases foldE_all l with ⟨h1, W', h2⟩ | ⟨h1, h2⟩
    · rw [hf] at h2; cases h2; exact ⟨_, s, by rw [h1], by rw [if_pos h1]; exact hg, hO5.pick [0, 1, 1] rfl⟩
    · rw [hf] at h2; cases h2

end Go.Sd
