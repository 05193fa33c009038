/-
  linear.Holds, walked.
-/
import Derived.Test.YtgkbmelecalllaaSeR
set_option linter.unusedSimpArgs false
set_option linter.unusedVariables false
set_option linter.unusedSectionVars false
namespace Go.Sd
open Go Go.Proofs
variable [Str]
set_option maxRecDepth 100000 in
set_option maxHeartbeats 4000000 in
theorem l_holds (G F : Seg) (a : Option Addr) (n c : Nat) (l : List Ev) (hs : Sl G 8 encE a n c l) (hn : l.length ≤ 1000) (a2 : Option Addr) (n2 c2 : Nat) (order : List Ev) (hs2 : Sl G 8 encE a2 n2 c2 order) (hn2 : order.length ≤ 1000) (hbo : EvB order) (w : World) (hO : Own w [G, F]) : Calls Try.prog 13 [.slice a n c, .slice a2 n2 c2].toArray w (Ret fun v w' => v = .bool (decide (HoldsP l order)) ∧ Own w' [G, F]) := by
  have hl := hs.hlen
  have hl2 := hs2.hlen
  refine enter (n := 89) Try.func13 rfl rfl rfl ?_
  refine CW.seq ?_
  refine CW.region ?_
  refine LW.value (.free rfl) rfl (fun _ r => R.assign (r.e rfl)) ?_
  refine LW.nil (EW.then (?_))
  refine CW.seq ?_
  refine CW.region ?_
  refine LW.value (.free rfl) rfl (fun _ r => R.move (r.e rfl)) ?_
  refine LW.op (.free rfl) (OW.calls rfl (fun _ r => R.call (vs := [.slice a n c]) Try.call19 rfl ⟨r.e rfl, trivial⟩) (v_calls _ _ _ _ _ l hs (by omega) _ (hO.frame [0] rfl)) ?_)
  rintro _ w4 ⟨v1, s2, rfl, hg3, hO5⟩
  replace hO5 := hO5.unframe2
  refine LW.value (.free rfl) rfl (fun _ r => R.move (r.e rfl)) ?_
  refine LW.value (.free rfl) rfl (fun _ r => R.extract (r.e rfl) rfl) ?_
  refine LW.value (.free rfl) rfl (fun _ r => R.extract (r.e rfl) rfl) ?_
  refine LW.value (.free rfl) rfl (fun _ r => R.assign (r.e rfl)) ?_
  refine LW.value (.free rfl) rfl (fun _ r => R.assign (r.e rfl)) ?_
  refine LW.nil (EW.then (?_))
  refine CW.seq ?_
  refine CW.seq ?_
  refine CW.region ?_
  refine LW.value (.free rfl) rfl (fun _ r => R.move (r.e rfl)) ?_
  refine LW.value (.free rfl) rfl (fun _ r => R.neq (r.e rfl) (r.e rfl)) ?_
  refine LW.nil (EW.then (?_))
  by_cases h6 : (checkL l) = 0
  · -- (checkL l) = 0
    refine CW.no (kb (bN (dT h6))) ?_
    refine CW.skip (EW.then (?_))
    refine CW.seq ?_
    rw [if_pos h6] at hg3
    have hcl := callsI_len l l.length
    obtain ⟨cs, hcs⟩ : ∃ z, z = callsI l l.length := ⟨_, rfl⟩
    rw [← hcs] at hg3 hcl
    obtain ⟨a7, n8, c9, ev10, hsl11⟩ := Grow.shut hg3 (fun _ _ => rfl)
    subst ev10
    obtain ⟨G12, hG13⟩ : ∃ g : Seg, g = (s2 : Seg) ++ G := ⟨_, rfl⟩
    have hO14 : Own _ [G12, F] := (hO5.pick [0, 0, 0] rfl).perm' (List.Perm.of_eq (by simp [hG13]))
    have hs15 : ∀ p ∈ G, p ∈ G12 := by rw [hG13]; intro p hp; simp [hp]
    have hC := hsl11.mono (G' := G12) (by rw [hG13]; intro p hp; simp [hp])
    have hlhC := hC.hlen
    have hsub0 := hs15
    have hs0 := hs.mono hs15
    have hs20 := hs2.mono hs15
    refine CW.region ?_
    refine LW.value (.free rfl) rfl (fun _ r => R.move (r.e rfl)) ?_
    refine LW.value (.free rfl) rfl (fun _ r => R.build (v := .agg #[.slice a7 n8 c9, .slice none 0 0, .slice none 0 0]) (vs := [(0, .slice a7 n8 c9)]) ⟨⟨r.e rfl, rfl⟩, trivial⟩ (by simp [go_sem])) ?_
    refine LW.op (.free rfl) (OW.box (cs := #[.slice a7 n8 c9, .slice none 0 0, .slice none 0 0]) rfl hO14 rfl rfl ?_)
    intro b16 w17 hO18
    refine LW.value (.free rfl) rfl (fun _ r => R.assign (r.e rfl)) ?_
    refine LW.nil (EW.then (?_))
    refine CW.seq ?_
    refine CW.region ?_
    refine LW.op (.free rfl) (OW.buildSlice (cs := #[.bool true]) (e := 4) (vs := [(0, .bool true)]) rfl hO18 (fun _ r => ⟨⟨r.e rfl, rfl⟩, trivial⟩) (fun _ => by simp [go_sem, Instr.buildSlice, newRow]) ?_)
    intro b19 w20 hO21
    refine LW.value (.free rfl) rfl (fun _ r => R.move (r.e rfl)) ?_
    refine LW.value (.free rfl) rfl (fun _ r => R.len_slice (r.e rfl) Try.runUnderlying53) ?_
    refine LW.op (.free rfl) (OW.calls rfl (fun _ r => R.call (vs := [.slice (some ⟨b19, 0, none⟩) 1 1, .int .i64 (n8 : Int)]) Try.call21 rfl ⟨r.e rfl, r.e rfl, trivial⟩) (v_repeat n8 b19 (by omega) _ _ (hO21.frame [0] rfl)) ?_)
    rintro v22 w25 ⟨s23, hg24, hO26⟩
    replace hO26 := hO26.unframe1
    rw [hlhC] at hg24
    refine LW.value (.free rfl) rfl (fun _ r => R.assign (r.e rfl)) ?_
    refine LW.nil (EW.then (?_))
    refine CW.seq ?_
    refine CW.region ?_
    refine LW.op (.free rfl) (OW.calls rfl (fun _ r => R.call (vs := []) Try.call22 rfl trivial) (l_new _ _ (hO26.frame [] rfl)) ?_)
    rintro _ w27 ⟨pm29, s30, rfl, hM31, hO28⟩
    replace hO28 := hO28.unframe1
    refine LW.value (.free rfl) rfl (fun _ r => R.assign (r.e rfl)) ?_
    refine LW.nil (EW.then (?_))
    refine CW.seq ?_
    refine CW.seq ?_
    refine CW.region ?_
    refine LW.value (.free rfl) rfl (fun _ r => R.move (r.e rfl)) ?_
    refine LW.value (.free rfl) rfl (fun _ r => R.len_slice (r.e rfl) Try.runUnderlying22) ?_
    refine LW.value (.free rfl) rfl (fun _ r => R.move (r.e rfl)) ?_
    refine LW.nil (EW.then (?_))
    refine CW.block ?_
    refine CW.sub (env' := [(5, .slice a7 n8 c9), (7, .pointer (some ⟨b16, 0, none⟩)), (8, v22), (9, .pointer (some ⟨pm29, 0, none⟩)), (29, .slice a2 n2 c2), (30, .int .i64 (n2 : Int)), (31, .int .i64 (0 : Int))]) ⟨rfl, rfl, rfl, rfl, rfl, rfl, rfl, trivial⟩ ?_
    refine CW.loop (α := Nat × List Bool × Value × Seg × Seg × List PT × List Int) (fun (x_ : Nat × List Bool × Value × Seg × Seg × List PT × List Int) env_ w_ => ∃ i lf v s sM X T, x_ = (i, lf, v, s, sM, X, T) ∧ env_ = [(5, .slice a7 n8 c9), (7, .pointer (some ⟨b16, 0, none⟩)), (8, v), (9, .pointer (some ⟨pm29, 0, none⟩)), (29, .slice a2 n2 c2), (30, .int .i64 (n2 : Int)), (31, .int .i64 (i : Int))] ∧ Own w_ [s, sM, [(b16, .cells #[.slice a7 n8 c9, .slice none 0 0, .slice none 0 0] 59 (0, 0))], G12, F] ∧ (i ≤ order.length) ∧ (holdI cs order i = some (lf, X, T)) ∧ (Grow 4 1 encB v s lf) ∧ (MRef sM pm29 X T)) (fun (x_ : Nat × List Bool × Value × Seg × Seg × List PT × List Int) => order.length - x_.1) (0, (List.replicate cs.length true), v22, s23, s30, [], []) ⟨0, (List.replicate cs.length true), v22, s23, s30, [], [], rfl, rfl, hO28.pick [1, 0, 0, 0, 0] rfl, Nat.zero_le _, rfl, hg24, hM31⟩ ?_
    rintro _ _ w32 ⟨i, lf, v, s, sM, X, T, rfl, rfl, hO33, hi, hst, hg, hM⟩
    have hln := holdI_len hst; dsimp only at hln
    refine CW.seq ?_
    refine CW.region ?_
    refine LW.value (.free rfl) rfl (fun _ r => R.lss (r.e rfl) (r.e rfl)) ?_
    refine LW.nil (EW.then (?_))
    refine CW.seq ?_
    by_cases h34 : (i : Int) < (n2 : Int)
    · -- (i : Int) < (n2 : Int)
      refine CW.yes (kb (dT h34)) ?_
      refine CW.skip (EW.then (?_))
      refine CW.seq ?_
      refine CW.block ?_
      refine CW.seq ?_
      refine CW.region ?_
      obtain ⟨x35, hxx35⟩ : ∃ t, (order)[i]? = some t := ⟨_, List.getElem?_eq_getElem (by omega)⟩
      obtain ⟨blx35, olx35, hax35, hcx35⟩ := hs20.at_ _ _ hxx35
      refine LW.value (.free rfl) rfl (fun _ r => R.indexAddr_o (k := olx35 + i * 8) (r.e rfl) hax35 (r.e rfl) Try.runUnderlying22 Try.sizeOf41 (by omega) (by omega) (by simp)) ?_
      refine LW.value (.free rfl) rfl (fun _ r => R.loadn (vs := [.int .i64 x35.th, .bool x35.back, .int .i64 x35.d, .int .i64 x35.h, .int .i64 x35.off, .int .i64 x35.n, .int .i64 x35.code, .int .i64 x35.num]) (r.e rfl) Try.isAgg41 Try.sizeOf41 rfl (fun j v hj => hO33.pc (i := 3) rfl (hcx35 j v hj))) ?_
      refine LW.op (.free rfl) (OW.alloc (cs := #[.int .i64 0, .bool false, .int .i64 0, .int .i64 0, .int .i64 0, .int .i64 0, .int .i64 0, .int .i64 0]) rfl hO33 Try.zeroValue41 rfl ?_)
      intro b36 w37 hO38
      refine LW.op (.free rfl) (OW.storeall (i := 0) (vs := [.int .i64 x35.th, .bool x35.back, .int .i64 x35.d, .int .i64 x35.h, .int .i64 x35.off, .int .i64 x35.n, .int .i64 x35.code, .int .i64 x35.num]) rfl hO38 rfl rfl rfl rfl Try.sizeOf41 rfl ?_)
      intro w39 hO40
      refine LW.nil (EW.then (?_))
      refine CW.seq ?_
      refine CW.region ?_
      refine LW.value (.free rfl) rfl (fun _ r => R.move (r.e rfl)) ?_
      refine LW.value (.free rfl) rfl (fun _ r => R.move (r.e rfl)) ?_
      refine LW.value (.free rfl) rfl (fun _ r => R.fieldAddr (k := 0) (r.e rfl) Try.runUnderlying41 rfl Try.sizeOf3 rfl) ?_
      refine LW.value (.free rfl) rfl (fun _ r => R.load1 (r.e rfl) Try.isAgg3 (hO40.cell (i := 0) rfl rfl)) ?_
      obtain ⟨a41, cap42, rfl⟩ := Grow.slice hg
      have hsl43 := Grow.sl hg (fun _ _ => rfl)
      have hO44 := (hO40.move [1, 3] rfl).join
      refine LW.op (.free rfl) (OW.calls rfl (fun _ r => R.call (vs := [.pointer (some ⟨b16, 0, none⟩), (.slice a41 (lf).length cap42), .int .i64 x35.th]) Try.call27 rfl ⟨r.e rfl, r.e rfl, r.e rfl, trivial⟩) (v_next b16 (.slice none 0 0) none 0 0 _ _ _ _ _ cs (hC.mono (fun p hp => List.mem_append_right _ hp)) (by omega) _ _ _ lf (hsl43.mono (fun p hp => List.mem_append_left _ hp)) (by omega) (by subst hcs; exact calls_nodup l) x35.th _ (hO44.frame [3, 0] rfl)) ?_)
      rintro _ w45 (⟨rfl, hf46, hO47⟩ | ⟨k48, rfl, hf49, hO50⟩)
      ·
        replace hO47 : Own _ [[(b16, .cells #[.slice a7 n8 c9, .slice none 0 0, .slice none 0 0] 59 (0, 0))], s, G12, [(b36, .cells #[.int .i64 x35.th, .bool x35.back, .int .i64 x35.d, .int .i64 x35.h, .int .i64 x35.off, .int .i64 x35.n, .int .i64 x35.code, .int .i64 x35.num] 41 (0, 0))], sM, F] := hO47.perm' (by simp)
        refine LW.value (.free rfl) rfl (fun _ r => R.assign (r.e rfl)) ?_
        refine LW.nil (EW.then (?_))
        refine CW.seq ?_
        refine CW.seq ?_
        refine CW.region ?_
        refine LW.value (.free rfl) rfl (fun _ r => R.move (r.e rfl)) ?_
        refine LW.value (.free rfl) rfl (fun _ r => R.as (R.lss (r.e rfl) (r.e rfl)) rfl) ?_
        refine LW.value (.free rfl) rfl (fun _ r => R.move (r.e rfl)) ?_
        refine LW.off (.no rfl rfl rfl) rfl ?_
        refine LW.off (.no rfl rfl rfl) rfl ?_
        refine LW.off (.no rfl rfl rfl) rfl ?_
        refine LW.off (.no rfl rfl rfl) rfl ?_
        refine LW.off (.no rfl rfl rfl) rfl ?_
        refine LW.value (.free rfl) rfl (fun _ r => R.pick_yes (r.e rfl) (r.e rfl)) ?_
        refine LW.nil (EW.then (?_))
        refine CW.yes rfl ?_
        refine CW.seq ?_
        refine CW.region ?_
        refine LW.value (.free rfl) rfl (fun _ r => R.assign (r.e rfl)) ?_
        refine LW.nil (EW.then (?_))
        refine CW.ret (EW.then_ret (EW.inB_ret (EW.then_ret (EW.then_ret (EW.inB_ret (EW.then_ret (?_)))))))
        refine EW.ret1 rfl rfl ?_
        subst hcs
        exact ⟨congrArg Value.bool (decide_eq_false (holds_no (i := i + 1) (by rw [holdI_succ hst hxx35]; exact hStep_none hf46) (by omega))).symm, (Own.shrink1 (hO.pick [1, 0] rfl) hsub0 (hO47.pick [5, 2] rfl)).pick [1, 0] rfl⟩
      ·
        replace hO50 : Own _ [[(b16, .cells #[.slice a7 n8 c9, .slice none 0 0, .slice none 0 0] 59 (0, 0))], s, G12, [(b36, .cells #[.int .i64 x35.th, .bool x35.back, .int .i64 x35.d, .int .i64 x35.h, .int .i64 x35.off, .int .i64 x35.n, .int .i64 x35.code, .int .i64 x35.num] 41 (0, 0))], sM, F] := hO50.perm' (by simp)
        have hkk := firstAt_some _ _ _ (Nat.le_refl _) hf49
        refine LW.value (.free rfl) rfl (fun _ r => R.assign (r.e rfl)) ?_
        refine LW.nil (EW.then (?_))
        refine CW.seq ?_
        refine CW.seq ?_
        refine CW.region ?_
        refine LW.value (.free rfl) rfl (fun _ r => R.move (r.e rfl)) ?_
        refine LW.value (.free rfl) rfl (fun _ r => R.lss (r.e rfl) (r.e rfl)) ?_
        refine LW.value (.free rfl) rfl (fun _ r => R.move (r.e rfl)) ?_
        refine LW.value (.yes rfl rfl (kb (dF (by omega)))) rfl (fun _ r => R.move (r.e rfl)) ?_
        refine LW.value (.yes rfl rfl (kb (dF (by omega)))) rfl (fun _ r => R.move (r.e rfl)) ?_
        refine LW.value (.yes rfl rfl (kb (dF (by omega)))) rfl (fun _ r => R.move (r.e rfl)) ?_
        have hsl51 := Grow.sl hg (fun _ _ => rfl)
        have hO52 := (hO50.move [1, 1] rfl).join
        refine LW.op (.yes rfl rfl (kb (dF (by omega)))) (OW.calls rfl (fun _ r => R.call (vs := [.pointer (some ⟨b16, 0, none⟩), .slice a41 (lf).length cap42, .int .i64 (k48 : Int)]) Try.call28 rfl ⟨r.e rfl, r.e rfl, r.e rfl, trivial⟩) (v_may b16 (.slice none 0 0) none 0 0 _ _ _ _ _ cs (hC.mono (fun p hp => List.mem_append_right _ hp)) (by omega) _ _ _ lf (hsl51.mono (fun p hp => List.mem_append_left _ hp)) (by omega) k48 (by omega) _ (hO52.frame [1, 0] rfl)) ?_)
        rintro _ w53 ⟨rfl, hO54⟩
        replace hO54 : Own _ [[(b16, .cells #[.slice a7 n8 c9, .slice none 0 0, .slice none 0 0] 59 (0, 0))], s, G12, [(b36, .cells #[.int .i64 x35.th, .bool x35.back, .int .i64 x35.d, .int .i64 x35.h, .int .i64 x35.off, .int .i64 x35.n, .int .i64 x35.code, .int .i64 x35.num] 41 (0, 0))], sM, F] := hO54.perm' (by simp)
        refine LW.value (.yes rfl rfl (kb (dF (by omega)))) rfl (fun _ r => R.not (r.e rfl)) ?_
        refine LW.value (.free rfl) rfl (fun _ r => R.pick_no (r.e (kb (dF (by omega)))) (r.e rfl)) ?_
        refine LW.nil (EW.then (?_))
        by_cases h55 : May cs lf k48
        · -- May cs lf k48
          refine CW.no (kb (bN (dT h55))) ?_
          refine CW.skip (EW.then (?_))
          refine CW.seq ?_
          refine CW.region ?_
          refine LW.value (.free rfl) rfl (fun _ r => R.move (r.e rfl)) ?_
          refine LW.value (.free rfl) rfl (fun _ r => R.move (r.e rfl)) ?_
          obtain ⟨x56, hxx56⟩ : ∃ t, (cs)[k48]? = some t := ⟨_, List.getElem?_eq_getElem (by omega)⟩
          obtain ⟨blx56, olx56, hax56, hcx56⟩ := hC.at_ _ _ hxx56
          refine LW.value (.free rfl) rfl (fun _ r => R.indexAddr_o (k := olx56 + k48 * 10) (r.e rfl) hax56 (r.e rfl) Try.runUnderlying53 Try.sizeOf73 (by omega) (by omega) (by simp)) ?_
          refine LW.value (.free rfl) rfl (fun _ r => R.loadn (vs := [.int .i64 x56.th, .int .i64 x56.d, .int .i64 x56.h, .int .i64 x56.off, .int .i64 x56.n, .int .i64 x56.code, .int .i64 x56.num, .bool x56.done, .int .i64 x56.frm, .int .i64 x56.to_]) (r.e rfl) Try.isAgg73 Try.sizeOf73 rfl (fun j v hj => hO54.pc (i := 2) rfl (hcx56 j v hj))) ?_
          refine LW.op (.free rfl) (OW.alloc (cs := #[.int .i64 0, .int .i64 0, .int .i64 0, .int .i64 0, .int .i64 0, .int .i64 0, .int .i64 0, .bool false, .int .i64 0, .int .i64 0]) rfl hO54 Try.zeroValue73 rfl ?_)
          intro b57 w58 hO59
          refine LW.op (.free rfl) (OW.storeall (i := 0) (vs := [.int .i64 x56.th, .int .i64 x56.d, .int .i64 x56.h, .int .i64 x56.off, .int .i64 x56.n, .int .i64 x56.code, .int .i64 x56.num, .bool x56.done, .int .i64 x56.frm, .int .i64 x56.to_]) rfl hO59 rfl rfl rfl rfl Try.sizeOf73 rfl ?_)
          intro w60 hO61
          refine LW.nil (EW.then (?_))
          refine CW.seq ?_
          refine CW.seq ?_
          refine CW.region ?_
          refine LW.value (.free rfl) rfl (fun _ r => R.fieldAddr (k := 1) (r.e rfl) Try.runUnderlying41 rfl Try.sizeOf4 rfl) ?_
          refine LW.value (.free rfl) rfl (fun _ r => R.load1 (r.e rfl) Try.isAgg4 (hO61.cell (i := 4) rfl rfl)) ?_
          refine LW.value (.free rfl) rfl (fun _ r => R.move (r.e rfl)) ?_
          rcases Bool.eq_false_or_eq_true x35.back with h62 | h62
          · -- x35.back
            refine LW.off (.no rfl rfl (kb h62)) rfl ?_
            refine LW.off (.no rfl rfl (kb h62)) rfl ?_
            refine LW.off (.no rfl rfl (kb h62)) rfl ?_
            refine LW.off (.no rfl rfl (kb h62)) rfl ?_
            refine LW.off (.no rfl rfl (kb h62)) rfl ?_
            refine LW.value (.free rfl) rfl (fun _ r => R.pick_yes (r.e (kb h62)) (r.e rfl)) ?_
            refine LW.value (.free rfl) rfl (fun _ r => R.move (r.e rfl)) ?_
            refine LW.off (.no rfl rfl rfl) rfl ?_
            refine LW.off (.no rfl rfl rfl) rfl ?_
            refine LW.off (.no rfl rfl rfl) rfl ?_
            refine LW.off (.un rfl rfl rfl) rfl ?_
            refine LW.off (.un rfl rfl rfl) rfl ?_
            refine LW.off (.un rfl rfl rfl) rfl ?_
            refine LW.off (.un rfl rfl rfl) rfl ?_
            refine LW.off (.un rfl rfl rfl) rfl ?_
            refine LW.off (.no rfl rfl rfl) rfl ?_
            refine LW.value (.free rfl) rfl (fun _ r => R.pick_yes (r.e rfl) (r.e rfl)) ?_
            refine LW.value (.free rfl) rfl (fun _ r => R.move (r.e rfl)) ?_
            refine LW.off (.no rfl rfl rfl) rfl ?_
            refine LW.off (.no rfl rfl rfl) rfl ?_
            refine LW.off (.no rfl rfl rfl) rfl ?_
            refine LW.off (.no rfl rfl rfl) rfl ?_
            refine LW.off (.no rfl rfl rfl) rfl ?_
            refine LW.off (.no rfl rfl rfl) rfl ?_
            refine LW.off (.no rfl rfl rfl) rfl ?_
            refine LW.value (.free rfl) rfl (fun _ r => R.pick_yes (r.e rfl) (r.e rfl)) ?_
            refine LW.nil (EW.then (?_))
            refine CW.yes rfl ?_
            refine CW.seq ?_
            refine CW.region ?_
            refine LW.value (.free rfl) rfl (fun _ r => R.assign (r.e rfl)) ?_
            refine LW.nil (EW.then (?_))
            refine CW.ret (EW.then_ret (EW.inB_ret (EW.then_ret (EW.then_ret (EW.inB_ret (EW.then_ret (?_)))))))
            refine EW.ret1 rfl rfl ?_
            subst hcs
            exact ⟨congrArg Value.bool (decide_eq_false (holds_no (i := i + 1) (by rw [holdI_succ hst hxx35]; exact hStep_is hf49 hxx56 (by simp [isP, h62])) (by omega))).symm, (Own.shrink1 (hO.pick [1, 0] rfl) hsub0 (hO61.pick [6, 3] rfl)).pick [1, 0] rfl⟩
          · -- not: x35.back
            refine LW.value (.yes rfl rfl (kb h62)) rfl (fun _ r => R.fieldAddr (k := 1) (r.e rfl) Try.runUnderlying73 rfl Try.sizeOf36 rfl) ?_
            refine LW.value (.yes rfl rfl (kb h62)) rfl (fun _ r => R.loadn (vs := [.int .i64 x56.d, .int .i64 x56.h, .int .i64 x56.off, .int .i64 x56.n]) (r.e rfl) Try.isAgg36 Try.sizeOf36 rfl (hO61.cells (i := 0) rfl rfl)) ?_
            refine LW.value (.yes rfl rfl (kb h62)) rfl (fun _ r => R.fieldAddr (k := 2) (r.e rfl) Try.runUnderlying41 rfl Try.sizeOf36 rfl) ?_
            refine LW.value (.yes rfl rfl (kb h62)) rfl (fun _ r => R.loadn (vs := [.int .i64 x35.d, .int .i64 x35.h, .int .i64 x35.off, .int .i64 x35.n]) (r.e rfl) Try.isAgg36 Try.sizeOf36 rfl (hO61.cells (i := 4) rfl rfl)) ?_
            refine LW.value (.yes rfl rfl (kb h62)) rfl (fun _ r => eq36_neq (r.e rfl) (r.e rfl)) ?_
            refine LW.value (.free rfl) rfl (fun _ r => R.pick_no (r.e (kb h62)) (r.e rfl)) ?_
            refine LW.value (.free rfl) rfl (fun _ r => R.move (r.e rfl)) ?_
            by_cases h63 : x56.d = x35.d ∧ x56.h = x35.h ∧ x56.off = x35.off ∧ x56.n = x35.n
            · -- x56.d = x35.d ∧ x56.h = x35.h ∧ x56.off = x35.off ∧ x56.n = x35.n
              refine LW.value (.yes rfl rfl (kb (bN (dT h63)))) rfl (fun _ r => R.fieldAddr (k := 7) (r.e rfl) Try.runUnderlying73 rfl Try.sizeOf4 rfl) ?_
              refine LW.value (.yes rfl rfl (kb (bN (dT h63)))) rfl (fun _ r => R.load1 (r.e rfl) Try.isAgg4 (hO61.cell (i := 0) rfl rfl)) ?_
              refine LW.value (.yes rfl rfl (kb (bN (dT h63)))) rfl (fun _ r => R.move (r.e rfl)) ?_
              rcases Bool.eq_false_or_eq_true x56.done with h64 | h64
              · -- x56.done
                refine LW.value (.yes rfl rfl (kb h64)) rfl (fun _ r => R.fieldAddr (k := 5) (r.e rfl) Try.runUnderlying73 rfl Try.sizeOf39 rfl) ?_
                refine LW.value (.yes rfl rfl (kb h64)) rfl (fun _ r => R.loadn (vs := [.int .i64 x56.code, .int .i64 x56.num]) (r.e rfl) Try.isAgg39 Try.sizeOf39 rfl (hO61.cells (i := 0) rfl rfl)) ?_
                refine LW.value (.yes rfl rfl (kb h64)) rfl (fun _ r => R.fieldAddr (k := 6) (r.e rfl) Try.runUnderlying41 rfl Try.sizeOf39 rfl) ?_
                refine LW.value (.yes rfl rfl (kb h64)) rfl (fun _ r => R.loadn (vs := [.int .i64 x35.code, .int .i64 x35.num]) (r.e rfl) Try.isAgg39 Try.sizeOf39 rfl (hO61.cells (i := 4) rfl rfl)) ?_
                refine LW.value (.yes rfl rfl (kb h64)) rfl (fun _ r => eq39_neq (r.e rfl) (r.e rfl)) ?_
                refine LW.value (.yes rfl rfl (kb (bN (dT h63)))) rfl (fun _ r => R.pick_yes (r.e (kb h64)) (r.e rfl)) ?_
                refine LW.value (.free rfl) rfl (fun _ r => R.pick_no (r.e (kb (bN (dT h63)))) (r.e rfl)) ?_
                refine LW.value (.free rfl) rfl (fun _ r => R.move (r.e rfl)) ?_
                by_cases h65 : x56.code = x35.code ∧ x56.num = x35.num
                · -- x56.code = x35.code ∧ x56.num = x35.num
                  refine LW.value (.yes rfl rfl (kb (bN (dT h65)))) rfl (fun _ r => R.move (r.e rfl)) ?_
                  refine LW.value (.yes rfl rfl (kb (bN (dT h65)))) rfl (fun _ r => R.fieldAddr (k := 2) (r.e rfl) Try.runUnderlying41 rfl Try.sizeOf36 rfl) ?_
                  refine LW.value (.yes rfl rfl (kb (bN (dT h65)))) rfl (fun _ r => R.loadn (vs := [.int .i64 x35.d, .int .i64 x35.h, .int .i64 x35.off, .int .i64 x35.n]) (r.e rfl) Try.isAgg36 Try.sizeOf36 rfl (hO61.cells (i := 4) rfl rfl)) ?_
                  refine LW.value (.yes rfl rfl (kb (bN (dT h65)))) rfl (fun _ r => R.fieldAddr (k := 6) (r.e rfl) Try.runUnderlying41 rfl Try.sizeOf39 rfl) ?_
                  refine LW.value (.yes rfl rfl (kb (bN (dT h65)))) rfl (fun _ r => R.loadn (vs := [.int .i64 x35.code, .int .i64 x35.num]) (r.e rfl) Try.isAgg39 Try.sizeOf39 rfl (hO61.cells (i := 4) rfl rfl)) ?_
                  obtain ⟨b66, X67, T68, hr69⟩ : ∃ b X' T', tryP (X, T) x35.d x35.h x35.off x35.n x35.code x35.num = (b, X', T') := ⟨_, _, _, rfl⟩
                  have hlhr69 := try_len hr69
                  have hxhr69 := try_lenX hr69
                  refine LW.op (.yes rfl rfl (kb (bN (dT h65)))) (OW.calls rfl (fun _ r => R.call (vs := [.pointer (some ⟨pm29, 0, none⟩), .agg #[.int .i64 x35.d, .int .i64 x35.h, .int .i64 x35.off, .int .i64 x35.n], .agg #[.int .i64 x35.code, .int .i64 x35.num]]) Try.call29 rfl ⟨r.e rfl, r.e rfl, r.e rfl, trivial⟩) (l_try hM (by omega) hr69 (hbo _ (List.mem_of_getElem? hxx35)).1 (hO61.frame [5] rfl)) ?_)
                  rintro _ w70 ⟨s72, rfl, hM73, hO71⟩
                  replace hO71 := hO71.unframe1
                  refine LW.value (.yes rfl rfl (kb (bN (dT h65)))) rfl (fun _ r => R.not (r.e rfl)) ?_
                  refine LW.value (.free rfl) rfl (fun _ r => R.pick_no (r.e (kb (bN (dT h65)))) (r.e rfl)) ?_
                  refine LW.nil (EW.then (?_))
                  rcases Bool.eq_false_or_eq_true b66 with h74 | h74
                  · -- b66
                    refine CW.no (kb (bN h74)) ?_
                    refine CW.skip (EW.then (?_))
                    refine CW.region ?_
                    refine LW.value (.free rfl) rfl (fun _ r => R.move (r.e rfl)) ?_
                    refine LW.value (.free rfl) rfl (fun _ r => R.move (r.e rfl)) ?_
                    have hl75 : k48 < (lf).length := by (try simp only [List.length_append, List.length_set, List.length_singleton]); omega
                    obtain ⟨b76, cap77, ev78⟩ := Grow.opened hg (by omega)
                    injection ev78 with ev78a ev78b ev78c
                    subst ev78a ev78c
                    obtain ⟨q79, hq80⟩ : ∃ t, (lf)[k48]? = some t := ⟨_, List.getElem?_eq_getElem hl75⟩
                    refine LW.value (.free rfl) rfl (fun _ r => R.indexAddr (k := k48 * 1) (r.e rfl) (r.e rfl) Try.runUnderlying50 Try.sizeOf4 (by omega) (by omega) (by simp)) ?_
                    refine LW.op (.free rfl) (OW.storeElem (i := 3) (o := 0) (q' := false) (vs := [.bool false]) rfl hO71 rfl hg (fun _ _ => rfl) hq80 rfl rfl rfl rfl rfl Try.sizeOf4 rfl rfl ?_)
                    intro w81 s83 hg84 hO82
                    have hq85 := get_set_self (y := false) hq80
                    refine LW.nil (EW.inB_normal (EW.then (?_)))
                    refine CW.region ?_
                    refine LW.value (.free rfl) rfl (fun _ r => R.as (R.add (r.e rfl) (r.e rfl)) (congrArg (Value.int .i64) (wrap_i64 (by omega) (by omega)))) ?_
                    refine LW.value (.free rfl) rfl (fun _ r => R.move (r.e rfl)) ?_
                    refine LW.nil ?_
                    exact EW.sub (env' := [(5, .slice a7 n8 c9), (7, .pointer (some ⟨b16, 0, none⟩)), (8, (.slice (some ⟨b76, 0, none⟩) (lf).length cap42)), (9, .pointer (some ⟨pm29, 0, none⟩)), (29, .slice a2 n2 c2), (30, .int .i64 (n2 : Int)), (31, .int .i64 ((i + 1) : Int))]) ⟨rfl, rfl, rfl, rfl, rfl, rfl, rfl, trivial⟩ (EW.round (i + 1, (lf.set k48 false), .slice (some ⟨b76, 0, none⟩) (lf).length cap42, s83, s72, X67, T68) ⟨i + 1, (lf.set k48 false), .slice (some ⟨b76, 0, none⟩) (lf).length cap42, s83, s72, X67, T68, rfl, rfl, hO82.pick [3, 0, 1, 1, 2] rfl, by omega, by rw [holdI_succ hst hxx35, hStep_yes hf49 hxx56 (by simp [isP, firstAt_th _ _ _ (Nat.le_refl _) hf49 hxx56, h62, h63, h64, h65]) h55 (hr69.trans (by rw [h74]))], hg84, hM73⟩ (by dsimp only; omega))
                  · -- not: b66
                    refine CW.yes (kb (bN h74)) ?_
                    refine CW.seq ?_
                    refine CW.region ?_
                    refine LW.value (.free rfl) rfl (fun _ r => R.assign (r.e rfl)) ?_
                    refine LW.nil (EW.then (?_))
                    refine CW.ret (EW.then_ret (EW.inB_ret (EW.then_ret (EW.then_ret (EW.inB_ret (EW.then_ret (?_)))))))
                    refine EW.ret1 rfl rfl ?_
                    subst hcs
                    exact ⟨congrArg Value.bool (decide_eq_false (holds_no (i := i + 1) (by rw [holdI_succ hst hxx35]; exact hStep_try hf49 (hr69.trans (by rw [h74]))) (by omega))).symm, (Own.shrink1 (hO.pick [1, 0] rfl) hsub0 (hO71.pick [6, 4] rfl)).pick [1, 0] rfl⟩
                · -- not: x56.code = x35.code ∧ x56.num = x35.num
                  refine LW.off (.no rfl rfl (kb (bN (dF h65)))) rfl ?_
                  refine LW.off (.no rfl rfl (kb (bN (dF h65)))) rfl ?_
                  refine LW.off (.no rfl rfl (kb (bN (dF h65)))) rfl ?_
                  refine LW.off (.no rfl rfl (kb (bN (dF h65)))) rfl ?_
                  refine LW.off (.no rfl rfl (kb (bN (dF h65)))) rfl ?_
                  refine LW.off (.no rfl rfl (kb (bN (dF h65)))) rfl ?_
                  refine LW.off (.no rfl rfl (kb (bN (dF h65)))) rfl ?_
                  refine LW.value (.free rfl) rfl (fun _ r => R.pick_yes (r.e (kb (bN (dF h65)))) (r.e rfl)) ?_
                  refine LW.nil (EW.then (?_))
                  refine CW.yes rfl ?_
                  refine CW.seq ?_
                  refine CW.region ?_
                  refine LW.value (.free rfl) rfl (fun _ r => R.assign (r.e rfl)) ?_
                  refine LW.nil (EW.then (?_))
                  refine CW.ret (EW.then_ret (EW.inB_ret (EW.then_ret (EW.then_ret (EW.inB_ret (EW.then_ret (?_)))))))
                  refine EW.ret1 rfl rfl ?_
                  subst hcs
                  exact ⟨congrArg Value.bool (decide_eq_false (holds_no (i := i + 1) (by rw [holdI_succ hst hxx35]; exact hStep_is hf49 hxx56 (by simp [isP, h62, h63, h64, h65])) (by omega))).symm, (Own.shrink1 (hO.pick [1, 0] rfl) hsub0 (hO61.pick [6, 3] rfl)).pick [1, 0] rfl⟩
              · -- not: x56.done
                refine LW.off (.no rfl rfl (kb h64)) rfl ?_
                refine LW.off (.no rfl rfl (kb h64)) rfl ?_
                refine LW.off (.no rfl rfl (kb h64)) rfl ?_
                refine LW.off (.no rfl rfl (kb h64)) rfl ?_
                refine LW.off (.no rfl rfl (kb h64)) rfl ?_
                refine LW.value (.yes rfl rfl (kb (bN (dT h63)))) rfl (fun _ r => R.pick_no (r.e (kb h64)) (r.e rfl)) ?_
                refine LW.value (.free rfl) rfl (fun _ r => R.pick_no (r.e (kb (bN (dT h63)))) (r.e rfl)) ?_
                refine LW.value (.free rfl) rfl (fun _ r => R.move (r.e rfl)) ?_
                refine LW.value (.yes rfl rfl rfl) rfl (fun _ r => R.move (r.e rfl)) ?_
                refine LW.value (.yes rfl rfl rfl) rfl (fun _ r => R.fieldAddr (k := 2) (r.e rfl) Try.runUnderlying41 rfl Try.sizeOf36 rfl) ?_
                refine LW.value (.yes rfl rfl rfl) rfl (fun _ r => R.loadn (vs := [.int .i64 x35.d, .int .i64 x35.h, .int .i64 x35.off, .int .i64 x35.n]) (r.e rfl) Try.isAgg36 Try.sizeOf36 rfl (hO61.cells (i := 4) rfl rfl)) ?_
                refine LW.value (.yes rfl rfl rfl) rfl (fun _ r => R.fieldAddr (k := 6) (r.e rfl) Try.runUnderlying41 rfl Try.sizeOf39 rfl) ?_
                refine LW.value (.yes rfl rfl rfl) rfl (fun _ r => R.loadn (vs := [.int .i64 x35.code, .int .i64 x35.num]) (r.e rfl) Try.isAgg39 Try.sizeOf39 rfl (hO61.cells (i := 4) rfl rfl)) ?_
                obtain ⟨b86, X87, T88, hr89⟩ : ∃ b X' T', tryP (X, T) x35.d x35.h x35.off x35.n x35.code x35.num = (b, X', T') := ⟨_, _, _, rfl⟩
                have hlhr89 := try_len hr89
                have hxhr89 := try_lenX hr89
                refine LW.op (.yes rfl rfl rfl) (OW.calls rfl (fun _ r => R.call (vs := [.pointer (some ⟨pm29, 0, none⟩), .agg #[.int .i64 x35.d, .int .i64 x35.h, .int .i64 x35.off, .int .i64 x35.n], .agg #[.int .i64 x35.code, .int .i64 x35.num]]) Try.call29 rfl ⟨r.e rfl, r.e rfl, r.e rfl, trivial⟩) (l_try hM (by omega) hr89 (hbo _ (List.mem_of_getElem? hxx35)).1 (hO61.frame [5] rfl)) ?_)
                rintro _ w90 ⟨s92, rfl, hM93, hO91⟩
                replace hO91 := hO91.unframe1
                refine LW.value (.yes rfl rfl rfl) rfl (fun _ r => R.not (r.e rfl)) ?_
                refine LW.value (.free rfl) rfl (fun _ r => R.pick_no (r.e rfl) (r.e rfl)) ?_
                refine LW.nil (EW.then (?_))
                rcases Bool.eq_false_or_eq_true b86 with h94 | h94
                · -- b86
                  refine CW.no (kb (bN h94)) ?_
                  refine CW.skip (EW.then (?_))
                  refine CW.region ?_
                  refine LW.value (.free rfl) rfl (fun _ r => R.move (r.e rfl)) ?_
                  refine LW.value (.free rfl) rfl (fun _ r => R.move (r.e rfl)) ?_
                  have hl95 : k48 < (lf).length := by (try simp only [List.length_append, List.length_set, List.length_singleton]); omega
                  obtain ⟨b96, cap97, ev98⟩ := Grow.opened hg (by omega)
                  injection ev98 with ev98a ev98b ev98c
                  subst ev98a ev98c
                  obtain ⟨q99, hq100⟩ : ∃ t, (lf)[k48]? = some t := ⟨_, List.getElem?_eq_getElem hl95⟩
                  refine LW.value (.free rfl) rfl (fun _ r => R.indexAddr (k := k48 * 1) (r.e rfl) (r.e rfl) Try.runUnderlying50 Try.sizeOf4 (by omega) (by omega) (by simp)) ?_
                  refine LW.op (.free rfl) (OW.storeElem (i := 3) (o := 0) (q' := false) (vs := [.bool false]) rfl hO91 rfl hg (fun _ _ => rfl) hq100 rfl rfl rfl rfl rfl Try.sizeOf4 rfl rfl ?_)
                  intro w101 s103 hg104 hO102
                  have hq105 := get_set_self (y := false) hq100
                  refine LW.nil (EW.inB_normal (EW.then (?_)))
                  refine CW.region ?_
                  refine LW.value (.free rfl) rfl (fun _ r => R.as (R.add (r.e rfl) (r.e rfl)) (congrArg (Value.int .i64) (wrap_i64 (by omega) (by omega)))) ?_
                  refine LW.value (.free rfl) rfl (fun _ r => R.move (r.e rfl)) ?_
                  refine LW.nil ?_
                  exact EW.sub (env' := [(5, .slice a7 n8 c9), (7, .pointer (some ⟨b16, 0, none⟩)), (8, (.slice (some ⟨b96, 0, none⟩) (lf).length cap42)), (9, .pointer (some ⟨pm29, 0, none⟩)), (29, .slice a2 n2 c2), (30, .int .i64 (n2 : Int)), (31, .int .i64 ((i + 1) : Int))]) ⟨rfl, rfl, rfl, rfl, rfl, rfl, rfl, trivial⟩ (EW.round (i + 1, (lf.set k48 false), .slice (some ⟨b96, 0, none⟩) (lf).length cap42, s103, s92, X87, T88) ⟨i + 1, (lf.set k48 false), .slice (some ⟨b96, 0, none⟩) (lf).length cap42, s103, s92, X87, T88, rfl, rfl, hO102.pick [3, 0, 1, 1, 2] rfl, by omega, by rw [holdI_succ hst hxx35, hStep_yes hf49 hxx56 (by simp [isP, firstAt_th _ _ _ (Nat.le_refl _) hf49 hxx56, h62, h63, h64]) h55 (hr89.trans (by rw [h94]))], hg104, hM93⟩ (by dsimp only; omega))
                · -- not: b86
                  refine CW.yes (kb (bN h94)) ?_
                  refine CW.seq ?_
                  refine CW.region ?_
                  refine LW.value (.free rfl) rfl (fun _ r => R.assign (r.e rfl)) ?_
                  refine LW.nil (EW.then (?_))
                  refine CW.ret (EW.then_ret (EW.inB_ret (EW.then_ret (EW.then_ret (EW.inB_ret (EW.then_ret (?_)))))))
                  refine EW.ret1 rfl rfl ?_
                  subst hcs
                  exact ⟨congrArg Value.bool (decide_eq_false (holds_no (i := i + 1) (by rw [holdI_succ hst hxx35]; exact hStep_try hf49 (hr89.trans (by rw [h94]))) (by omega))).symm, (Own.shrink1 (hO.pick [1, 0] rfl) hsub0 (hO91.pick [6, 4] rfl)).pick [1, 0] rfl⟩
            · -- not: x56.d = x35.d ∧ x56.h = x35.h ∧ x56.off = x35.off ∧ x56.n = x35.n
              refine LW.off (.no rfl rfl (kb (bN (dF h63)))) rfl ?_
              refine LW.off (.no rfl rfl (kb (bN (dF h63)))) rfl ?_
              refine LW.off (.no rfl rfl (kb (bN (dF h63)))) rfl ?_
              refine LW.off (.un rfl rfl rfl) rfl ?_
              refine LW.off (.un rfl rfl rfl) rfl ?_
              refine LW.off (.un rfl rfl rfl) rfl ?_
              refine LW.off (.un rfl rfl rfl) rfl ?_
              refine LW.off (.un rfl rfl rfl) rfl ?_
              refine LW.off (.no rfl rfl (kb (bN (dF h63)))) rfl ?_
              refine LW.value (.free rfl) rfl (fun _ r => R.pick_yes (r.e (kb (bN (dF h63)))) (r.e rfl)) ?_
              refine LW.value (.free rfl) rfl (fun _ r => R.move (r.e rfl)) ?_
              refine LW.off (.no rfl rfl rfl) rfl ?_
              refine LW.off (.no rfl rfl rfl) rfl ?_
              refine LW.off (.no rfl rfl rfl) rfl ?_
              refine LW.off (.no rfl rfl rfl) rfl ?_
              refine LW.off (.no rfl rfl rfl) rfl ?_
              refine LW.off (.no rfl rfl rfl) rfl ?_
              refine LW.off (.no rfl rfl rfl) rfl ?_
              refine LW.value (.free rfl) rfl (fun _ r => R.pick_yes (r.e rfl) (r.e rfl)) ?_
              refine LW.nil (EW.then (?_))
              refine CW.yes rfl ?_
              refine CW.seq ?_
              refine CW.region ?_
              refine LW.value (.free rfl) rfl (fun _ r => R.assign (r.e rfl)) ?_
              refine LW.nil (EW.then (?_))
              refine CW.ret (EW.then_ret (EW.inB_ret (EW.then_ret (EW.then_ret (EW.inB_ret (EW.then_ret (?_)))))))
              refine EW.ret1 rfl rfl ?_
              subst hcs
              exact ⟨congrArg Value.bool (decide_eq_false (holds_no (i := i + 1) (by rw [holdI_succ hst hxx35]; exact hStep_is hf49 hxx56 (by simp [isP, h62, h63])) (by omega))).symm, (Own.shrink1 (hO.pick [1, 0] rfl) hsub0 (hO61.pick [6, 3] rfl)).pick [1, 0] rfl⟩
        · -- not: May cs lf k48
          refine CW.yes (kb (bN (dF h55))) ?_
          refine CW.seq ?_
          refine CW.region ?_
          refine LW.value (.free rfl) rfl (fun _ r => R.assign (r.e rfl)) ?_
          refine LW.nil (EW.then (?_))
          refine CW.ret (EW.then_ret (EW.inB_ret (EW.then_ret (EW.then_ret (EW.inB_ret (EW.then_ret (?_)))))))
          refine EW.ret1 rfl rfl ?_
          subst hcs
          exact ⟨congrArg Value.bool (decide_eq_false (holds_no (i := i + 1) (by rw [holdI_succ hst hxx35]; exact hStep_may hf49 h55) (by omega))).symm, (Own.shrink1 (hO.pick [1, 0] rfl) hsub0 (hO54.pick [5, 2] rfl)).pick [1, 0] rfl⟩
    · -- not: (i : Int) < (n2 : Int)
      refine CW.no (kb (dF h34)) ?_
      refine CW.exit (EW.then_exit (EW.then_exit (EW.inB_same (EW.then (?_)))))
      refine CW.seq ?_
      refine CW.region ?_
      refine LW.value (.free rfl) rfl (fun _ r => R.move (r.e rfl)) ?_
      refine LW.value (.free rfl) rfl (fun _ r => R.move (r.e rfl)) ?_
      obtain ⟨a106, cap107, rfl⟩ := Grow.slice hg
      have hsl108 := Grow.sl hg (fun _ _ => rfl)
      have hO109 := (hO33.move [0, 2] rfl).join
      refine LW.op (.free rfl) (OW.calls rfl (fun _ r => R.call (vs := [.pointer (some ⟨b16, 0, none⟩), (.slice a106 (lf).length cap107)]) Try.call23 rfl ⟨r.e rfl, r.e rfl, trivial⟩) (v_done b16 (.slice none 0 0) none 0 0 _ _ _ _ _ cs (hC.mono (fun p hp => List.mem_append_right _ hp)) (by omega) _ _ _ lf (hsl108.mono (fun p hp => List.mem_append_left _ hp)) (by omega) _ (hO109.frame [2, 0] rfl)) ?_)
      rintro _ w110 ⟨rfl, hO111⟩
      replace hO111 : Own _ [[(b16, .cells #[.slice a7 n8 c9, .slice none 0 0, .slice none 0 0] 59 (0, 0))], s, G12, sM, F] := hO111.perm' (by simp)
      refine LW.value (.free rfl) rfl (fun _ r => R.assign (r.e rfl)) ?_
      refine LW.nil (EW.then (?_))
      refine CW.ret ?_
      refine EW.ret1 rfl rfl ?_
      subst hcs
      exact ⟨congrArg Value.bool (decide_eq_decide.2 (holds_iff h6 hst (by omega))), (Own.shrink1 (hO.pick [1, 0] rfl) hsub0 (hO111.pick [4, 2] rfl)).pick [1, 0] rfl⟩
  · -- not: (checkL l) = 0
    refine CW.yes (kb (bN (dF h6))) ?_
    refine CW.seq ?_
    refine CW.region ?_
    refine LW.value (.free rfl) rfl (fun _ r => R.assign (r.e rfl)) ?_
    refine LW.nil (EW.then (?_))
    refine CW.ret (EW.then_ret (?_))
    refine EW.ret1 rfl rfl ?_
    exact ⟨congrArg Value.bool (decide_eq_false (fun h => h6 h.1)).symm, hO5.pick [1, 1] rfl⟩

end Go.Sd
