/-
  Layer 9's reference, walked: Accepts, Holds.
-/
import Derived.Test.YtgkbmelecalllaaSeK
import Derived.Test.YtgkbmelecalllaaSf3
set_option linter.unusedSimpArgs false
set_option linter.unusedVariables false
set_option linter.unusedSectionVars false
namespace Go.Sd
open Go Go.Proofs
variable [Str]
set_option maxRecDepth 100000 in
set_option maxHeartbeats 1000000 in
theorem r_accepts (G F : Seg) (a : Option Addr) (n c : Nat) (l : List Ev) (hs : Sl G 8 encE a n c l) (hn : l.length ≤ 1000) (w : World) (hO : Own w [G, F]) : Calls Try.prog 9 [.slice a n c].toArray w (Ret fun v w' => v = .bool (decide (AccP l)) ∧ Own w' [G, F]) := by
  have hl := hs.hlen
  refine enter (n := 33) Try.func9 rfl rfl rfl ?_
  refine CW.seq ?_
  refine CW.region ?_
  refine LW.value (.free rfl) rfl (fun _ r => R.assign (r.e rfl)) ?_
  refine LW.nil (EW.then (?_))
  refine CW.seq ?_
  refine CW.region ?_
  refine LW.value (.free rfl) rfl (fun _ r => R.move (r.e rfl)) ?_
  refine LW.op (.free rfl) (OW.calls rfl (fun _ r => R.call (vs := [.slice a n c]) Try.call16 rfl ⟨r.e rfl, trivial⟩) (e_calls _ _ _ _ _ l hs (by omega) _ (hO.frame [0] rfl)) ?_)
  rintro _ w4 ⟨v1, s2, rfl, hg3, hO5⟩
  replace hO5 := hO5.unframe2
  refine LW.value (.free rfl) rfl (fun _ r => R.move (r.e rfl)) ?_
  refine LW.value (.free rfl) rfl (fun _ r => R.extract (r.e rfl) rfl) ?_
  refine LW.value (.free rfl) rfl (fun _ r => R.extract (r.e rfl) rfl) ?_
  refine LW.value (.free rfl) rfl (fun _ r => R.assign (r.e rfl)) ?_
  refine LW.value (.free rfl) rfl (fun _ r => R.assign (r.e rfl)) ?_
  refine LW.nil (EW.then (?_))
  refine CW.seq ?_
  refine CW.seq ?_
  refine CW.region ?_
  refine LW.value (.free rfl) rfl (fun _ r => R.move (r.e rfl)) ?_
  refine LW.value (.free rfl) rfl (fun _ r => R.neq (r.e rfl) (r.e rfl)) ?_
  refine LW.nil (EW.then (?_))
  by_cases h6 : (checkL l) = 0
  · -- (checkL l) = 0
    refine CW.no (kb (bN (dT h6))) ?_
    refine CW.skip (EW.then (?_))
    refine CW.seq ?_
    rw [if_pos h6] at hg3
    have hcl := callsI_len l l.length
    obtain ⟨cs, hcs⟩ : ∃ z, z = callsI l l.length := ⟨_, rfl⟩
    rw [← hcs] at hg3 hcl
    obtain ⟨a7, n8, c9, ev10, hsl11⟩ := Grow.shut hg3 (fun _ _ => rfl)
    subst ev10
    obtain ⟨G12, hG13⟩ : ∃ g : Seg, g = (s2 : Seg) ++ G := ⟨_, rfl⟩
    have hO14 : Own _ [G12, F] := (hO5.pick [0, 0, 0] rfl).perm' (List.Perm.of_eq (by simp [hG13]))
    have hs15 : ∀ p ∈ G, p ∈ G12 := by rw [hG13]; intro p hp; simp [hp]
    have hC := hsl11.mono (G' := G12) (by rw [hG13]; intro p hp; simp [hp])
    have hlhC := hC.hlen
    have hsub0 := hs15
    have hs0 := hs.mono hs15
    refine CW.region ?_
    refine LW.value (.free rfl) rfl (fun _ r => R.move (r.e rfl)) ?_
    refine LW.value (.free rfl) rfl (fun _ r => R.len_slice (r.e rfl) Try.runUnderlying47) ?_
    refine LW.op (.free rfl) (OW.makeSlice (u := .bool false) rfl hO14 elemBool rfl rfl (by omega) (by omega) (by omega) ?_)
    intro b16 w17 hO18
    have hg19 := grow_made (enc := encB) (x := false) (b := b16) (E := 4) (n := ((n8 : Int)).toNat) rfl
    refine LW.value (.free rfl) rfl (fun _ r => R.assign (r.e rfl)) ?_
    refine LW.nil (EW.then (?_))
    refine CW.seq ?_
    refine CW.seq ?_
    refine CW.region ?_
    refine LW.value (.free rfl) rfl (fun _ r => R.assign (r.e rfl)) ?_
    refine LW.nil (EW.then (?_))
    refine CW.block ?_
    refine CW.sub (env' := [(0, .slice a n c), (3, .slice a7 n8 c9), (5, (.slice (some ⟨b16, 0, none⟩) (n8 : Int).toNat (n8 : Int).toNat)), (6, .int .i64 (0 : Int))]) ⟨rfl, rfl, rfl, rfl, trivial⟩ ?_
    refine CW.loop (α := Nat × Value × Seg) (fun (x_ : Nat × Value × Seg) env_ w_ => ∃ i0 v s, x_ = (i0, v, s) ∧ env_ = [(0, .slice a n c), (3, .slice a7 n8 c9), (5, v), (6, .int .i64 (i0 : Int))] ∧ Own w_ [s, G12, F] ∧ (i0 ≤ cs.length) ∧ (Grow 4 1 encB v s (fillB cs.length i0))) (fun (x_ : Nat × Value × Seg) => cs.length - x_.1) (0, .slice (some ⟨b16, 0, none⟩) (n8 : Int).toNat (n8 : Int).toNat, [(b16, .cells (List.replicate (n8 : Int).toNat (.bool false)).toArray 4 (0, 0))]) ⟨0, .slice (some ⟨b16, 0, none⟩) (n8 : Int).toNat (n8 : Int).toNat, [(b16, .cells (List.replicate (n8 : Int).toNat (.bool false)).toArray 4 (0, 0))], rfl, rfl, hO18.pick [0, 0, 0] rfl, Nat.zero_le _, by rw [fillB_0]; simpa [hlhC] using hg19⟩ ?_
    rintro _ _ w20 ⟨i0, v, s, rfl, rfl, hO21, hi0, hg⟩
    have hfl := fillB_len hi0
    refine CW.seq ?_
    refine CW.seq ?_
    refine CW.region ?_
    refine LW.value (.free rfl) rfl (fun _ r => R.move (r.e rfl)) ?_
    refine LW.value (.free rfl) rfl (fun _ r => R.move (r.e rfl)) ?_
    obtain ⟨a22, cap23, rfl⟩ := Grow.slice hg
    refine LW.value (.free rfl) rfl (fun _ r => R.len_slice (r.e rfl) Try.runUnderlying50) ?_
    refine LW.value (.free rfl) rfl (fun _ r => R.lss (r.e rfl) (r.e rfl)) ?_
    refine LW.nil (EW.then (?_))
    by_cases h24 : (i0 : Int) < (((fillB cs.length i0)).length : Int)
    · -- (i0 : Int) < (((fillB cs.length i0)).length : Int)
      refine CW.yes (kb (dT h24)) ?_
      refine CW.skip (EW.then (?_))
      refine CW.seq ?_
      refine CW.block ?_
      refine CW.region ?_
      refine LW.value (.free rfl) rfl (fun _ r => R.move (r.e rfl)) ?_
      refine LW.value (.free rfl) rfl (fun _ r => R.move (r.e rfl)) ?_
      have hl25 : i0 < ((fillB cs.length i0)).length := by (try simp only [List.length_append, List.length_set, List.length_singleton]); omega
      obtain ⟨b26, cap27, ev28⟩ := Grow.opened hg (by omega)
      injection ev28 with ev28a ev28b ev28c
      subst ev28a ev28c
      obtain ⟨q29, hq30⟩ : ∃ t, ((fillB cs.length i0))[i0]? = some t := ⟨_, List.getElem?_eq_getElem hl25⟩
      refine LW.value (.free rfl) rfl (fun _ r => R.indexAddr (k := i0 * 1) (r.e rfl) (r.e rfl) Try.runUnderlying50 Try.sizeOf4 (by omega) (by omega) (by simp)) ?_
      refine LW.op (.free rfl) (OW.storeElem (i := 0) (o := 0) (q' := true) (vs := [.bool true]) rfl hO21 rfl hg (fun _ _ => rfl) hq30 rfl rfl rfl rfl rfl Try.sizeOf4 rfl rfl ?_)
      intro w31 s33 hg34 hO32
      have hq35 := get_set_self (y := true) hq30
      refine LW.nil (EW.inB_normal (EW.then (?_)))
      refine CW.region ?_
      refine LW.value (.free rfl) rfl (fun _ r => R.move (r.e rfl)) ?_
      refine LW.value (.free rfl) rfl (fun _ r => R.as (R.add (r.e rfl) (r.e rfl)) (congrArg (Value.int .i64) (wrap_i64 (by omega) (by omega)))) ?_
      refine LW.value (.free rfl) rfl (fun _ r => R.assign (r.e rfl)) ?_
      refine LW.nil ?_
      exact EW.sub (env' := [(0, .slice a n c), (3, .slice a7 n8 c9), (5, (.slice (some ⟨b26, 0, none⟩) ((fillB cs.length i0)).length cap23)), (6, .int .i64 ((i0 + 1) : Int))]) ⟨rfl, rfl, rfl, rfl, trivial⟩ (EW.round (i0 + 1, .slice (some ⟨b26, 0, none⟩) ((fillB cs.length i0)).length cap23, s33) ⟨i0 + 1, .slice (some ⟨b26, 0, none⟩) ((fillB cs.length i0)).length cap23, s33, rfl, rfl, hO32.pick [0, 0, 0] rfl, by omega, by have h := hg34; rw [fillB_set (by omega)] at h; exact h⟩ (by dsimp only; omega))
    · -- not: (i0 : Int) < (((fillB cs.length i0)).length : Int)
      refine CW.no (kb (dF h24)) ?_
      refine CW.exit (EW.then_exit (EW.then_exit (EW.inB_same (EW.then (?_)))))
      refine CW.seq ?_
      refine CW.region ?_
      refine LW.value (.free rfl) rfl (fun _ r => R.move (r.e rfl)) ?_
      refine LW.value (.free rfl) rfl (fun _ r => R.move (r.e rfl)) ?_
      refine LW.value (.free rfl) rfl (fun _ r => R.build (v := .agg #[.slice none 0 0, .slice none 0 0]) (vs := []) trivial (by simp [go_sem])) ?_
      refine LW.op (.free rfl) (OW.box (cs := #[.slice none 0 0, .slice none 0 0]) rfl hO21 rfl rfl ?_)
      intro b36 w37 hO38
      have hO39 := hO38.nil
      refine LW.value (.free rfl) rfl (fun _ r => R.move (r.e rfl)) ?_
      refine LW.op (.free rfl) (OW.calls rfl (fun _ r => R.call (vs := [.slice a n c]) Try.call18 rfl ⟨r.e rfl, trivial⟩) (e_handles _ _ _ _ _ l hs0 (by omega) _ (hO39.frame [3] rfl)) ?_)
      rintro v40 w43 ⟨s41, hg42, hO44⟩
      replace hO44 := hO44.unframe2
      have hg45 : Grow 4 1 encB (.slice a22 ((fillB cs.length i0)).length cap23) s (List.replicate cs.length true) := by rw [show List.replicate cs.length true = fillB cs.length i0 from by rw [show i0 = cs.length from by omega, fillB_all]]; exact hg
      obtain ⟨a46, n47, c48, ev49, hsl50⟩ := Grow.shut hg45 (fun _ _ => rfl)
      injection ev49 with e1 e2 e3; subst e1 e2 e3
      obtain ⟨a51, n52, c53, ev54, hsl55⟩ := Grow.shut hg42 (fun _ _ => rfl)
      subst ev54
      have hO56 : Own _ [[(b36, .cells #[.slice none 0 0, .slice none 0 0] 34 (0, 0))], (s ++ (s41 ++ G12)), F] := (hO44.pick [3, 3, 0, 0, 1] rfl).perm' (List.Perm.of_eq (by simp))
      have hhl := (handR_mem l l.length (Nat.le_refl _)).2
      have hcnt : cntL (List.replicate cs.length true) ≤ 1000 := by simp [cntL]; omega
      have hS : SearchC cs (handR l l.length) (List.replicate cs.length true) [] [] := search_all cs _ (by omega) (by omega) _ _ _ _ (Nat.le_refl _) (by simp) (by simp; omega) (by simp; omega)
      refine LW.op (.free rfl) (OW.calls rfl (fun _ r => R.call (vs := [.slice a7 n8 c9, .slice a22 ((fillB cs.length i0)).length cap23, .pointer (some ⟨b36, 0, none⟩), (.slice a51 n52 c53)]) Try.call17 rfl ⟨r.e rfl, r.e rfl, r.e rfl, r.e rfl, trivial⟩) (hS _ _ _ _ _ (hC.mono (by intro p hp; simp [hp])) _ _ _ (hsl50.mono (by intro p hp; simp [hp])) _ _ _ (hsl55.mono (by intro p hp; simp [hp])) _ _ (KRef.mono KRef.empty (by intro p hp; simp at hp)) _ (hO56.frame [0, 0] rfl)) ?_)
      rintro _ w59 ⟨G57, hs58, rfl, hO60⟩
      replace hO60 := hO60.unframe2
      refine LW.value (.free rfl) rfl (fun _ r => R.assign (r.e rfl)) ?_
      refine LW.nil (EW.then (?_))
      refine CW.ret ?_
      refine EW.ret1 rfl rfl ?_
      exact ⟨by subst hcs; exact congrArg Value.bool (decide_eq_decide.2 ⟨fun h => ⟨h6, h⟩, fun h => h.2⟩), (Own.shrink1 (hO.pick [1, 0] rfl) (fun p hp => hs58 p (by have := hsub0 p hp; simp [this])) (hO60.pick [2, 1] rfl)).pick [1, 0] rfl⟩
  · -- not: (checkL l) = 0
    refine CW.yes (kb (bN (dF h6))) ?_
    refine CW.seq ?_
    refine CW.region ?_
    refine LW.value (.free rfl) rfl (fun _ r => R.assign (r.e rfl)) ?_
    refine LW.nil (EW.then (?_))
    refine CW.ret (EW.then_ret (?_))
    refine EW.ret1 rfl rfl ?_
    exact ⟨congrArg Value.bool (decide_eq_false (fun h => h6 h.1)).symm, hO5.pick [1, 1] rfl⟩

end Go.Sd
