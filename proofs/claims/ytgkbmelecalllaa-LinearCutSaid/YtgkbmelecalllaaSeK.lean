/-
  Layer 9's reference, walked: the search.
-/
import Derived.Test.YtgkbmelecalllaaSeJ
set_option linter.unusedSimpArgs false
set_option linter.unusedVariables false
set_option linter.unusedSectionVars false
namespace Go.Sd
open Go Go.Proofs
variable [Str]
def SearchC (cs : List Cal) (hs : List Int) (left : List Bool) (X : List PT) (T : List Int) : Prop :=
  ∀ (G F : Seg) (aC : Option Addr) (nC cC : Nat) (hC : Sl G 10 encL aC nC cC cs) (aL : Option Addr) (nL cL : Nat) (hL : Sl G 1 encB aL nL cL left) (aH : Option Addr) (nH cH : Nat) (hH : Sl G 1 encI aH nH cH hs) (k : Nat) (ks : Array Value) (hK : KRef G ks X T) (w : World) (hO : Own w [[(k, .cells ks 34 (0, 0))], G, F]),
    Calls Try.prog 17 [.slice aC nC cC, .slice aL nL cL, .pointer (some ⟨k, 0, none⟩), .slice aH nH cH].toArray w (Ret fun v w' => ∃ G', (∀ p ∈ G, p ∈ G') ∧ v = .bool (decide (Ok cs hs left X T)) ∧ Own w' [[(k, .cells ks 34 (0, 0))], G', F])
set_option maxRecDepth 100000 in
set_option maxHeartbeats 4000000 in
theorem k_search_step (G F : Seg) (aC : Option Addr) (nC cC : Nat) (cs : List Cal) (hC : Sl G 10 encL aC nC cC cs) (hn : cs.length ≤ 1000) (aL : Option Addr) (nL cL : Nat) (left : List Bool) (hL : Sl G 1 encB aL nL cL left) (hll : left.length = cs.length) (aH : Option Addr) (nH cH : Nat) (hs : List Int) (hH : Sl G 1 encI aH nH cH hs) (hhs : hs.length ≤ 1000) (k : Nat) (ks : Array Value) (X : List PT) (T : List Int) (hK : KRef G ks X T) (hX : X.length + cntL left ≤ 100000) (hT : T.length + cntL left ≤ 100000) (IH : ∀ (left' : List Bool) (X' : List PT) (T' : List Int), cntL left' < cntL left → left'.length = cs.length → X'.length + cntL left' ≤ 100000 → T'.length + cntL left' ≤ 100000 → SearchC cs hs left' X' T') (w : World) (hO : Own w [[(k, .cells ks 34 (0, 0))], G, F]) : Calls Try.prog 17 [.slice aC nC cC, .slice aL nL cL, .pointer (some ⟨k, 0, none⟩), .slice aH nH cH].toArray w (Ret fun v w' => ∃ G', (∀ p ∈ G, p ∈ G') ∧ v = .bool (decide (Ok cs hs left X T)) ∧ Own w' [[(k, .cells ks 34 (0, 0))], G', F]) := by
  have hlC := hC.hlen
  have hlL := hL.hlen
  have hlH := hH.hlen
  refine enter (n := 84) Try.func17 rfl rfl rfl ?_
  refine CW.seq ?_
  refine CW.region ?_
  refine LW.value (.free rfl) rfl (fun _ r => R.assign (r.e rfl)) ?_
  refine LW.nil (EW.then (?_))
  refine CW.seq ?_
  refine CW.region ?_
  refine LW.value (.free rfl) rfl (fun _ r => R.assign (r.e rfl)) ?_
  refine LW.nil (EW.then (?_))
  refine CW.seq ?_
  refine CW.seq ?_
  refine CW.region ?_
  refine LW.value (.free rfl) rfl (fun _ r => R.assign (r.e rfl)) ?_
  refine LW.nil (EW.then (?_))
  refine CW.block ?_
  refine CW.sub (env' := [(0, .slice aC nC cC), (1, .slice aL nL cL), (2, .pointer (some ⟨k, 0, none⟩)), (3, .slice aH nH cH), (9, .bool true), (10, .int .i64 (0 : Int))]) ⟨rfl, rfl, rfl, rfl, rfl, rfl, trivial⟩ ?_
  refine CW.loop (α := Nat × Bool) (fun (x_ : Nat × Bool) env_ w_ => ∃ i0 b, x_ = (i0, b) ∧ env_ = [(0, .slice aC nC cC), (1, .slice aL nL cL), (2, .pointer (some ⟨k, 0, none⟩)), (3, .slice aH nH cH), (9, .bool b), (10, .int .i64 (i0 : Int))] ∧ Own w_ [[(k, .cells ks 34 (0, 0))], G, F] ∧ (i0 ≤ cs.length) ∧ (b = true ↔ DoneTo cs left i0)) (fun (x_ : Nat × Bool) => cs.length - x_.1) (0, true) ⟨0, true, rfl, rfl, hO, Nat.zero_le _, ⟨fun _ k c hk => by omega, fun _ => rfl⟩⟩ ?_
  rintro _ _ w1 ⟨i0, b, rfl, rfl, hO2, hi0, hb⟩
  refine CW.seq ?_
  refine CW.seq ?_
  refine CW.region ?_
  refine LW.value (.free rfl) rfl (fun _ r => R.move (r.e rfl)) ?_
  refine LW.value (.free rfl) rfl (fun _ r => R.move (r.e rfl)) ?_
  refine LW.value (.free rfl) rfl (fun _ r => R.len_slice (r.e rfl) Try.runUnderlying47) ?_
  refine LW.value (.free rfl) rfl (fun _ r => R.lss (r.e rfl) (r.e rfl)) ?_
  refine LW.nil (EW.then (?_))
  by_cases h3 : (i0 : Int) < (nC : Int)
  · -- (i0 : Int) < (nC : Int)
    refine CW.yes (kb (dT h3)) ?_
    refine CW.skip (EW.then (?_))
    refine CW.seq ?_
    refine CW.block ?_
    refine CW.region ?_
    refine LW.value (.free rfl) rfl (fun _ r => R.move (r.e rfl)) ?_
    refine LW.value (.free rfl) rfl (fun _ r => R.move (r.e rfl)) ?_
    rcases Bool.eq_false_or_eq_true b with h4 | h4
    · -- b
      refine LW.value (.yes rfl rfl (kb h4)) rfl (fun _ r => R.move (r.e rfl)) ?_
      refine LW.value (.yes rfl rfl (kb h4)) rfl (fun _ r => R.move (r.e rfl)) ?_
      obtain ⟨x5, hxx5⟩ : ∃ t, (left)[i0]? = some t := ⟨_, List.getElem?_eq_getElem (by omega)⟩
      obtain ⟨blx5, olx5, hax5, hcx5⟩ := hL.at_ _ _ hxx5
      refine LW.value (.yes rfl rfl (kb h4)) rfl (fun _ r => R.indexAddr_o (k := olx5 + i0 * 1) (r.e rfl) hax5 (r.e rfl) Try.runUnderlying50 Try.sizeOf4 (by omega) (by omega) (by simp)) ?_
      refine LW.value (.yes rfl rfl (kb h4)) rfl (fun _ r => R.load1 (r.e rfl) Try.isAgg4 (hO2.pc (i := 1) rfl (hcx5 0 _ rfl))) ?_
      refine LW.value (.yes rfl rfl (kb h4)) rfl (fun _ r => R.not (r.e rfl)) ?_
      refine LW.value (.yes rfl rfl (kb h4)) rfl (fun _ r => R.move (r.e rfl)) ?_
      rcases Bool.eq_false_or_eq_true x5 with h6 | h6
      · -- x5
        refine LW.value (.yes rfl rfl (kb (bN h6))) rfl (fun _ r => R.move (r.e rfl)) ?_
        refine LW.value (.yes rfl rfl (kb (bN h6))) rfl (fun _ r => R.move (r.e rfl)) ?_
        obtain ⟨x7, hxx7⟩ : ∃ t, (cs)[i0]? = some t := ⟨_, List.getElem?_eq_getElem (by omega)⟩
        obtain ⟨blx7, olx7, hax7, hcx7⟩ := hC.at_ _ _ hxx7
        refine LW.value (.yes rfl rfl (kb (bN h6))) rfl (fun _ r => R.indexAddr_o (k := olx7 + i0 * 10) (r.e rfl) hax7 (r.e rfl) Try.runUnderlying47 Try.sizeOf70 (by omega) (by omega) (by simp)) ?_
        refine LW.value (.yes rfl rfl (kb (bN h6))) rfl (fun _ r => R.fieldAddr (k := olx7 + i0 * 10 + 7) (r.e rfl) Try.runUnderlying70 rfl Try.sizeOf4 rfl) ?_
        refine LW.value (.yes rfl rfl (kb (bN h6))) rfl (fun _ r => R.load1 (r.e rfl) Try.isAgg4 (hO2.pc (i := 1) rfl (hcx7 7 _ rfl))) ?_
        refine LW.value (.yes rfl rfl (kb (bN h6))) rfl (fun _ r => R.not (r.e rfl)) ?_
        refine LW.value (.yes rfl rfl (kb h4)) rfl (fun _ r => R.pick_no (r.e (kb (bN h6))) (r.e rfl)) ?_
        refine LW.value (.free rfl) rfl (fun _ r => R.pick_yes (r.e (kb h4)) (r.e rfl)) ?_
        refine LW.value (.free rfl) rfl (fun _ r => R.assign (r.e rfl)) ?_
        refine LW.nil (EW.inB_normal (EW.then (?_)))
        refine CW.region ?_
        refine LW.value (.free rfl) rfl (fun _ r => R.move (r.e rfl)) ?_
        refine LW.value (.free rfl) rfl (fun _ r => R.as (R.add (r.e rfl) (r.e rfl)) (congrArg (Value.int .i64) (wrap_i64 (by omega) (by omega)))) ?_
        refine LW.value (.free rfl) rfl (fun _ r => R.assign (r.e rfl)) ?_
        refine LW.nil ?_
        exact EW.sub (env' := [(0, .slice aC nC cC), (1, .slice aL nL cL), (2, .pointer (some ⟨k, 0, none⟩)), (3, .slice aH nH cH), (9, .bool (!x7.done)), (10, .int .i64 ((i0 + 1) : Int))]) ⟨rfl, rfl, rfl, rfl, rfl, rfl, trivial⟩ (EW.round (i0 + 1, !x7.done) ⟨i0 + 1, !x7.done, rfl, rfl, hO2, by omega, by rw [← done_step hb hxx7 hxx5]; simp [h4, h6]⟩ (by dsimp only; omega))
      · -- not: x5
        refine LW.off (.no rfl rfl (kb (bN h6))) rfl ?_
        refine LW.off (.no rfl rfl (kb (bN h6))) rfl ?_
        refine LW.off (.no rfl rfl (kb (bN h6))) rfl ?_
        refine LW.off (.no rfl rfl (kb (bN h6))) rfl ?_
        refine LW.off (.no rfl rfl (kb (bN h6))) rfl ?_
        refine LW.off (.no rfl rfl (kb (bN h6))) rfl ?_
        refine LW.value (.yes rfl rfl (kb h4)) rfl (fun _ r => R.pick_yes (r.e (kb (bN h6))) (r.e rfl)) ?_
        refine LW.value (.free rfl) rfl (fun _ r => R.pick_yes (r.e (kb h4)) (r.e rfl)) ?_
        refine LW.value (.free rfl) rfl (fun _ r => R.assign (r.e rfl)) ?_
        refine LW.nil (EW.inB_normal (EW.then (?_)))
        refine CW.region ?_
        refine LW.value (.free rfl) rfl (fun _ r => R.move (r.e rfl)) ?_
        refine LW.value (.free rfl) rfl (fun _ r => R.as (R.add (r.e rfl) (r.e rfl)) (congrArg (Value.int .i64) (wrap_i64 (by omega) (by omega)))) ?_
        refine LW.value (.free rfl) rfl (fun _ r => R.assign (r.e rfl)) ?_
        refine LW.nil ?_
        obtain ⟨x8, hx9⟩ : ∃ t, (cs)[i0]? = some t := ⟨_, List.getElem?_eq_getElem (by omega)⟩
        exact EW.sub (env' := [(0, .slice aC nC cC), (1, .slice aL nL cL), (2, .pointer (some ⟨k, 0, none⟩)), (3, .slice aH nH cH), (9, .bool true), (10, .int .i64 ((i0 + 1) : Int))]) ⟨rfl, rfl, rfl, rfl, rfl, rfl, trivial⟩ (EW.round (i0 + 1, true) ⟨i0 + 1, true, rfl, rfl, hO2, by omega, by rw [← done_step hb hx9 hxx5]; simp [h4, h6]⟩ (by dsimp only; omega))
    · -- not: b
      refine LW.off (.no rfl rfl (kb h4)) rfl ?_
      refine LW.off (.no rfl rfl (kb h4)) rfl ?_
      refine LW.off (.no rfl rfl (kb h4)) rfl ?_
      refine LW.off (.no rfl rfl (kb h4)) rfl ?_
      refine LW.off (.no rfl rfl (kb h4)) rfl ?_
      refine LW.off (.no rfl rfl (kb h4)) rfl ?_
      refine LW.off (.un rfl rfl rfl) rfl ?_
      refine LW.off (.un rfl rfl rfl) rfl ?_
      refine LW.off (.un rfl rfl rfl) rfl ?_
      refine LW.off (.un rfl rfl rfl) rfl ?_
      refine LW.off (.un rfl rfl rfl) rfl ?_
      refine LW.off (.un rfl rfl rfl) rfl ?_
      refine LW.off (.no rfl rfl (kb h4)) rfl ?_
      refine LW.value (.free rfl) rfl (fun _ r => R.pick_no (r.e (kb h4)) (r.e rfl)) ?_
      refine LW.value (.free rfl) rfl (fun _ r => R.assign (r.e rfl)) ?_
      refine LW.nil (EW.inB_normal (EW.then (?_)))
      refine CW.region ?_
      refine LW.value (.free rfl) rfl (fun _ r => R.move (r.e rfl)) ?_
      refine LW.value (.free rfl) rfl (fun _ r => R.as (R.add (r.e rfl) (r.e rfl)) (congrArg (Value.int .i64) (wrap_i64 (by omega) (by omega)))) ?_
      refine LW.value (.free rfl) rfl (fun _ r => R.assign (r.e rfl)) ?_
      refine LW.nil ?_
      obtain ⟨x10, hx11⟩ : ∃ t, (cs)[i0]? = some t := ⟨_, List.getElem?_eq_getElem (by omega)⟩
      obtain ⟨x12, hx13⟩ : ∃ t, (left)[i0]? = some t := ⟨_, List.getElem?_eq_getElem (by omega)⟩
      exact EW.sub (env' := [(0, .slice aC nC cC), (1, .slice aL nL cL), (2, .pointer (some ⟨k, 0, none⟩)), (3, .slice aH nH cH), (9, .bool false), (10, .int .i64 ((i0 + 1) : Int))]) ⟨rfl, rfl, rfl, rfl, rfl, rfl, trivial⟩ (EW.round (i0 + 1, false) ⟨i0 + 1, false, rfl, rfl, hO2, by omega, by rw [← done_step hb hx11 hx13]; simp [h4]⟩ (by dsimp only; omega))
  · -- not: (i0 : Int) < (nC : Int)
    refine CW.no (kb (dF h3)) ?_
    refine CW.exit (EW.then_exit (EW.then_exit (EW.inB_same (EW.then (?_)))))
    refine CW.seq ?_
    refine CW.seq ?_
    refine CW.region ?_
    refine LW.value (.free rfl) rfl (fun _ r => R.move (r.e rfl)) ?_
    refine LW.nil (EW.then (?_))
    rcases Bool.eq_false_or_eq_true b with h14 | h14
    · -- b
      refine CW.yes (kb h14) ?_
      refine CW.seq ?_
      refine CW.region ?_
      refine LW.value (.free rfl) rfl (fun _ r => R.assign (r.e rfl)) ?_
      refine LW.nil (EW.then (?_))
      refine CW.ret (EW.then_ret (?_))
      refine EW.ret1 rfl rfl ?_
      exact ⟨G, fun p hp => hp, congrArg Value.bool (decide_eq_true (Ok.done (by rw [show i0 = cs.length from by omega] at hb; exact hb.1 h14))).symm, hO2.pick [0, 0, 0] rfl⟩
    · -- not: b
      refine CW.no (kb h14) ?_
      refine CW.skip (EW.then (?_))
      refine CW.seq ?_
      refine CW.seq ?_
      refine CW.region ?_
      refine LW.value (.free rfl) rfl (fun _ r => R.assign (r.e rfl)) ?_
      refine LW.nil (EW.then (?_))
      refine CW.block ?_
      have hnd : ¬ AllDone cs left := fun hd => by rw [show i0 = cs.length from by omega] at hb; rw [hb.2 hd] at h14; cases h14
      refine CW.sub (env' := [(0, .slice aC nC cC), (1, .slice aL nL cL), (2, .pointer (some ⟨k, 0, none⟩)), (3, .slice aH nH cH), (11, .int .i64 (0 : Int))]) ⟨rfl, rfl, rfl, rfl, rfl, trivial⟩ ?_
      refine CW.loop (α := Nat × Seg) (fun (x_ : Nat × Seg) env_ w_ => ∃ i G1, x_ = (i, G1) ∧ env_ = [(0, .slice aC nC cC), (1, .slice aL nL cL), (2, .pointer (some ⟨k, 0, none⟩)), (3, .slice aH nH cH), (11, .int .i64 (i : Int))] ∧ Own w_ [[(k, .cells ks 34 (0, 0))], G1, F] ∧ (i ≤ cs.length) ∧ (∀ p ∈ G, p ∈ G1) ∧ (NoTo cs hs left X T i)) (fun (x_ : Nat × Seg) => cs.length - x_.1) (0, G) ⟨0, G, rfl, rfl, hO2, Nat.zero_le _, fun p hp => hp, fun i c r X' T' hi => by omega⟩ ?_
      rintro _ _ w15 ⟨i, G1, rfl, rfl, hO16, hi, hG1, hno⟩
      have hK1 := KRef.mono hK hG1
      refine CW.seq ?_
      refine CW.seq ?_
      refine CW.region ?_
      refine LW.value (.free rfl) rfl (fun _ r => R.move (r.e rfl)) ?_
      refine LW.value (.free rfl) rfl (fun _ r => R.move (r.e rfl)) ?_
      refine LW.value (.free rfl) rfl (fun _ r => R.len_slice (r.e rfl) Try.runUnderlying47) ?_
      refine LW.value (.free rfl) rfl (fun _ r => R.lss (r.e rfl) (r.e rfl)) ?_
      refine LW.nil (EW.then (?_))
      by_cases h17 : (i : Int) < (nC : Int)
      · -- (i : Int) < (nC : Int)
        refine CW.yes (kb (dT h17)) ?_
        refine CW.skip (EW.then (?_))
        refine CW.seq ?_
        refine CW.block ?_
        refine CW.seq ?_
        refine CW.seq ?_
        refine CW.region ?_
        refine LW.value (.free rfl) rfl (fun _ r => R.move (r.e rfl)) ?_
        refine LW.value (.free rfl) rfl (fun _ r => R.move (r.e rfl)) ?_
        refine LW.value (.free rfl) rfl (fun _ r => R.move (r.e rfl)) ?_
        refine LW.op (.free rfl) (OW.calls rfl (fun _ r => R.call (vs := [.slice aC nC cC, .slice aL nL cL, .int .i64 (i : Int)]) Try.call26 rfl ⟨r.e rfl, r.e rfl, r.e rfl, trivial⟩) (e_next _ _ _ _ _ cs (hC.mono hG1) hn _ _ _ left (hL.mono hG1) hll i (by omega) _ (hO16.frame [1] rfl)) ?_)
        rintro _ w18 ⟨rfl, hO19⟩
        replace hO19 := hO19.unframe1
        refine LW.value (.free rfl) rfl (fun _ r => R.not (r.e rfl)) ?_
        refine LW.nil (EW.then (?_))
        by_cases h20 : May cs left i
        · -- May cs left i
          refine CW.no (kb (bN (dT h20))) ?_
          refine CW.skip (EW.then (?_))
          refine CW.seq ?_
          refine CW.region ?_
          refine LW.value (.free rfl) rfl (fun _ r => R.move (r.e rfl)) ?_
          refine LW.value (.free rfl) rfl (fun _ r => R.move (r.e rfl)) ?_
          refine LW.value (.free rfl) rfl (fun _ r => R.move (r.e rfl)) ?_
          obtain ⟨x21, hxx21⟩ : ∃ t, (cs)[i]? = some t := ⟨_, List.getElem?_eq_getElem (by omega)⟩
          obtain ⟨blx21, olx21, hax21, hcx21⟩ := (hC.mono hG1).at_ _ _ hxx21
          refine LW.value (.free rfl) rfl (fun _ r => R.indexAddr_o (k := olx21 + i * 10) (r.e rfl) hax21 (r.e rfl) Try.runUnderlying47 Try.sizeOf70 (by omega) (by omega) (by simp)) ?_
          refine LW.value (.free rfl) rfl (fun _ r => R.loadn (vs := [.int .i64 x21.th, .int .i64 x21.d, .int .i64 x21.h, .int .i64 x21.off, .int .i64 x21.n, .int .i64 x21.code, .int .i64 x21.num, .bool x21.done, .int .i64 x21.frm, .int .i64 x21.to_]) (r.e rfl) Try.isAgg70 Try.sizeOf70 rfl (fun j v hj => hO19.pc (i := 0) rfl (hcx21 j v hj))) ?_
          refine LW.value (.free rfl) rfl (fun _ r => R.move (r.e rfl)) ?_
          refine LW.op (.free rfl) (OW.calls rfl (fun _ r => R.call (vs := [.pointer (some ⟨k, 0, none⟩), .agg #[.int .i64 x21.th, .int .i64 x21.d, .int .i64 x21.h, .int .i64 x21.off, .int .i64 x21.n, .int .i64 x21.code, .int .i64 x21.num, .bool x21.done, .int .i64 x21.frm, .int .i64 x21.to_], .slice aH nH cH]) Try.call36 rfl ⟨r.e rfl, r.e rfl, r.e rfl, trivial⟩) (e_results _ _ _ _ X T hK1 (by omega) _ _ _ hs (hH.mono hG1) hhs x21 _ (hO19.frame [1, 0] rfl)) ?_)
          rintro v22 w25 ⟨s23, hg24, hO26⟩
          replace hO26 := hO26.unframe3
          refine LW.value (.free rfl) rfl (fun _ r => R.assign (r.e rfl)) ?_
          refine LW.nil (EW.then (?_))
          refine CW.seq ?_
          refine CW.region ?_
          refine LW.value (.free rfl) rfl (fun _ r => R.assign (r.e rfl)) ?_
          refine LW.nil (EW.then (?_))
          refine CW.block ?_
          refine CW.sub (env' := [(0, .slice aC nC cC), (1, .slice aL nL cL), (2, .pointer (some ⟨k, 0, none⟩)), (3, .slice aH nH cH), (11, .int .i64 (i : Int)), (12, v22), (13, .int .i64 (0 : Int))]) ⟨rfl, rfl, rfl, rfl, rfl, rfl, rfl, trivial⟩ ?_
          refine CW.loop (α := Nat × Seg) (fun (x_ : Nat × Seg) env_ w_ => ∃ j G2, x_ = (j, G2) ∧ env_ = [(0, .slice aC nC cC), (1, .slice aL nL cL), (2, .pointer (some ⟨k, 0, none⟩)), (3, .slice aH nH cH), (11, .int .i64 (i : Int)), (12, v22), (13, .int .i64 (j : Int))] ∧ Own w_ [s23, [(k, .cells ks 34 (0, 0))], G2, F] ∧ (j ≤ (resP X x21 hs).length) ∧ (∀ p ∈ G, p ∈ G2) ∧ (NoAt cs hs left X T i x21 j)) (fun (x_ : Nat × Seg) => (resP X x21 hs).length - x_.1) (0, G1) ⟨0, G1, rfl, rfl, hO26, Nat.zero_le _, hG1, fun j r X' T' hj => by omega⟩ ?_
          rintro _ _ w27 ⟨j, G2, rfl, rfl, hO28, hj, hG2, hna⟩
          have hK2 := KRef.mono hK hG2
          have hrl := resP_len X x21 hs
          refine CW.seq ?_
          refine CW.seq ?_
          refine CW.region ?_
          refine LW.value (.free rfl) rfl (fun _ r => R.move (r.e rfl)) ?_
          refine LW.value (.free rfl) rfl (fun _ r => R.move (r.e rfl)) ?_
          obtain ⟨a29, cap30, hv31⟩ := Grow.slice hg24
          refine LW.value (.free rfl) rfl (fun _ r => R.len_slice_v (r.e rfl) hv31 Try.runUnderlying29) ?_
          refine LW.value (.free rfl) rfl (fun _ r => R.lss (r.e rfl) (r.e rfl)) ?_
          refine LW.nil (EW.then (?_))
          by_cases h32 : (j : Int) < (((resP X x21 hs)).length : Int)
          · -- (j : Int) < (((resP X x21 hs)).length : Int)
            refine CW.yes (kb (dT h32)) ?_
            refine CW.skip (EW.then (?_))
            refine CW.seq ?_
            refine CW.block ?_
            refine CW.seq ?_
            refine CW.region ?_
            refine LW.value (.free rfl) rfl (fun _ r => R.move (r.e rfl)) ?_
            refine LW.op (.free rfl) (OW.calls rfl (fun _ r => R.call (vs := [.pointer (some ⟨k, 0, none⟩)]) Try.call37 rfl ⟨r.e rfl, trivial⟩) (r_copy hK2 (by omega) (by omega) (hO28.frame [1, 1] rfl)) ?_)
            rintro _ w33 ⟨k35, cs36, G37, rfl, hs38, hK39, hO34⟩
            replace hO34 := hO34.unframe3
            have hsub40 : ∀ p ∈ G, p ∈ G37 := fun p hp => hs38 p (hG2 p hp)
            have hK41 := KRef.mono hK2 hs38
            refine LW.value (.free rfl) rfl (fun _ r => R.assign (r.e rfl)) ?_
            refine LW.nil (EW.then (?_))
            refine CW.seq ?_
            refine HP.start (I := fun w' => Own w' [s23, G37]) (.take 0 (.take 1 (.take 2 (.take 3 (.take 4 (.take 5 (.take 6 (.take 7 (.take 8 (.take 9 (.one 10 (.take 11 (.take 12 (.take 13 (.take 14 (.take 16 (.take 17 (.one 15 (.one 18 (.take 19 (.done))))))))))))))))))))) Try.mixed (by intro c d v a w h; cases d <;> exact h) hO34 (by kernel_rfl) ?_
            intro w50 hO51
            have hI52 := hO51.pick [3, 2] rfl
            refine HP.take rfl (.free rfl) rfl hI52 (fun _ r _ hI => R.move (r.e rfl)) ?_
            refine HP.take rfl (.free rfl) rfl hI52 (fun _ r _ hI => R.move (r.e rfl)) ?_
            refine HP.take rfl (.free rfl) rfl hI52 (fun _ r _ hI => R.move (r.e rfl)) ?_
            obtain ⟨blx21_53, olx21_53, hax21_53, hcx21_53⟩ := (hC.mono hsub40).at_ _ _ hxx21
            refine HP.take rfl (.free rfl) rfl hI52 (fun _ r _ hI => R.indexAddr_o (k := olx21_53 + i * 10) (r.e rfl) hax21_53 (r.e rfl) Try.runUnderlying47 Try.sizeOf70 (by omega) (by omega) (by simp)) ?_
            refine HP.take rfl (.free rfl) rfl hI52 (fun _ r _ hI => R.fieldAddr (k := olx21_53 + i * 10 + 1) (r.e rfl) Try.runUnderlying70 rfl Try.sizeOf36 rfl) ?_
            refine HP.take rfl (.free rfl) rfl hI52 (fun _ r _ hI => R.loadn (vs := [.int .i64 x21.d, .int .i64 x21.h, .int .i64 x21.off, .int .i64 x21.n]) (r.e rfl) Try.isAgg36 Try.sizeOf36 rfl (fun j v hj => hI.pc (i := 1) rfl (by have h := hcx21_53 (1 + j) v (take_get (o := 1) (m := 4) hj); simpa [Nat.add_assoc] using h))) ?_
            refine HP.take rfl (.free rfl) rfl hI52 (fun _ r _ hI => R.move (r.e rfl)) ?_
            refine HP.take rfl (.free rfl) rfl hI52 (fun _ r _ hI => R.move (r.e rfl)) ?_
            have hl54 : j < ((resP X x21 hs)).length := by (try simp only [List.length_append, List.length_set, List.length_singleton]); omega
            obtain ⟨b55, cap56, hv57⟩ := Grow.opened hg24 (by omega)
            have hg58 := hg24
            rw [hv57] at hg58
            obtain ⟨q59, hq60⟩ : ∃ t, ((resP X x21 hs))[j]? = some t := ⟨_, List.getElem?_eq_getElem hl54⟩
            refine HP.take rfl (.free rfl) rfl hI52 (fun _ r _ hI => R.indexAddr_v (k := j * 2) (r.e rfl) hv57 (r.e rfl) Try.runUnderlying29 Try.sizeOf39 (by omega) (by omega) (by simp)) ?_
            refine HP.take rfl (.free rfl) rfl hI52 (fun _ r _ hI => R.loadn (vs := [.int .i64 q59.1, .int .i64 q59.2]) (r.e rfl) Try.isAgg39 Try.sizeOf39 rfl (fun j v hj => by have h := hg58.cellAt hI (i := 0) (j := 0 + j) rfl (fun _ _ => rfl) hq60 (take_get (o := 0) (m := 2) (l := encR q59) (by exact hj)); simpa [Nat.add_assoc] using h)) ?_
            obtain ⟨b61, X62, T63, hr64⟩ : ∃ b X' T', tryP (X, T) x21.d x21.h x21.off x21.n q59.1 q59.2 = (b, X', T') := ⟨_, _, _, rfl⟩
            have hlhr64 := try_len hr64
            have hxhr64 := try_lenX hr64
            refine HP.one rfl (.free rfl) (OW.calls rfl (fun _ r => R.call (vs := [.pointer (some ⟨k35, 0, none⟩), .agg #[.int .i64 x21.d, .int .i64 x21.h, .int .i64 x21.off, .int .i64 x21.n], .agg #[.int .i64 q59.1, .int .i64 q59.2]]) Try.call14 rfl ⟨r.e rfl, r.e rfl, r.e rfl, trivial⟩) (r_try hK39 (by omega) (by omega) hr64 (hO51.frame [1, 1] rfl)) ?_)
            rintro _ w65 ⟨G67, cs68, rfl, hs69, hK70, hO66⟩
            replace hO66 := hO66.unframe2
            have hsub71 : ∀ p ∈ G, p ∈ G67 := fun p hp => hs69 p (hsub40 p hp)
            have hrp72 : ∀ p ∈ G37, p ∈ G67 := fun p hp => hs69 p hp
            have hK73 := KRef.mono hK41 hs69
            have hI74 := Own.shrink1 hI52 hrp72 (hO66.pick [3, 1] rfl)
            refine ⟨hI74, ?_⟩
            refine HP.take rfl (.free rfl) rfl hI74 (fun _ r _ hI => R.move (r.e rfl)) ?_
            rcases Bool.eq_false_or_eq_true b61 with h75 | h75
            · -- b61
              refine HP.take rfl (.yes rfl rfl (kb h75)) rfl hI74 (fun _ r _ hI => R.move (r.e rfl)) ?_
              refine HP.take rfl (.yes rfl rfl (kb h75)) rfl hI74 (fun _ r _ hI => R.move (r.e rfl)) ?_
              refine HP.take rfl (.yes rfl rfl (kb h75)) rfl hI74 (fun _ r _ hI => R.move (r.e rfl)) ?_
              refine HP.take rfl (.yes rfl rfl (kb h75)) rfl hI74 (fun _ r _ hI => R.move (r.e rfl)) ?_
              refine HP.take rfl (.yes rfl rfl (kb h75)) rfl hI74 (fun _ r _ hI => R.move (r.e rfl)) ?_
              refine HP.one rfl (.yes rfl rfl (kb h75)) (OW.calls rfl (fun _ r => R.call (vs := [.slice aL nL cL, .int .i64 (i : Int)]) Try.call38 rfl ⟨r.e rfl, r.e rfl, trivial⟩) (e_without _ _ cs hn _ _ _ left (hL.mono hsub71) hll i (by omega) _ (hO66.frame [1] rfl)) ?_)
              rintro v76 w79 ⟨s77, hg78, hO80⟩
              replace hO80 := hO80.unframe2
              have hI81 := Own.shrink1 hI74 hrp72 (hO80.pick [4, 1] rfl)
              refine ⟨hI81, ?_⟩
              obtain ⟨a82, n83, c84, ev85, hsl86⟩ := Grow.shut hg78 (fun _ _ => rfl)
              subst ev85
              have hO87 := (hO80.move [0, 0] rfl).join
              refine HP.one rfl (.yes rfl rfl (kb h75)) (OW.calls rfl (fun _ r => R.call (vs := [.slice aC nC cC, (.slice a82 n83 c84), .pointer (some ⟨k35, 0, none⟩), .slice aH nH cH]) Try.call17 rfl ⟨r.e rfl, r.e rfl, r.e rfl, r.e rfl, trivial⟩) (IH _ X62 T63 (by have := cnt_set h20.1; omega) (by simp; omega) (by have := cnt_set h20.1; omega) (by have := cnt_set h20.1; omega) _ _ _ _ _ (hC.mono (fun p hp => List.mem_append_right _ (hsub71 p hp))) _ _ _ (hsl86.mono (fun p hp => List.mem_append_left _ hp)) _ _ _ (hH.mono (fun p hp => List.mem_append_right _ (hsub71 p hp))) _ _ (KRef.mono hK70 (fun p hp => List.mem_append_right _ hp)) _ (hO87.frame [1, 0] rfl)) ?_)
              rintro _ w90 ⟨G88, hs92, rfl, hO91⟩
              replace hO91 := hO91.unframe2
              have hs89 : ∀ p ∈ G67, p ∈ G88 := fun p hp => hs92 p (List.mem_append_right _ hp)
              have hsub93 : ∀ p ∈ G, p ∈ G88 := fun p hp => hs89 p (hsub71 p hp)
              have hrp94 : ∀ p ∈ G37, p ∈ G88 := fun p hp => hs89 p (hrp72 p hp)
              have hK95 := KRef.mono hK73 hs89
              have hK96 := KRef.mono hK70 hs89
              have hI97 := Own.shrink1 hI81 hrp94 (hO91.pick [3, 1] rfl)
              refine ⟨hI97, ?_⟩
              refine HP.take rfl (.free rfl) rfl hI97 (fun _ r _ hI => R.pick_yes (r.e (kb h75)) (r.e rfl)) ?_
              refine HP.done (EW.then (?_))
              by_cases h98 : Ok cs hs (left.set i false) X62 T63
              · -- Ok cs hs (left.set i false) X62 T63
                refine CW.yes (kb (dT h98)) ?_
                refine CW.seq ?_
                refine CW.region ?_
                refine LW.value (.free rfl) rfl (fun _ r => R.assign (r.e rfl)) ?_
                refine LW.nil (EW.then (?_))
                refine CW.ret (EW.inB_ret (EW.then_ret (EW.then_ret (EW.inB_ret (EW.inB_ret (EW.then_ret (EW.then_ret (EW.inB_ret (EW.then_ret (?_))))))))))
                refine EW.ret1 rfl rfl ?_
                exact ⟨G88, hsub93, congrArg Value.bool (decide_eq_true (ok_yes h20 hxx21 hq60 (hr64.trans (by rw [h75])) h98)).symm, hO91.pick [2, 1, 2] rfl⟩
              · -- not: Ok cs hs (left.set i false) X62 T63
                refine CW.no (kb (dF h98)) ?_
                refine CW.skip (EW.inB_normal (EW.then (?_)))
                refine CW.region ?_
                refine LW.value (.free rfl) rfl (fun _ r => R.move (r.e rfl)) ?_
                refine LW.value (.free rfl) rfl (fun _ r => R.as (R.add (r.e rfl) (r.e rfl)) (congrArg (Value.int .i64) (wrap_i64 (by omega) (by omega)))) ?_
                refine LW.value (.free rfl) rfl (fun _ r => R.assign (r.e rfl)) ?_
                refine LW.nil ?_
                exact EW.sub (env' := [(0, .slice aC nC cC), (1, .slice aL nL cL), (2, .pointer (some ⟨k, 0, none⟩)), (3, .slice aH nH cH), (11, .int .i64 (i : Int)), (12, v22), (13, .int .i64 ((j + 1) : Int))]) ⟨rfl, rfl, rfl, rfl, rfl, rfl, rfl, trivial⟩ (EW.round (j + 1, G88) ⟨j + 1, G88, rfl, rfl, hO91.pick [3, 2, 1, 1] rfl, by omega, hsub93, noAt_step hna hq60 (fun X' T' ht => by rw [hr64, h75] at ht; cases ht; exact h98)⟩ (by dsimp only; omega))
            · -- not: b61
              refine HP.takeOff rfl (.no rfl rfl (kb h75)) rfl hI74 ?_
              refine HP.takeOff rfl (.no rfl rfl (kb h75)) rfl hI74 ?_
              refine HP.takeOff rfl (.no rfl rfl (kb h75)) rfl hI74 ?_
              refine HP.takeOff rfl (.no rfl rfl (kb h75)) rfl hI74 ?_
              refine HP.takeOff rfl (.no rfl rfl (kb h75)) rfl hI74 ?_
              refine HP.oneOff rfl (.no rfl rfl (kb h75)) rfl hI74 ?_
              refine HP.oneOff rfl (.no rfl rfl (kb h75)) rfl hI74 ?_
              refine HP.take rfl (.free rfl) rfl hI74 (fun _ r _ hI => R.pick_no (r.e (kb h75)) (r.e rfl)) ?_
              refine HP.done (EW.then (?_))
              refine CW.no rfl ?_
              refine CW.skip (EW.inB_normal (EW.then (?_)))
              refine CW.region ?_
              refine LW.value (.free rfl) rfl (fun _ r => R.move (r.e rfl)) ?_
              refine LW.value (.free rfl) rfl (fun _ r => R.as (R.add (r.e rfl) (r.e rfl)) (congrArg (Value.int .i64) (wrap_i64 (by omega) (by omega)))) ?_
              refine LW.value (.free rfl) rfl (fun _ r => R.assign (r.e rfl)) ?_
              refine LW.nil ?_
              exact EW.sub (env' := [(0, .slice aC nC cC), (1, .slice aL nL cL), (2, .pointer (some ⟨k, 0, none⟩)), (3, .slice aH nH cH), (11, .int .i64 (i : Int)), (12, v22), (13, .int .i64 ((j + 1) : Int))]) ⟨rfl, rfl, rfl, rfl, rfl, rfl, rfl, trivial⟩ (EW.round (j + 1, G67) ⟨j + 1, G67, rfl, rfl, hO66.pick [3, 2, 1, 1] rfl, by omega, hsub71, noAt_step hna hq60 (fun X' T' ht => by rw [hr64, h75] at ht; cases ht)⟩ (by dsimp only; omega))
          · -- not: (j : Int) < (((resP X x21 hs)).length : Int)
            refine CW.no (kb (dF h32)) ?_
            refine CW.exit (EW.then_exit (EW.then_exit (EW.inB_same (EW.inB_normal (EW.then (?_))))))
            refine CW.region ?_
            refine LW.value (.free rfl) rfl (fun _ r => R.move (r.e rfl)) ?_
            refine LW.value (.free rfl) rfl (fun _ r => R.as (R.add (r.e rfl) (r.e rfl)) (congrArg (Value.int .i64) (wrap_i64 (by omega) (by omega)))) ?_
            refine LW.value (.free rfl) rfl (fun _ r => R.assign (r.e rfl)) ?_
            refine LW.nil ?_
            exact EW.sub (env' := [(0, .slice aC nC cC), (1, .slice aL nL cL), (2, .pointer (some ⟨k, 0, none⟩)), (3, .slice aH nH cH), (11, .int .i64 ((i + 1) : Int))]) ⟨rfl, rfl, rfl, rfl, rfl, trivial⟩ (EW.round (i + 1, G2) ⟨i + 1, G2, rfl, rfl, hO28.pick [1, 1, 1] rfl, by omega, hG2, noTo_all hno hxx21 (by rw [show j = (resP X x21 hs).length from by omega] at hna; exact hna)⟩ (by dsimp only; omega))
        · -- not: May cs left i
          refine CW.yes (kb (bN (dF h20))) ?_
          refine CW.exit (EW.then_exit (EW.inB_same (EW.then (?_))))
          refine CW.region ?_
          refine LW.value (.free rfl) rfl (fun _ r => R.move (r.e rfl)) ?_
          refine LW.value (.free rfl) rfl (fun _ r => R.as (R.add (r.e rfl) (r.e rfl)) (congrArg (Value.int .i64) (wrap_i64 (by omega) (by omega)))) ?_
          refine LW.value (.free rfl) rfl (fun _ r => R.assign (r.e rfl)) ?_
          refine LW.nil ?_
          exact EW.sub (env' := [(0, .slice aC nC cC), (1, .slice aL nL cL), (2, .pointer (some ⟨k, 0, none⟩)), (3, .slice aH nH cH), (11, .int .i64 ((i + 1) : Int))]) ⟨rfl, rfl, rfl, rfl, rfl, trivial⟩ (EW.round (i + 1, G1) ⟨i + 1, G1, rfl, rfl, hO19.pick [1, 0, 0] rfl, by omega, hG1, noTo_skip hno h20⟩ (by dsimp only; omega))
      · -- not: (i : Int) < (nC : Int)
        refine CW.no (kb (dF h17)) ?_
        refine CW.exit (EW.then_exit (EW.then_exit (EW.inB_same (EW.then (?_)))))
        refine CW.seq ?_
        refine CW.region ?_
        refine LW.value (.free rfl) rfl (fun _ r => R.assign (r.e rfl)) ?_
        refine LW.nil (EW.then (?_))
        refine CW.ret ?_
        refine EW.ret1 rfl rfl ?_
        exact ⟨G1, hG1, congrArg Value.bool (decide_eq_false (ok_no hnd (by rw [show i = cs.length from by omega] at hno; exact hno))).symm, hO16.pick [0, 0, 0] rfl⟩

theorem search_all (cs : List Cal) (hs : List Int) (hn : cs.length ≤ 1000) (hhs : hs.length ≤ 1000) : ∀ (m : Nat) (left : List Bool) (X : List PT) (T : List Int), cntL left ≤ m → left.length = cs.length → X.length + cntL left ≤ 100000 → T.length + cntL left ≤ 100000 → SearchC cs hs left X T := by
  intro m
  induction m with
  | zero =>
    intro left X T hm hll hX hT G F aC nC cC hC aL nL cL hL aH nH cH hH k ks hK w hO
    exact k_search_step G F aC nC cC cs hC hn aL nL cL left hL hll aH nH cH hs hH hhs k ks X T hK hX hT (fun left' X' T' h => absurd h (by omega)) w hO
  | succ m ih =>
    intro left X T hm hll hX hT G F aC nC cC hC aL nL cL hL aH nH cH hH k ks hK w hO
    exact k_search_step G F aC nC cC cs hC hn aL nL cL left hL hll aH nH cH hs hH hhs k ks X T hK hX hT (fun left' X' T' h h1 h2 h3 => ih left' X' T' (by omega) h1 h2 h3) w hO

end Go.Sd
