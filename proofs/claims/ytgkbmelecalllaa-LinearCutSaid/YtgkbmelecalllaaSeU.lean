/-
  (*searcher).spread, walked.
-/
import Derived.Test.YtgkbmelecalllaaSeT
import Derived.Test.YtgkbmelecalllaaSf8
set_option linter.unusedSimpArgs false
set_option linter.unusedVariables false
set_option linter.unusedSectionVars false
namespace Go.Sd
open Go Go.Proofs
variable [Str]
theorem elemSt : ElemT Try.prog 57 64 3 56 (.agg #[.slice none 0 0, .pointer none, .slice none 0 0]) := ⟨Try.underlying57, ⟨Try.t64, by kernel_rfl, rfl, rfl, rfl⟩, by decide, rfl⟩
theorem elemEv : ElemT Try.prog 22 41 8 64 (.agg #[.int .i64 0, .bool false, .int .i64 0, .int .i64 0, .int .i64 0, .int .i64 0, .int .i64 0, .int .i64 0]) := ⟨Try.underlying22, ⟨Try.t41, by kernel_rfl, rfl, rfl, rfl⟩, by decide, rfl⟩
set_option maxRecDepth 100000 in
set_option maxHeartbeats 8000000 in
theorem v_spread (ps : Nat) (wv : Value) (aH : Option Addr) (nH cH : Nat) (G F : Seg) (aC : Option Addr) (nC cC : Nat) (cs : List Cal) (hC : Sl G 10 encL aC nC cC cs) (hn : cs.length ≤ 100) (hs : List Int) (hH : Sl G 1 encI aH nH cH hs) (hhs : hs.length ≤ 1000) (x : St) (sw : Seg) (ws : List St) (hw : Grow 64 3 encS wv sw ws) (hx : StOk G cs x) (hwl : ws.length ≤ 100000000) (hcn : ∀ c ∈ cs, IntB c.num) (hch : ∀ c ∈ cs, IntB c.h) (hhn : ∀ h ∈ hs, IntB h) (w : World) (hO : Own w [sw, [(ps, .cells #[.slice aC nC cC, .slice aH nH cH, wv] 59 (0, 0))], G, F]) : Calls Try.prog 24 [.pointer (some ⟨ps, 0, none⟩), .agg #[.slice x.aL x.nL x.cL, .pointer (some ⟨x.pm, 0, none⟩), .slice x.aT x.nT x.cT]].toArray w (Ret fun v w' => ∃ (sw' : Seg) (wv' : Value) (G' : Seg) (A : List St), (∀ p ∈ G, p ∈ G') ∧ Grow 64 3 encS wv' sw' (ws ++ A) ∧ (∀ y ∈ A, StOk G' cs y) ∧ ExtD cs hs x 0 A ∧ Own w' [sw', [(ps, .cells #[.slice aC nC cC, .slice aH nH cH, wv'] 59 (0, 0))], G', F]) := by
  have hlC := hC.hlen
  have hlH := hH.hlen
  have hxl := hx.lens
  have hxn := hx.n_
  have hXb := hx.m_.bytes
  have hlL := hx.l_.hlen
  have hlT := hx.t_.hlen
  have hleT := hx.t_.hle
  refine enterM (n := 80) Try.func24 rfl rfl rfl ?_
  refine CW.seq ?_
  refine CW.region ?_
  refine LW.op (.free rfl) (OW.box (cs := #[.pointer (some ⟨ps, 0, none⟩)]) rfl hO rfl rfl ?_)
  intro b1 w2 hO3
  refine LW.op (.free rfl) (OW.box (cs := #[.slice x.aL x.nL x.cL, .pointer (some ⟨x.pm, 0, none⟩), .slice x.aT x.nT x.cT]) rfl hO3 rfl rfl ?_)
  intro b4 w5 hO6
  refine LW.nil (EW.then (?_))
  refine CW.seq ?_
  refine CW.region ?_
  refine LW.value (.free rfl) rfl (fun _ r => R.load1 (r.e rfl) Try.isAgg56 (hO6.cell (i := 1) rfl rfl)) ?_
  refine LW.value (.free rfl) rfl (fun _ r => R.nilCheck (r.e rfl)) ?_
  refine LW.value (.free rfl) rfl (fun _ r => R.fieldAddr (k := 0) (r.e rfl) Try.runUnderlying59 rfl Try.sizeOf53 rfl) ?_
  refine LW.value (.free rfl) rfl (fun _ r => R.load1 (r.e rfl) Try.isAgg53 (hO6.cell (i := 3) rfl rfl)) ?_
  refine LW.op (.free rfl) (OW.calls rfl (fun _ r => R.call (vs := [.slice aC nC cC]) Try.call42 rfl ⟨r.e rfl, trivial⟩) (v_backward _ _ _ _ _ (hO6.frame [] rfl)) ?_)
  rintro _ w7 ⟨b9, rfl, hO8⟩
  replace hO8 := hO8.unframe1
  refine LW.nil (EW.then (?_))
  refine CW.block ?_
  have hO10 := hO8.pick [0, 4, 2, 2, 1, 0, 0] rfl
  refine CW.rangeBack (J := fun k R => ∃ (G' sw' : Seg) (wv' : Value) (A : List St), R = [G', sw', [(ps, .cells #[.slice aC nC cC, .slice aH nH cH, wv'] 59 (0, 0))], [(b1, .cells #[.pointer (some ⟨ps, 0, none⟩)] 56 (0, 0))], [(b4, .cells #[.slice x.aL x.nL x.cL, .pointer (some ⟨x.pm, 0, none⟩), .slice x.aT x.nT x.cT] 64 (0, 0))], F] ∧ (∀ p ∈ G, p ∈ G') ∧ Grow 64 3 encS wv' sw' (ws ++ A) ∧ (∀ y ∈ A, StOk G' cs y) ∧ ExtD cs hs x k A) (R0 := [G, sw, [(ps, .cells #[.slice aC nC cC, .slice aH nH cH, wv] 59 (0, 0))], [(b1, .cells #[.pointer (some ⟨ps, 0, none⟩)] 56 (0, 0))], [(b4, .cells #[.slice x.aL x.nL x.cL, .pointer (some ⟨x.pm, 0, none⟩), .slice x.aT x.nT x.cT] 64 (0, 0))], F]) hC (by omega) hO10 rfl rfl rfl (by rintro k R ⟨G', sw', wv', A, rfl, h1, _⟩; exact ⟨G', _, rfl, h1⟩) ⟨G, sw, wv, [], rfl, fun p hp => hp, by simpa using hw, fun y h => by simp at h, ExtD.start⟩ ?_ ?_
  ·
    intro l D fn0 tm k c w3 R hc hJ hO3
    obtain ⟨G1, sw1, wv1, A, rfl, hG1, hw1, hA, hE⟩ := hJ
    have hkl := (List.getElem?_eq_some_iff.1 hc).1
    refine CW.seq ?_
    refine CW.region ?_
    refine LW.value (.free rfl) rfl (fun _ r => R.assign (r.e rfl)) ?_
    refine LW.nil (EW.then (?_))
    refine CW.region ?_
    refine LW.op (.free rfl) (OW.alloc (cs := #[.int .i64 0, .int .i64 0, .int .i64 0, .int .i64 0, .int .i64 0, .int .i64 0, .int .i64 0, .bool false, .int .i64 0, .int .i64 0]) rfl hO3 Try.zeroValue73 rfl ?_)
    intro b11 w12 hO13
    refine LW.op (.free rfl) (OW.storeall (i := 0) (vs := [.int .i64 c.th, .int .i64 c.d, .int .i64 c.h, .int .i64 c.off, .int .i64 c.n, .int .i64 c.code, .int .i64 c.num, .bool c.done, .int .i64 c.frm, .int .i64 c.to_]) rfl hO13 rfl rfl rfl rfl Try.sizeOf73 rfl ?_)
    intro w14 hO15
    refine LW.nil ?_
    refine EW.begins (i := 1) hO15 rfl ?_
    intro w16 hO17
    obtain ⟨Z, hZ, hO18⟩ := Own.hide (hO17.move [1, 1, 1] rfl)
    refine CW.block ?_
    refine CW.seq ?_
    refine CW.seq ?_
    refine CW.region ?_
    refine LW.value (.free rfl) rfl (fun _ r => R.load1 (r.e rfl) Try.isAgg56 (hO18.cell (i := 5) rfl rfl)) ?_
    refine LW.value (.free rfl) rfl (fun _ r => R.fieldAddr (k := 0) (r.e rfl) Try.runUnderlying64 rfl Try.sizeOf50 rfl) ?_
    refine LW.value (.free rfl) rfl (fun _ r => R.load1 (r.e rfl) Try.isAgg50 (hO18.cell (i := 6) rfl rfl)) ?_
    refine LW.value (.free rfl) rfl (fun _ r => R.move (r.e rfl)) ?_
    refine LW.op (.free rfl) (OW.calls rfl (fun _ r => R.call (vs := [.pointer (some ⟨ps, 0, none⟩), .slice x.aL x.nL x.cL, .int .i64 (k : Int)]) Try.call28 rfl ⟨r.e rfl, r.e rfl, r.e rfl, trivial⟩) (v_may ps wv1 aH nH cH _ _ _ _ _ cs (hC.mono hG1) (by omega) _ _ _ x.left (hx.l_.mono hG1) (by omega) k (by omega) _ (hO18.frame [4, 2] rfl)) ?_)
    rintro _ w19 ⟨rfl, hO20⟩
    replace hO20 := hO20.unframe2
    refine LW.value (.free rfl) rfl (fun _ r => R.not (r.e rfl)) ?_
    refine LW.nil (EW.then (?_))
    by_cases h21 : May cs x.left k
    · -- May cs x.left k
      refine CW.no (kb (bN (dT h21))) ?_
      refine CW.skip (EW.then (?_))
      refine CW.seq ?_
      refine CW.region ?_
      refine LW.value (.free rfl) rfl (fun _ r => R.load1 (r.e rfl) Try.isAgg56 (hO20.cell (i := 5) rfl rfl)) ?_
      refine LW.value (.free rfl) rfl (fun _ r => R.fieldAddr (k := 1) (r.e rfl) Try.runUnderlying64 rfl Try.sizeOf61 rfl) ?_
      refine LW.value (.free rfl) rfl (fun _ r => R.load1 (r.e rfl) Try.isAgg61 (hO20.cell (i := 6) rfl rfl)) ?_
      refine LW.value (.free rfl) rfl (fun _ r => R.loadn (vs := [.int .i64 c.th, .int .i64 c.d, .int .i64 c.h, .int .i64 c.off, .int .i64 c.n, .int .i64 c.code, .int .i64 c.num, .bool c.done, .int .i64 c.frm, .int .i64 c.to_]) (r.e rfl) Try.isAgg73 Try.sizeOf73 rfl (hO20.cells (i := 3) rfl rfl)) ?_
      refine LW.op (.free rfl) (OW.calls rfl (fun _ r => R.call (vs := [.pointer (some ⟨ps, 0, none⟩), .pointer (some ⟨x.pm, 0, none⟩), .agg #[.int .i64 c.th, .int .i64 c.d, .int .i64 c.h, .int .i64 c.off, .int .i64 c.n, .int .i64 c.code, .int .i64 c.num, .bool c.done, .int .i64 c.frm, .int .i64 c.to_]]) Try.call43 rfl ⟨r.e rfl, r.e rfl, r.e rfl, trivial⟩) (v_resultsG ps wv1 aH nH cH _ _ _ _ _ cs (hC.mono hG1) (by omega) hs (hH.mono hG1) (by omega) x.pm x.X x.T (hx.m_.mono hG1) (by omega) c _ (hO20.frame [0, 0] rfl)) ?_)
      rintro v22 w25 ⟨s23, hg24, hO26⟩
      replace hO26 := hO26.unframe3
      obtain ⟨a27, cap28, hv29⟩ := Grow.slice hg24
      refine LW.value (.free rfl) rfl (fun _ r => R.len_slice_v (r.e rfl) hv29 Try.runUnderlying29) ?_
      refine LW.value (.free rfl) rfl (fun _ r => R.move (r.e rfl)) ?_
      refine LW.nil (EW.then (?_))
      refine CW.block ?_
      refine CW.sub (env' := [(2, .pointer (some ⟨b1, 0, none⟩)), (3, .pointer (some ⟨b4, 0, none⟩)), (4, .int .i64 (k : Int)), (5, .pointer (some ⟨b11, 0, none⟩)), (28, v22), (29, .int .i64 (((resP x.X c hs)).length : Int)), (30, .int .i64 (0 : Int))]) ⟨rfl, rfl, rfl, rfl, rfl, rfl, rfl, trivial⟩ ?_
      refine CW.loop (α := Nat × Seg × Seg × Value × List St) (fun (x_ : Nat × Seg × Seg × Value × List St) env_ w_ => ∃ j G2 sw2 wv2 A2, x_ = (j, G2, sw2, wv2, A2) ∧ env_ = [(2, .pointer (some ⟨b1, 0, none⟩)), (3, .pointer (some ⟨b4, 0, none⟩)), (4, .int .i64 (k : Int)), (5, .pointer (some ⟨b11, 0, none⟩)), (28, v22), (29, .int .i64 (((resP x.X c hs)).length : Int)), (30, .int .i64 (j : Int))] ∧ Own w_ [s23, [(ps, .cells #[.slice aC nC cC, .slice aH nH cH, wv2] 59 (0, 0))], G2, Z, [(b11, .cells #[.int .i64 c.th, .int .i64 c.d, .int .i64 c.h, .int .i64 c.off, .int .i64 c.n, .int .i64 c.code, .int .i64 c.num, .bool c.done, .int .i64 c.frm, .int .i64 c.to_] 73 (0, 0))], sw2, [(b1, .cells #[.pointer (some ⟨ps, 0, none⟩)] 56 (0, 0))], [(b4, .cells #[.slice x.aL x.nL x.cL, .pointer (some ⟨x.pm, 0, none⟩), .slice x.aT x.nT x.cT] 64 (0, 0))], F] ∧ (j ≤ (resP x.X c hs).length) ∧ (∀ p ∈ G, p ∈ G2) ∧ (Grow 64 3 encS wv2 sw2 (ws ++ A2)) ∧ (∀ y ∈ A2, StOk G2 cs y) ∧ (Ext cs hs x k j A2)) (fun (x_ : Nat × Seg × Seg × Value × List St) => (resP x.X c hs).length - x_.1) (0, G1, sw1, wv1, A) ⟨0, G1, sw1, wv1, A, rfl, rfl, hO26, Nat.zero_le _, hG1, hw1, hA, hE.begin_⟩ ?_
      rintro _ _ w30 ⟨j, G2, sw2, wv2, A2, rfl, rfl, hO31, hj, hG2, hw2, hA2, hE2⟩
      have hAl : A2.length ≤ 200000 := by have h1 := hE2.len; have h2 : (cs.length - (k + 1)) * (hs.length + 1) ≤ 100 * 1001 := Nat.mul_le_mul (by omega) (by omega); have h3 := resP_len x.X c hs; omega
      have hrl := resP_len x.X c hs
      refine CW.seq ?_
      refine CW.region ?_
      refine LW.value (.free rfl) rfl (fun _ r => R.lss (r.e rfl) (r.e rfl)) ?_
      refine LW.nil (EW.then (?_))
      refine CW.seq ?_
      by_cases h32 : (j : Int) < (((resP x.X c hs)).length : Int)
      · -- (j : Int) < (((resP x.X c hs)).length : Int)
        refine CW.yes (kb (dT h32)) ?_
        refine CW.skip (EW.then (?_))
        refine CW.seq ?_
        refine CW.block ?_
        refine CW.seq ?_
        refine CW.region ?_
        have hl33 : j < ((resP x.X c hs)).length := by (try simp only [List.length_append, List.length_set, List.length_singleton]); omega
        obtain ⟨b34, cap35, hv36⟩ := Grow.opened hg24 (by omega)
        have hg37 := hg24
        rw [hv36] at hg37
        obtain ⟨q38, hq39⟩ : ∃ t, ((resP x.X c hs))[j]? = some t := ⟨_, List.getElem?_eq_getElem hl33⟩
        refine LW.value (.free rfl) rfl (fun _ r => R.indexAddr_v (k := j * 2) (r.e rfl) hv36 (r.e rfl) Try.runUnderlying29 Try.sizeOf39 (by omega) (by omega) (by simp)) ?_
        refine LW.value (.free rfl) rfl (fun _ r => R.loadn (vs := [.int .i64 q38.1, .int .i64 q38.2]) (r.e rfl) Try.isAgg39 Try.sizeOf39 rfl (fun j v hj => by have h := hg37.cellAt hO31 (i := 0) (j := 0 + j) rfl (fun _ _ => rfl) hq39 (take_get (o := 0) (m := 2) (l := encR q38) (by exact hj)); simpa [Nat.add_assoc] using h)) ?_
        refine LW.op (.free rfl) (OW.alloc (cs := #[.int .i64 0, .int .i64 0]) rfl hO31 Try.zeroValue39 rfl ?_)
        intro b40 w41 hO42
        refine LW.op (.free rfl) (OW.storeall (i := 0) (vs := [.int .i64 q38.1, .int .i64 q38.2]) rfl hO42 rfl rfl rfl rfl Try.sizeOf39 rfl ?_)
        intro w43 hO44
        refine LW.nil (EW.then (?_))
        refine CW.seq ?_
        refine CW.region ?_
        refine LW.value (.free rfl) rfl (fun _ r => R.fieldAddr (k := 1) (r.e rfl) Try.runUnderlying64 rfl Try.sizeOf61 rfl) ?_
        refine LW.value (.free rfl) rfl (fun _ r => R.load1 (r.e rfl) Try.isAgg61 (hO44.cell (i := 8) rfl rfl)) ?_
        refine LW.op (.free rfl) (OW.calls rfl (fun _ r => R.call (vs := [.pointer (some ⟨x.pm, 0, none⟩)]) Try.call44 rfl ⟨r.e rfl, trivial⟩) (g_copy (hx.m_.mono hG2) (by omega) (hO44.frame [3] rfl)) ?_)
        rintro _ w45 ⟨pm47, s48, rfl, hM49, hO46⟩
        replace hO46 := hO46.unframe2
        refine LW.value (.free rfl) rfl (fun _ r => R.assign (r.e rfl)) ?_
        refine LW.nil (EW.then (?_))
        refine CW.seq ?_
        refine CW.seq ?_
        refine CW.region ?_
        refine LW.value (.free rfl) rfl (fun _ r => R.move (r.e rfl)) ?_
        refine LW.value (.free rfl) rfl (fun _ r => R.fieldAddr (k := 1) (r.e rfl) Try.runUnderlying73 rfl Try.sizeOf36 rfl) ?_
        refine LW.value (.free rfl) rfl (fun _ r => R.loadn (vs := [.int .i64 c.d, .int .i64 c.h, .int .i64 c.off, .int .i64 c.n]) (r.e rfl) Try.isAgg36 Try.sizeOf36 rfl (hO46.cells (i := 6) rfl rfl)) ?_
        refine LW.value (.free rfl) rfl (fun _ r => R.loadn (vs := [.int .i64 q38.1, .int .i64 q38.2]) (r.e rfl) Try.isAgg39 Try.sizeOf39 rfl (hO46.cells (i := 2) rfl rfl)) ?_
        obtain ⟨b50, X51, T52, hr53⟩ : ∃ b X' T', tryP (x.X, x.T) c.d c.h c.off c.n q38.1 q38.2 = (b, X', T') := ⟨_, _, _, rfl⟩
        have hlhr53 := try_len hr53
        have hxhr53 := try_lenX hr53
        refine LW.op (.free rfl) (OW.calls rfl (fun _ r => R.call (vs := [.pointer (some ⟨pm47, 0, none⟩), .agg #[.int .i64 c.d, .int .i64 c.h, .int .i64 c.off, .int .i64 c.n], .agg #[.int .i64 q38.1, .int .i64 q38.2]]) Try.call29 rfl ⟨r.e rfl, r.e rfl, r.e rfl, trivial⟩) (l_try hM49 (by omega) hr53 (resP_bounds hXb (hcn c (List.mem_of_getElem? hc)) hhn (List.mem_of_getElem? hq39)) (hO46.frame [0] rfl)) ?_)
        rintro _ w54 ⟨s56, rfl, hM57, hO55⟩
        replace hO55 := hO55.unframe1
        refine LW.value (.free rfl) rfl (fun _ r => R.not (r.e rfl)) ?_
        refine LW.nil (EW.then (?_))
        rcases Bool.eq_false_or_eq_true b50 with h58 | h58
        · -- b50
          refine CW.no (kb (bN h58)) ?_
          refine CW.skip (EW.then (?_))
          refine CW.seq ?_
          refine CW.region ?_
          refine LW.value (.free rfl) rfl (fun _ r => R.fieldAddr (k := 0) (r.e rfl) Try.runUnderlying64 rfl Try.sizeOf50 rfl) ?_
          refine LW.value (.free rfl) rfl (fun _ r => R.load1 (r.e rfl) Try.isAgg50 (hO55.cell (i := 9) rfl rfl)) ?_
          refine LW.op (.free rfl) (OW.calls rfl (fun _ r => R.call (vs := [.slice x.aL x.nL x.cL]) Try.call45 rfl ⟨r.e rfl, trivial⟩) (v_clone _ _ _ _ _ x.left (hx.l_.mono hG2) (by omega) _ (hO55.frame [1] rfl)) ?_)
          rintro v59 w62 ⟨s60, hg61, hO63⟩
          replace hO63 := hO63.unframe2
          refine LW.value (.free rfl) rfl (fun _ r => R.assign (r.e rfl)) ?_
          refine LW.nil (EW.then (?_))
          refine CW.seq ?_
          refine CW.region ?_
          refine LW.value (.free rfl) rfl (fun _ r => R.move (r.e rfl)) ?_
          refine LW.value (.free rfl) rfl (fun _ r => R.move (r.e rfl)) ?_
          have hl64 : k < (x.left).length := by (try simp only [List.length_append, List.length_set, List.length_singleton]); omega
          obtain ⟨b65, cap66, rfl⟩ := Grow.opened hg61 (by omega)
          obtain ⟨q67, hq68⟩ : ∃ t, (x.left)[k]? = some t := ⟨_, List.getElem?_eq_getElem hl64⟩
          refine LW.value (.free rfl) rfl (fun _ r => R.indexAddr (k := k * 1) (r.e rfl) (r.e rfl) Try.runUnderlying50 Try.sizeOf4 (by omega) (by omega) (by simp)) ?_
          refine LW.op (.free rfl) (OW.storeElem (i := 0) (o := 0) (q' := false) (vs := [.bool false]) rfl hO63 rfl hg61 (fun _ _ => rfl) hq68 rfl rfl rfl rfl rfl Try.sizeOf4 rfl rfl ?_)
          intro w69 s71 hg72 hO70
          have hq73 := get_set_self (y := false) hq68
          refine LW.nil (EW.then (?_))
          refine CW.seq ?_
          refine HP.start (I := fun w' => Own w' [[(b40, .cells #[.int .i64 q38.1, .int .i64 q38.2] 39 (0, 0))], [(b11, .cells #[.int .i64 c.th, .int .i64 c.d, .int .i64 c.h, .int .i64 c.off, .int .i64 c.n, .int .i64 c.code, .int .i64 c.num, .bool c.done, .int .i64 c.frm, .int .i64 c.to_] 73 (0, 0))], [(b4, .cells #[.slice x.aL x.nL x.cL, .pointer (some ⟨x.pm, 0, none⟩), .slice x.aT x.nT x.cT] 64 (0, 0))]]) (.take 0 (.take 1 (.take 2 (.take 3 (.take 4 (.take 5 (.take 6 (.take 7 (.take 8 (.take 9 (.take 10 (.take 11 (.take 12 (.take 13 (.take 14 (.one 15 (.one 16 (.take 17 (.done))))))))))))))))))) Try.mixed (by intro c d v a w h; cases d <;> exact h) hO70 (by kernel_rfl) ?_
          intro w74 hO75
          have hI76 := hO75.pick [3, 6, 8] rfl
          refine HP.take rfl (.free rfl) rfl hI76 (fun _ r _ hI => R.fieldAddr (k := 2) (r.e rfl) Try.runUnderlying64 rfl Try.sizeOf22 rfl) ?_
          refine HP.take rfl (.free rfl) rfl hI76 (fun _ r _ hI => R.load1 (r.e rfl) Try.isAgg22 (hI.cell (i := 2) rfl rfl)) ?_
          refine HP.take rfl (.free rfl) rfl hI76 (fun _ r _ hI => R.fieldAddr (k := 2) (r.e rfl) Try.runUnderlying64 rfl Try.sizeOf22 rfl) ?_
          refine HP.take rfl (.free rfl) rfl hI76 (fun _ r _ hI => R.load1 (r.e rfl) Try.isAgg22 (hI.cell (i := 2) rfl rfl)) ?_
          refine HP.take rfl (.free rfl) rfl hI76 (fun _ r _ hI => R.len_slice (r.e rfl) Try.runUnderlying22) ?_
          refine HP.take rfl (.free rfl) rfl hI76 (fun _ r _ hI => R.fieldAddr (k := 2) (r.e rfl) Try.runUnderlying64 rfl Try.sizeOf22 rfl) ?_
          refine HP.take rfl (.free rfl) rfl hI76 (fun _ r _ hI => R.load1 (r.e rfl) Try.isAgg22 (hI.cell (i := 2) rfl rfl)) ?_
          refine HP.take rfl (.free rfl) rfl hI76 (fun _ r _ hI => R.len_slice (r.e rfl) Try.runUnderlying22) ?_
          refine HP.take rfl (.free rfl) rfl hI76 (fun _ r _ hI => R.as (R.slice3 (r.e rfl) (r.e rfl) (r.e rfl) Try.runUnderlying22 Try.sizeOf41 (by omega) (by omega) (by omega)) (show _ = (.slice x.aT (((x.nT : Int)).toNat) (((x.nT : Int)).toNat) : Value) from by simp)) ?_
          refine HP.take rfl (.free rfl) rfl hI76 (fun _ r _ hI => R.fieldAddr (k := 0) (r.e rfl) Try.runUnderlying73 rfl Try.sizeOf3 rfl) ?_
          refine HP.take rfl (.free rfl) rfl hI76 (fun _ r _ hI => R.load1 (r.e rfl) Try.isAgg3 (hI.cell (i := 1) rfl rfl)) ?_
          refine HP.take rfl (.free rfl) rfl hI76 (fun _ r _ hI => R.fieldAddr (k := 1) (r.e rfl) Try.runUnderlying73 rfl Try.sizeOf36 rfl) ?_
          refine HP.take rfl (.free rfl) rfl hI76 (fun _ r _ hI => R.loadn (vs := [.int .i64 c.d, .int .i64 c.h, .int .i64 c.off, .int .i64 c.n]) (r.e rfl) Try.isAgg36 Try.sizeOf36 rfl (hI.cells (i := 1) rfl rfl)) ?_
          refine HP.take rfl (.free rfl) rfl hI76 (fun _ r _ hI => R.loadn (vs := [.int .i64 q38.1, .int .i64 q38.2]) (r.e rfl) Try.isAgg39 Try.sizeOf39 rfl (hI.cells (i := 0) rfl rfl)) ?_
          refine HP.take rfl (.free rfl) rfl hI76 (fun _ r _ hI => R.build (v := .agg #[.int .i64 c.th, .bool false, .int .i64 c.d, .int .i64 c.h, .int .i64 c.off, .int .i64 c.n, .int .i64 q38.1, .int .i64 q38.2]) (vs := [(0, .int .i64 c.th), (2, .agg #[.int .i64 c.d, .int .i64 c.h, .int .i64 c.off, .int .i64 c.n]), (3, .agg #[.int .i64 q38.1, .int .i64 q38.2])]) ⟨⟨r.e rfl, rfl⟩, ⟨r.e rfl, rfl⟩, ⟨r.e rfl, rfl⟩, trivial⟩ (by simp [go_sem])) ?_
          refine HP.one rfl (.free rfl) (OW.buildSlice (cs := #[.int .i64 c.th, .bool false, .int .i64 c.d, .int .i64 c.h, .int .i64 c.off, .int .i64 c.n, .int .i64 q38.1, .int .i64 q38.2]) (e := 41) (vs := [(0, .agg #[.int .i64 c.th, .bool false, .int .i64 c.d, .int .i64 c.h, .int .i64 c.off, .int .i64 c.n, .int .i64 q38.1, .int .i64 q38.2])]) rfl hO75 (fun _ r => ⟨⟨r.e rfl, rfl⟩, trivial⟩) (fun _ => by simp [go_sem, Instr.buildSlice, newRow]) ?_)
          intro b77 w78 hO79
          have hI80 := hO79.pick [4, 7, 9] rfl
          refine ⟨hI80, ?_⟩
          refine HP.one rfl (.free rfl) (OW.appendFull (gi := 2) (bi := 0) (y0 := evOf c q38) elemEv rfl hO79 rfl (hx.t_.mono hG2) rfl rfl rfl rfl (fun _ _ => rfl) (by omega) (by omega) ?_)
          intro v81 s82 w83 hO84 hg85
          have hI86 := hO84.pick [5, 8, 10] rfl
          refine ⟨hI86, ?_⟩
          refine HP.take rfl (.free rfl) rfl hI86 (fun _ r _ hI => R.assign (r.e rfl)) ?_
          refine HP.done (EW.then (?_))
          have hsl87 := Grow.sl hg72 (fun _ _ => rfl)
          obtain ⟨a88, cap89, rfl⟩ := Grow.slice hg85
          have hsl90 := Grow.sl hg85 (fun _ _ => rfl)
          refine HP.start (I := fun w' => Own w' [[(b1, .cells #[.pointer (some ⟨ps, 0, none⟩)] 56 (0, 0))]]) (.take 0 (.take 1 (.take 2 (.take 3 (.take 5 (.take 6 (.take 7 (.take 8 (.two 4 9 (.one 9 (.one 10 (.take 11 (.take 12 (.one 13 (.done)))))) (.one 4 (.one 10 (.take 11 (.take 12 (.one 13 (.done))))))))))))))) Try.mixed (by intro c d v a w h; cases d <;> exact h) hO84 (by kernel_rfl) ?_
          intro w91 hO92
          have hI93 := hO92.pick [11] rfl
          refine HP.take rfl (.free rfl) rfl hI93 (fun _ r _ hI => R.load1 (r.e rfl) Try.isAgg56 (hI.cell (i := 0) rfl rfl)) ?_
          refine HP.take rfl (.free rfl) rfl hI93 (fun _ r _ hI => R.load1 (r.e rfl) Try.isAgg56 (hI.cell (i := 0) rfl rfl)) ?_
          refine HP.take rfl (.free rfl) rfl hI93 (fun _ r _ hI => R.nilCheck (r.e rfl)) ?_
          refine HP.take rfl (.free rfl) rfl hI93 (fun _ r _ hI => R.fieldAddr (k := 2) (r.e rfl) Try.runUnderlying59 rfl Try.sizeOf57 rfl) ?_
          refine HP.take rfl (.free rfl) rfl hI93 (fun _ r _ hI => R.move (r.e rfl)) ?_
          refine HP.take rfl (.free rfl) rfl hI93 (fun _ r _ hI => R.move (r.e rfl)) ?_
          refine HP.take rfl (.free rfl) rfl hI93 (fun _ r _ hI => R.move (r.e rfl)) ?_
          refine HP.take rfl (.free rfl) rfl hI93 (fun _ r _ hI => R.build (v := .agg #[.slice (some ⟨b65, 0, none⟩) (x.left).length cap66, .pointer (some ⟨pm47, 0, none⟩), .slice a88 ((x.told ++ [evOf c q38])).length cap89]) (vs := [(0, .slice (some ⟨b65, 0, none⟩) (x.left).length cap66), (1, .pointer (some ⟨pm47, 0, none⟩)), (2, .slice a88 ((x.told ++ [evOf c q38])).length cap89)]) ⟨⟨r.e rfl, rfl⟩, ⟨r.e rfl, rfl⟩, ⟨r.e rfl, rfl⟩, trivial⟩ (by simp [go_sem])) ?_
          refine HP.two rfl rfl (.free rfl) (.free rfl) ?_ ?_
          ·
            refine OW.value rfl (fun _ r => R.load1 (r.e rfl) Try.isAgg57 (hO92.cell (i := 7) rfl rfl)) ⟨hI93, ?_⟩
            refine HP.one rfl (.free rfl) (OW.buildSlice (cs := #[.slice (some ⟨b65, 0, none⟩) (x.left).length cap66, .pointer (some ⟨pm47, 0, none⟩), .slice a88 ((x.told ++ [evOf c q38])).length cap89]) (e := 64) (vs := [(0, .agg #[.slice (some ⟨b65, 0, none⟩) (x.left).length cap66, .pointer (some ⟨pm47, 0, none⟩), .slice a88 ((x.told ++ [evOf c q38])).length cap89])]) rfl hO92 (fun _ r => ⟨⟨r.e rfl, rfl⟩, trivial⟩) (fun _ => by simp [go_sem, Instr.buildSlice, newRow]) ?_)
            intro b94 w95 hO96
            have hI97 := hO96.pick [12] rfl
            refine ⟨hI97, ?_⟩
            have hO98 := hO96.move [11] rfl
            refine HP.one rfl (.free rfl) (OW.append (xs := (ws ++ A2)) (ys := [(⟨(some ⟨b65, 0, none⟩), (x.left).length, cap66, pm47, a88, ((x.told ++ [evOf c q38])).length, cap89, (x.left.set k false), X51, T52, (x.told ++ [evOf c q38])⟩ : St)]) elemSt rfl hO98 rfl rfl hw2 (fun _ _ => rfl) (fun _ _ => rfl) rfl (fun _ => src (i := 1) hO98 rfl rfl) (by simp; omega) (by simp; omega) (by decide) ?_)
            intro v99 s100 w101 hO102 hg103
            have hI104 := hO102.pick [12] rfl
            refine ⟨hI104, ?_⟩
            refine HP.take rfl (.free rfl) rfl hI104 (fun _ r _ hI => R.nilCheck (r.e rfl)) ?_
            refine HP.take rfl (.free rfl) rfl hI104 (fun _ r _ hI => R.fieldAddr (k := 2) (r.e rfl) Try.runUnderlying59 rfl Try.sizeOf57 rfl) ?_
            refine HP.one rfl (.free rfl) (OW.store (i := 9) rfl hO102 rfl rfl rfl (Grow.one hg103) Try.sizeOf57 rfl ?_)
            intro w105 hO106
            have hI107 := hO106.pick [12] rfl
            refine ⟨hI107, ?_⟩
            refine HP.done (EW.inB_normal (EW.then (?_)))
            refine CW.region ?_
            refine LW.value (.free rfl) rfl (fun _ r => R.as (R.add (r.e rfl) (r.e rfl)) (congrArg (Value.int .i64) (wrap_i64 (by omega) (by omega)))) ?_
            refine LW.value (.free rfl) rfl (fun _ r => R.move (r.e rfl)) ?_
            refine LW.nil ?_
            have hG109 : ∀ p ∈ G, p ∈ (s71 ++ (s56 ++ (s82 ++ G2))) := by intro p hp; simp [hG2 p hp]
            have hO108 : Own _ [s23, [(ps, .cells #[.slice aC nC cC, .slice aH nH cH, v99] 59 (0, 0))], (s71 ++ (s56 ++ (s82 ++ G2))), Z, [(b11, .cells #[.int .i64 c.th, .int .i64 c.d, .int .i64 c.h, .int .i64 c.off, .int .i64 c.n, .int .i64 c.code, .int .i64 c.num, .bool c.done, .int .i64 c.frm, .int .i64 c.to_] 73 (0, 0))], s100, [(b1, .cells #[.pointer (some ⟨ps, 0, none⟩)] 56 (0, 0))], [(b4, .cells #[.slice x.aL x.nL x.cL, .pointer (some ⟨x.pm, 0, none⟩), .slice x.aT x.nT x.cT] 64 (0, 0))], F] := (hO106.pick [8, 8, 4, 5, 2, 3, 4, 4, 0, 3, 3, 3] rfl).perm' (List.Perm.of_eq (by simp))
            have hst110 : StOk (s71 ++ (s56 ++ (s82 ++ G2))) cs (⟨(some ⟨b65, 0, none⟩), (x.left).length, cap66, pm47, a88, ((x.told ++ [evOf c q38])).length, cap89, (x.left.set k false), X51, T52, (x.told ++ [evOf c q38])⟩ : St) := ⟨hsl87.mono (by intro p hp; simp [hp]), MIn.own hM57 (hO106.move [6] rfl) (by intro p hp; simp [hp]), hsl90.mono (by intro p hp; simp [hp]), path_step hx.p_ h21 hc (List.mem_of_getElem? hq39) (hr53.trans (by rw [h58])), evB_snoc hx.b_ (resP_bounds hXb (hcn c (List.mem_of_getElem? hc)) hhn (List.mem_of_getElem? hq39)) (hch c (List.mem_of_getElem? hc)), by have h1 := cnt_set h21.1; have h2 := hx.n_; simp only [List.length_append, List.length_singleton]; omega⟩
            have hAn111 : ∀ y ∈ A2 ++ [(⟨(some ⟨b65, 0, none⟩), (x.left).length, cap66, pm47, a88, ((x.told ++ [evOf c q38])).length, cap89, (x.left.set k false), X51, T52, (x.told ++ [evOf c q38])⟩ : St)], StOk (s71 ++ (s56 ++ (s82 ++ G2))) cs y := by
              intro y hy
              rcases List.mem_append.1 hy with hy | hy
              · exact (hA2 y hy).mono (by intro p hp; simp [hp])
              · rw [List.mem_singleton.1 hy]; exact hst110
            exact EW.sub (env' := [(2, .pointer (some ⟨b1, 0, none⟩)), (3, .pointer (some ⟨b4, 0, none⟩)), (4, .int .i64 (k : Int)), (5, .pointer (some ⟨b11, 0, none⟩)), (28, v22), (29, .int .i64 (((resP x.X c hs)).length : Int)), (30, .int .i64 ((j + 1) : Int))]) ⟨rfl, rfl, rfl, rfl, rfl, rfl, rfl, trivial⟩ (EW.round (j + 1, (s71 ++ (s56 ++ (s82 ++ G2))), s100, v99, (A2 ++ [(⟨(some ⟨b65, 0, none⟩), (x.left).length, cap66, pm47, a88, ((x.told ++ [evOf c q38])).length, cap89, (x.left.set k false), X51, T52, (x.told ++ [evOf c q38])⟩ : St)])) ⟨j + 1, (s71 ++ (s56 ++ (s82 ++ G2))), s100, v99, (A2 ++ [(⟨(some ⟨b65, 0, none⟩), (x.left).length, cap66, pm47, a88, ((x.told ++ [evOf c q38])).length, cap89, (x.left.set k false), X51, T52, (x.told ++ [evOf c q38])⟩ : St)]), rfl, rfl, hO108, by omega, hG109, by rw [← List.append_assoc]; exact hg103, hAn111, hE2.add hc h21 hq39 (hr53.trans (by rw [h58])) rfl⟩ (by dsimp only; omega))
          ·
            refine OW.buildSlice (cs := #[.slice (some ⟨b65, 0, none⟩) (x.left).length cap66, .pointer (some ⟨pm47, 0, none⟩), .slice a88 ((x.told ++ [evOf c q38])).length cap89]) (e := 64) (vs := [(0, .agg #[.slice (some ⟨b65, 0, none⟩) (x.left).length cap66, .pointer (some ⟨pm47, 0, none⟩), .slice a88 ((x.told ++ [evOf c q38])).length cap89])]) rfl hO92 (fun _ r => ⟨⟨r.e rfl, rfl⟩, trivial⟩) (fun _ => by simp [go_sem, Instr.buildSlice, newRow]) ?_
            intro b112 w113 hO114
            have hI115 := hO114.pick [12] rfl
            refine ⟨hI115, ?_⟩
            refine HP.one rfl (.free rfl) (OW.value rfl (fun _ r => R.load1 (r.e rfl) Try.isAgg57 (hO114.cell (i := 8) rfl rfl)) ⟨hI115, ?_⟩)
            have hO116 := hO114.move [11] rfl
            refine HP.one rfl (.free rfl) (OW.append (xs := (ws ++ A2)) (ys := [(⟨(some ⟨b65, 0, none⟩), (x.left).length, cap66, pm47, a88, ((x.told ++ [evOf c q38])).length, cap89, (x.left.set k false), X51, T52, (x.told ++ [evOf c q38])⟩ : St)]) elemSt rfl hO116 rfl rfl hw2 (fun _ _ => rfl) (fun _ _ => rfl) rfl (fun _ => src (i := 1) hO116 rfl rfl) (by simp; omega) (by simp; omega) (by decide) ?_)
            intro v117 s118 w119 hO120 hg121
            have hI122 := hO120.pick [12] rfl
            refine ⟨hI122, ?_⟩
            refine HP.take rfl (.free rfl) rfl hI122 (fun _ r _ hI => R.nilCheck (r.e rfl)) ?_
            refine HP.take rfl (.free rfl) rfl hI122 (fun _ r _ hI => R.fieldAddr (k := 2) (r.e rfl) Try.runUnderlying59 rfl Try.sizeOf57 rfl) ?_
            refine HP.one rfl (.free rfl) (OW.store (i := 9) rfl hO120 rfl rfl rfl (Grow.one hg121) Try.sizeOf57 rfl ?_)
            intro w123 hO124
            have hI125 := hO124.pick [12] rfl
            refine ⟨hI125, ?_⟩
            refine HP.done (EW.inB_normal (EW.then (?_)))
            refine CW.region ?_
            refine LW.value (.free rfl) rfl (fun _ r => R.as (R.add (r.e rfl) (r.e rfl)) (congrArg (Value.int .i64) (wrap_i64 (by omega) (by omega)))) ?_
            refine LW.value (.free rfl) rfl (fun _ r => R.move (r.e rfl)) ?_
            refine LW.nil ?_
            have hG127 : ∀ p ∈ G, p ∈ (s71 ++ (s56 ++ (s82 ++ G2))) := by intro p hp; simp [hG2 p hp]
            have hO126 : Own _ [s23, [(ps, .cells #[.slice aC nC cC, .slice aH nH cH, v117] 59 (0, 0))], (s71 ++ (s56 ++ (s82 ++ G2))), Z, [(b11, .cells #[.int .i64 c.th, .int .i64 c.d, .int .i64 c.h, .int .i64 c.off, .int .i64 c.n, .int .i64 c.code, .int .i64 c.num, .bool c.done, .int .i64 c.frm, .int .i64 c.to_] 73 (0, 0))], s118, [(b1, .cells #[.pointer (some ⟨ps, 0, none⟩)] 56 (0, 0))], [(b4, .cells #[.slice x.aL x.nL x.cL, .pointer (some ⟨x.pm, 0, none⟩), .slice x.aT x.nT x.cT] 64 (0, 0))], F] := (hO124.pick [8, 8, 4, 5, 2, 3, 4, 4, 0, 3, 3, 3] rfl).perm' (List.Perm.of_eq (by simp))
            have hst128 : StOk (s71 ++ (s56 ++ (s82 ++ G2))) cs (⟨(some ⟨b65, 0, none⟩), (x.left).length, cap66, pm47, a88, ((x.told ++ [evOf c q38])).length, cap89, (x.left.set k false), X51, T52, (x.told ++ [evOf c q38])⟩ : St) := ⟨hsl87.mono (by intro p hp; simp [hp]), MIn.own hM57 (hO124.move [6] rfl) (by intro p hp; simp [hp]), hsl90.mono (by intro p hp; simp [hp]), path_step hx.p_ h21 hc (List.mem_of_getElem? hq39) (hr53.trans (by rw [h58])), evB_snoc hx.b_ (resP_bounds hXb (hcn c (List.mem_of_getElem? hc)) hhn (List.mem_of_getElem? hq39)) (hch c (List.mem_of_getElem? hc)), by have h1 := cnt_set h21.1; have h2 := hx.n_; simp only [List.length_append, List.length_singleton]; omega⟩
            have hAn129 : ∀ y ∈ A2 ++ [(⟨(some ⟨b65, 0, none⟩), (x.left).length, cap66, pm47, a88, ((x.told ++ [evOf c q38])).length, cap89, (x.left.set k false), X51, T52, (x.told ++ [evOf c q38])⟩ : St)], StOk (s71 ++ (s56 ++ (s82 ++ G2))) cs y := by
              intro y hy
              rcases List.mem_append.1 hy with hy | hy
              · exact (hA2 y hy).mono (by intro p hp; simp [hp])
              · rw [List.mem_singleton.1 hy]; exact hst128
            exact EW.sub (env' := [(2, .pointer (some ⟨b1, 0, none⟩)), (3, .pointer (some ⟨b4, 0, none⟩)), (4, .int .i64 (k : Int)), (5, .pointer (some ⟨b11, 0, none⟩)), (28, v22), (29, .int .i64 (((resP x.X c hs)).length : Int)), (30, .int .i64 ((j + 1) : Int))]) ⟨rfl, rfl, rfl, rfl, rfl, rfl, rfl, trivial⟩ (EW.round (j + 1, (s71 ++ (s56 ++ (s82 ++ G2))), s118, v117, (A2 ++ [(⟨(some ⟨b65, 0, none⟩), (x.left).length, cap66, pm47, a88, ((x.told ++ [evOf c q38])).length, cap89, (x.left.set k false), X51, T52, (x.told ++ [evOf c q38])⟩ : St)])) ⟨j + 1, (s71 ++ (s56 ++ (s82 ++ G2))), s118, v117, (A2 ++ [(⟨(some ⟨b65, 0, none⟩), (x.left).length, cap66, pm47, a88, ((x.told ++ [evOf c q38])).length, cap89, (x.left.set k false), X51, T52, (x.told ++ [evOf c q38])⟩ : St)]), rfl, rfl, hO126, by omega, hG127, by rw [← List.append_assoc]; exact hg121, hAn129, hE2.add hc h21 hq39 (hr53.trans (by rw [h58])) rfl⟩ (by dsimp only; omega))
        · -- not: b50
          refine CW.yes (kb (bN h58)) ?_
          refine CW.exit (EW.then_exit (EW.inB_same (EW.then (?_))))
          refine CW.region ?_
          refine LW.value (.free rfl) rfl (fun _ r => R.as (R.add (r.e rfl) (r.e rfl)) (congrArg (Value.int .i64) (wrap_i64 (by omega) (by omega)))) ?_
          refine LW.value (.free rfl) rfl (fun _ r => R.move (r.e rfl)) ?_
          refine LW.nil ?_
          exact EW.sub (env' := [(2, .pointer (some ⟨b1, 0, none⟩)), (3, .pointer (some ⟨b4, 0, none⟩)), (4, .int .i64 (k : Int)), (5, .pointer (some ⟨b11, 0, none⟩)), (28, v22), (29, .int .i64 (((resP x.X c hs)).length : Int)), (30, .int .i64 ((j + 1) : Int))]) ⟨rfl, rfl, rfl, rfl, rfl, rfl, rfl, trivial⟩ (EW.round (j + 1, G2, sw2, wv2, A2) ⟨j + 1, G2, sw2, wv2, A2, rfl, rfl, hO55.pick [3, 3, 1, 2, 2, 2, 2, 2, 2] rfl, by omega, hG2, hw2, hA2, hE2.skip hc hq39 (by rw [hr53]; exact h58)⟩ (by dsimp only; omega))
      · -- not: (j : Int) < (((resP x.X c hs)).length : Int)
        refine CW.no (kb (dF h32)) ?_
        refine CW.exit (EW.then_exit (EW.then_exit (EW.inB_same (EW.inB_normal (?_)))))
        have hO130 := Own.unhide hZ (hO31.pick [3, 2, 3, 1, 2, 2, 2] rfl)
        refine EW.endround (i := 0) hO130 rfl ?_
        intro w131 hO132
        exact ⟨_, ⟨G2, sw2, wv2, A2, rfl, hG2, hw2, hA2, hE2.end_ hc (by omega)⟩, hO132⟩
    · -- not: May cs x.left k
      refine CW.yes (kb (bN (dF h21))) ?_
      refine CW.exit (EW.then_exit (EW.inB_same (?_)))
      have hO133 := Own.unhide hZ (hO20.pick [2, 1, 2, 0, 1, 1, 1] rfl)
      refine EW.endround (i := 0) hO133 rfl ?_
      intro w134 hO135
      exact ⟨_, ⟨G1, sw1, wv1, A, rfl, hG1, hw1, hA, hE.not h21⟩, hO135⟩
  ·
    rintro a D w4 R ha hD ⟨G', sw', wv', A, rfl, hG', hw', hA, hE⟩ hO4
    exact leaves0 rfl hD ⟨sw', wv', G', A, hG', hw', hA, hE, hO4.pick [1, 1, 0, 2] rfl⟩

end Go.Sd
