/-
  linear.Order, linear.Accepts, walked.
-/
import Derived.Test.YtgkbmelecalllaaSeU
set_option linter.unusedSimpArgs false
set_option linter.unusedVariables false
set_option linter.unusedSectionVars false
namespace Go.Sd
open Go Go.Proofs
variable [Str]
structure OSt where
  ps : Nat
  b7 : Nat
  aC : Option Addr
  nC : Nat
  cC : Nat
  aH : Option Addr
  nH : Nat
  cH : Nat
  x : St
  ws : List St
  sw : Seg
  wv : Value
  G1 : Seg
/-- What holds at the label. -/
def OInv (C : Prop) (cs : List Cal) (hs : List Int) (G F : Seg) (o : OSt) (env : Env) (w : World) : Prop :=
  env = [(6, .pointer (some ⟨o.ps, 0, none⟩)), (7, .pointer (some ⟨o.b7, 0, none⟩))] ∧ Own w [o.sw, [(o.ps, .cells #[.slice o.aC o.nC o.cC, .slice o.aH o.nH o.cH, o.wv] 59 (0, 0))], [(o.b7, .cells #[.slice o.x.aL o.x.nL o.x.cL, .pointer (some ⟨o.x.pm, 0, none⟩), .slice o.x.aT o.x.nT o.x.cT] 64 (0, 0))], o.G1, F] ∧
  (∀ p ∈ G, p ∈ o.G1) ∧ Sl o.G1 10 encL o.aC o.nC o.cC cs ∧ Sl o.G1 1 encI o.aH o.nH o.cH hs ∧ Grow 64 3 encS o.wv o.sw o.ws ∧ StOk o.G1 cs o.x ∧ (∀ y ∈ o.ws, StOk o.G1 cs y) ∧
  (Ok cs hs (List.replicate cs.length true) [] [] ↔ Ok cs hs o.x.left o.x.X o.x.T ∨ ∃ y ∈ o.ws, Ok cs hs y.left y.X y.T) ∧ Stk cs (cs.length * (hs.length + 1)) o.x o.ws ∧ C

set_option maxRecDepth 100000 in
set_option maxHeartbeats 8000000 in
theorem l_order0 (G F : Seg) (a : Option Addr) (n c : Nat) (l : List Ev) (hsl0 : Sl G 8 encE a n c l) (hn : l.length ≤ 100) (hbl : EvB l) (cs : List Cal) (hcs : cs = callsI l l.length) (hs : List Int) (hhs : hs = handV l) (w : World) (hO : Own w [G, F]) : Calls Try.prog 10 [.slice a n c].toArray w (Ret fun v w' => (∃ (a : Option Addr) (n c : Nat) (told : List Ev) (G' : Seg), v = .tuple #[.slice a n c, .bool true] ∧ (∀ p ∈ G, p ∈ G') ∧ Sl G' 8 encE a n c told ∧ HoldsP l told ∧ AccP l ∧ EvB told ∧ told.length ≤ 100 ∧ Own w' [G', F]) ∨ (v = .tuple #[.slice none 0 0, .bool false] ∧ ¬ AccP l ∧ Own w' [G, F])) := by
  have hl := hsl0.hlen
  have hcn : ∀ c ∈ cs, IntB c.num := by subst hcs; exact calls_num hbl
  have hch : ∀ c ∈ cs, IntB c.h := by subst hcs; exact calls_h hbl
  have hhn : ∀ h ∈ hs, IntB h := by subst hhs; exact hand_num hbl
  have hcsl : cs.length ≤ l.length := by subst hcs; exact callsI_len l l.length
  have hhsl : hs.length ≤ l.length := by subst hhs; exact (handV_mem l).2
  refine enter (n := 61) Try.func10 rfl rfl rfl ?_
  refine CW.seq ?_
  refine CW.region ?_
  refine LW.value (.free rfl) rfl (fun _ r => R.assign (r.e rfl)) ?_
  refine LW.value (.free rfl) rfl (fun _ r => R.assign (r.e rfl)) ?_
  refine LW.nil (EW.then (?_))
  refine CW.scopeJ 0 (α := OSt) (OInv (checkL l = 0) cs hs G F) (fun o => wgts (cs.length * (hs.length + 1)) (o.x :: o.ws)) rfl ?_ ?_
  ·
    rintro ⟨ps, b7, aC, nC, cC, aH, nH, cH, x, ws, sw, wv, G1⟩ _ w2 ⟨rfl, hO2, hG1, hC, hH, hw, hx, hws, hok, hstk, hck⟩
    dsimp only at hO2 hG1 hC hH hw hx hws hok hstk
    have hlC := hC.hlen
    have hlH := hH.hlen
    have hxl := hx.lens
    have hlL := hx.l_.hlen
    have hlT := hx.t_.hlen
    have hxn := hx.n_
    have hwl : ws.length ≤ 100000000 := by have h1 := hstk.top; have h2 : (cs.length - cntL x.left) * (cs.length * (hs.length + 1)) ≤ 100 * (100 * 1001) := Nat.mul_le_mul (by omega) (Nat.mul_le_mul (by omega) (by omega)); omega
    refine CW.seq ?_
    refine CW.seq ?_
    refine CW.region ?_
    refine LW.value (.free rfl) rfl (fun _ r => R.move (r.e rfl)) ?_
    refine LW.value (.free rfl) rfl (fun _ r => R.fieldAddr (k := 0) (r.e rfl) Try.runUnderlying64 rfl Try.sizeOf50 rfl) ?_
    refine LW.value (.free rfl) rfl (fun _ r => R.load1 (r.e rfl) Try.isAgg50 (hO2.cell (i := 2) rfl rfl)) ?_
    refine LW.op (.free rfl) (OW.calls rfl (fun _ r => R.call (vs := [.pointer (some ⟨ps, 0, none⟩), .slice x.aL x.nL x.cL]) Try.call23 rfl ⟨r.e rfl, r.e rfl, trivial⟩) (v_done ps wv aH nH cH _ _ _ _ _ cs hC (by omega) _ _ _ x.left hx.l_ (by omega) _ (hO2.frame [1, 2] rfl)) ?_)
    rintro _ w1 ⟨rfl, hO2⟩
    replace hO2 := hO2.unframe2
    refine LW.nil (EW.then (?_))
    by_cases h3 : AllDone cs x.left
    · -- AllDone cs x.left
      refine CW.yes (kb (dT h3)) ?_
      refine CW.seq ?_
      refine CW.region ?_
      refine LW.value (.free rfl) rfl (fun _ r => R.fieldAddr (k := 2) (r.e rfl) Try.runUnderlying64 rfl Try.sizeOf22 rfl) ?_
      refine LW.value (.free rfl) rfl (fun _ r => R.load1 (r.e rfl) Try.isAgg22 (hO2.cell (i := 3) rfl rfl)) ?_
      refine LW.value (.free rfl) rfl (fun _ r => R.assign (r.e rfl)) ?_
      refine LW.value (.free rfl) rfl (fun _ r => R.assign (r.e rfl)) ?_
      refine LW.nil (EW.then (?_))
      refine CW.ret (EW.then_ret (EW.jump_ret (?_)))
      refine EW.ret2 rfl rfl rfl ?_
      exact .inl ⟨x.aT, x.nT, x.cT, x.told, G1, rfl, hG1, hx.t_, ⟨hck, by subst hcs; exact ⟨_, hx.p_, h3⟩⟩, (acc_iff l).2 ⟨hck, by subst hcs hhs; exact hok.2 (.inl (Ok.done h3))⟩, hx.b_, by have := hx.n_; omega, hO2.pick [1, 3] rfl⟩
    · -- not: AllDone cs x.left
      refine CW.no (kb (dF h3)) ?_
      refine CW.skip (EW.then (?_))
      refine CW.seq ?_
      refine CW.region ?_
      refine LW.value (.free rfl) rfl (fun _ r => R.move (r.e rfl)) ?_
      refine LW.value (.free rfl) rfl (fun _ r => R.loadn (vs := [.slice x.aL x.nL x.cL, .pointer (some ⟨x.pm, 0, none⟩), .slice x.aT x.nT x.cT]) (r.e rfl) Try.isAgg64 Try.sizeOf64 rfl (hO2.cells (i := 3) rfl rfl)) ?_
      refine LW.op (.free rfl) (OW.calls rfl (fun _ r => R.call (vs := [.pointer (some ⟨ps, 0, none⟩), .agg #[.slice x.aL x.nL x.cL, .pointer (some ⟨x.pm, 0, none⟩), .slice x.aT x.nT x.cT]]) Try.call24 rfl ⟨r.e rfl, r.e rfl, trivial⟩) (v_spread ps wv aH nH cH _ _ _ _ _ cs hC (by omega) hs hH (by omega) x sw ws hw hx (by omega) hcn hch hhn _ (hO2.frame [2, 0, 0] rfl)) ?_)
      rintro _ w12 ⟨sw4, wv5, G6, A7, hG8, hw9, hA10, hE11, hO13⟩
      replace hO13 := hO13.unframe3
      have hAl : A7.length ≤ 200000 := by have h1 := hE11.2.2; have h2 : (cs.length - 0) * (hs.length + 1) ≤ 100 * 1001 := Nat.mul_le_mul (by omega) (by omega); omega
      have hwA : (ws ++ A7).length = ws.length + A7.length := List.length_append
      refine LW.nil (EW.then (?_))
      refine CW.seq ?_
      refine CW.seq ?_
      refine CW.region ?_
      refine LW.value (.free rfl) rfl (fun _ r => R.move (r.e rfl)) ?_
      refine LW.value (.free rfl) rfl (fun _ r => R.nilCheck (r.e rfl)) ?_
      refine LW.value (.free rfl) rfl (fun _ r => R.fieldAddr (k := 2) (r.e rfl) Try.runUnderlying59 rfl Try.sizeOf57 rfl) ?_
      refine LW.value (.free rfl) rfl (fun _ r => R.load1 (r.e rfl) Try.isAgg57 (hO13.cell (i := 1) rfl rfl)) ?_
      obtain ⟨a14, cap15, rfl⟩ := Grow.slice hw9
      refine LW.value (.free rfl) rfl (fun _ r => R.len_slice (r.e rfl) Try.runUnderlying57) ?_
      refine LW.value (.free rfl) rfl (fun _ r => R.assign (r.e rfl)) ?_
      refine LW.nil (EW.then (?_))
      refine CW.seq ?_
      refine CW.region ?_
      refine LW.value (.free rfl) rfl (fun _ r => R.move (r.e rfl)) ?_
      refine LW.value (.free rfl) rfl (fun _ r => R.gtr (r.e rfl) (r.e rfl)) ?_
      refine LW.nil (EW.then (?_))
      by_cases h16 : 0 < (((ws ++ A7)).length : Int)
      · -- 0 < (((ws ++ A7)).length : Int)
        refine CW.yes (kb (dT h16)) ?_
        refine CW.seq ?_
        obtain ⟨m, hm⟩ : ∃ m, (ws ++ A7).length = m + 1 := ⟨(ws ++ A7).length - 1, by omega⟩
        refine HP.start (I := fun w' => Own w' [sw4]) (.take 0 (.take 1 (.take 2 (.take 3 (.take 5 (.take 6 (.take 9 (.take 10 (.take 11 (.take 13 (.take 14 (.two 4 12 (.take 7 (.take 8 (.two 12 16 (.take 15 (.one 16 (.take 17 (.take 18 (.one 19 (.done)))))) (.one 12 (.take 15 (.take 17 (.take 18 (.one 19 (.done))))))))) (.take 15 (.one 4 (.take 7 (.take 8 (.one 16 (.take 17 (.take 18 (.one 19 (.done))))))))))))))))))))) Try.mixed (by intro c d v a w h; cases d <;> exact h) hO13 (by kernel_rfl) ?_
        intro w17 hO18
        have hI19 := hO18.pick [0] rfl
        refine HP.take rfl (.free rfl) rfl hI19 (fun _ r _ hI => R.move (r.e rfl)) ?_
        refine HP.take rfl (.free rfl) rfl hI19 (fun _ r _ hI => R.move (r.e rfl)) ?_
        refine HP.take rfl (.free rfl) rfl hI19 (fun _ r _ hI => R.nilCheck (r.e rfl)) ?_
        refine HP.take rfl (.free rfl) rfl hI19 (fun _ r _ hI => R.fieldAddr (k := 2) (r.e rfl) Try.runUnderlying59 rfl Try.sizeOf57 rfl) ?_
        refine HP.take rfl (.free rfl) rfl hI19 (fun _ r _ hI => R.move (r.e rfl)) ?_
        refine HP.take rfl (.free rfl) rfl hI19 (fun _ r _ hI => R.as (R.sub (r.e rfl) (r.e rfl)) (congrArg (Value.int .i64) (show _ = (m : Int) from by rw [wrap_i64 (by omega) (by omega)]; omega))) ?_
        refine HP.take rfl (.free rfl) rfl hI19 (fun _ r _ hI => R.move (r.e rfl)) ?_
        refine HP.take rfl (.free rfl) rfl hI19 (fun _ r _ hI => R.nilCheck (r.e rfl)) ?_
        refine HP.take rfl (.free rfl) rfl hI19 (fun _ r _ hI => R.fieldAddr (k := 2) (r.e rfl) Try.runUnderlying59 rfl Try.sizeOf57 rfl) ?_
        refine HP.take rfl (.free rfl) rfl hI19 (fun _ r _ hI => R.move (r.e rfl)) ?_
        refine HP.take rfl (.free rfl) rfl hI19 (fun _ r _ hI => R.as (R.sub (r.e rfl) (r.e rfl)) (congrArg (Value.int .i64) (show _ = (m : Int) from by rw [wrap_i64 (by omega) (by omega)]; omega))) ?_
        refine HP.two rfl rfl (.free rfl) (.free rfl) ?_ ?_
        ·
          refine OW.value rfl (fun _ r => R.load1 (r.e rfl) Try.isAgg57 (hO18.cell (i := 1) rfl rfl)) ⟨hI19, ?_⟩
          have hl20 : m < ((ws ++ A7)).length := by (try simp only [List.length_append, List.length_set, List.length_singleton]); omega
          obtain ⟨b21, cap22, ev23⟩ := Grow.opened hw9 (by omega)
          injection ev23 with ev23a ev23b ev23c
          subst ev23a ev23c
          obtain ⟨q24, hq25⟩ : ∃ t, ((ws ++ A7))[m]? = some t := ⟨_, List.getElem?_eq_getElem hl20⟩
          refine HP.take rfl (.free rfl) rfl hI19 (fun _ r _ hI => R.indexAddr (k := m * 3) (r.e rfl) (r.e rfl) Try.runUnderlying57 Try.sizeOf64 (by omega) (by omega) (by simp)) ?_
          refine HP.take rfl (.free rfl) rfl hI19 (fun _ r _ hI => R.loadn (vs := [.slice q24.aL q24.nL q24.cL, .pointer (some ⟨q24.pm, 0, none⟩), .slice q24.aT q24.nT q24.cT]) (r.e rfl) Try.isAgg64 Try.sizeOf64 rfl (fun j v hj => by have h := hw9.cellAt hI (i := 0) (j := 0 + j) rfl (fun _ _ => rfl) hq25 (take_get (o := 0) (m := 3) (l := encS q24) (by exact hj)); simpa [Nat.add_assoc] using h)) ?_
          refine HP.two rfl rfl (.free rfl) (.free rfl) ?_ ?_
          ·
            refine OW.value rfl (fun _ r => R.load1 (r.e rfl) Try.isAgg57 (hO18.cell (i := 1) rfl rfl)) ⟨hI19, ?_⟩
            have hle27 := Grow.lecap hw9
            have hg26 := Grow.cut (k := m) hw9 (by omega)
            refine HP.take rfl (.free rfl) rfl hI19 (fun _ r _ hI => R.as (R.sliceTo (r.e rfl) (r.e rfl) Try.runUnderlying57 Try.sizeOf64 (by omega) (by omega)) (show _ = (.slice (some ⟨b21, 0, none⟩) m cap15 : Value) from by simp)) ?_
            refine HP.one rfl (.free rfl) (OW.storeall (i := 3) (vs := [.slice q24.aL q24.nL q24.cL, .pointer (some ⟨q24.pm, 0, none⟩), .slice q24.aT q24.nT q24.cT]) rfl hO18 rfl rfl rfl rfl Try.sizeOf64 rfl ?_)
            intro w28 hO29
            have hI30 := hO29.pick [0] rfl
            refine ⟨hI30, ?_⟩
            refine HP.take rfl (.free rfl) rfl hI30 (fun _ r _ hI => R.nilCheck (r.e rfl)) ?_
            refine HP.take rfl (.free rfl) rfl hI30 (fun _ r _ hI => R.fieldAddr (k := 2) (r.e rfl) Try.runUnderlying59 rfl Try.sizeOf57 rfl) ?_
            refine HP.one rfl (.free rfl) (OW.store (i := 1) rfl hO29 rfl rfl rfl (Grow.one hg26) Try.sizeOf57 rfl ?_)
            intro w31 hO32
            have hI33 := hO32.pick [0] rfl
            refine ⟨hI33, ?_⟩
            refine HP.done (EW.then (?_))
            refine CW.goto (EW.then_goto (EW.jump (?_)))
            have hpop := pop_all hE11 h3 hok hstk rfl hq25 hm
            have hall : ∀ y ∈ ws ++ A7, StOk G6 cs y := fun y hy => (List.mem_append.1 hy).elim (fun h => (hws y h).mono hG8) (hA10 y)
            exact fun a ha => ⟨⟨ps, b7, aC, nC, cC, aH, nH, cH, q24, (ws ++ A7).take m, sw4, (.slice (some ⟨b21, 0, none⟩) m cap15), G6⟩, _, ha.sub (env' := [(6, .pointer (some ⟨ps, 0, none⟩)), (7, .pointer (some ⟨b7, 0, none⟩))]) ⟨rfl, rfl, trivial⟩, ⟨rfl, hO32.pick [0, 0, 1, 0, 0] rfl, fun p hp => hG8 p (hG1 p hp), hC.mono hG8, hH.mono hG8, hg26, hall _ (List.mem_of_getElem? hq25), fun y hy => hall y (List.mem_of_mem_take hy), hpop.1, hpop.2.1, hck⟩, hpop.2.2⟩
          ·
            refine OW.storeall (i := 3) (vs := [.slice q24.aL q24.nL q24.cL, .pointer (some ⟨q24.pm, 0, none⟩), .slice q24.aT q24.nT q24.cT]) rfl hO18 rfl rfl rfl rfl Try.sizeOf64 rfl ?_
            intro w34 hO35
            have hI36 := hO35.pick [0] rfl
            refine ⟨hI36, ?_⟩
            refine HP.one rfl (.free rfl) (OW.value rfl (fun _ r => R.load1 (r.e rfl) Try.isAgg57 (hO35.cell (i := 1) rfl rfl)) ⟨hI36, ?_⟩)
            have hle38 := Grow.lecap hw9
            have hg37 := Grow.cut (k := m) hw9 (by omega)
            refine HP.take rfl (.free rfl) rfl hI36 (fun _ r _ hI => R.as (R.sliceTo (r.e rfl) (r.e rfl) Try.runUnderlying57 Try.sizeOf64 (by omega) (by omega)) (show _ = (.slice (some ⟨b21, 0, none⟩) m cap15 : Value) from by simp)) ?_
            refine HP.take rfl (.free rfl) rfl hI36 (fun _ r _ hI => R.nilCheck (r.e rfl)) ?_
            refine HP.take rfl (.free rfl) rfl hI36 (fun _ r _ hI => R.fieldAddr (k := 2) (r.e rfl) Try.runUnderlying59 rfl Try.sizeOf57 rfl) ?_
            refine HP.one rfl (.free rfl) (OW.store (i := 1) rfl hO35 rfl rfl rfl (Grow.one hg37) Try.sizeOf57 rfl ?_)
            intro w39 hO40
            have hI41 := hO40.pick [0] rfl
            refine ⟨hI41, ?_⟩
            refine HP.done (EW.then (?_))
            refine CW.goto (EW.then_goto (EW.jump (?_)))
            have hpop := pop_all hE11 h3 hok hstk rfl hq25 hm
            have hall : ∀ y ∈ ws ++ A7, StOk G6 cs y := fun y hy => (List.mem_append.1 hy).elim (fun h => (hws y h).mono hG8) (hA10 y)
            exact fun a ha => ⟨⟨ps, b7, aC, nC, cC, aH, nH, cH, q24, (ws ++ A7).take m, sw4, (.slice (some ⟨b21, 0, none⟩) m cap15), G6⟩, _, ha.sub (env' := [(6, .pointer (some ⟨ps, 0, none⟩)), (7, .pointer (some ⟨b7, 0, none⟩))]) ⟨rfl, rfl, trivial⟩, ⟨rfl, hO40.pick [0, 0, 1, 0, 0] rfl, fun p hp => hG8 p (hG1 p hp), hC.mono hG8, hH.mono hG8, hg37, hall _ (List.mem_of_getElem? hq25), fun y hy => hall y (List.mem_of_mem_take hy), hpop.1, hpop.2.1, hck⟩, hpop.2.2⟩
        ·
          refine OW.value rfl (fun _ r => R.load1 (r.e rfl) Try.isAgg57 (hO18.cell (i := 1) rfl rfl)) ⟨hI19, ?_⟩
          obtain ⟨b42, cap43, ev44⟩ := Grow.opened hw9 (by omega)
          injection ev44 with ev44a ev44b ev44c
          subst ev44a ev44c
          have hle46 := Grow.lecap hw9
          have hg45 := Grow.cut (k := m) hw9 (by omega)
          refine HP.take rfl (.free rfl) rfl hI19 (fun _ r _ hI => R.as (R.sliceTo (r.e rfl) (r.e rfl) Try.runUnderlying57 Try.sizeOf64 (by omega) (by omega)) (show _ = (.slice (some ⟨b42, 0, none⟩) m cap15 : Value) from by simp)) ?_
          refine HP.one rfl (.free rfl) (OW.value rfl (fun _ r => R.load1 (r.e rfl) Try.isAgg57 (hO18.cell (i := 1) rfl rfl)) ⟨hI19, ?_⟩)
          have hl47 : m < ((ws ++ A7)).length := by (try simp only [List.length_append, List.length_set, List.length_singleton]); omega
          obtain ⟨q48, hq49⟩ : ∃ t, ((ws ++ A7))[m]? = some t := ⟨_, List.getElem?_eq_getElem hl47⟩
          refine HP.take rfl (.free rfl) rfl hI19 (fun _ r _ hI => R.indexAddr (k := m * 3) (r.e rfl) (r.e rfl) Try.runUnderlying57 Try.sizeOf64 (by omega) (by omega) (by simp)) ?_
          refine HP.take rfl (.free rfl) rfl hI19 (fun _ r _ hI => R.loadn (vs := [.slice q48.aL q48.nL q48.cL, .pointer (some ⟨q48.pm, 0, none⟩), .slice q48.aT q48.nT q48.cT]) (r.e rfl) Try.isAgg64 Try.sizeOf64 rfl (fun j v hj => by have h := hw9.cellAt hI (i := 0) (j := 0 + j) rfl (fun _ _ => rfl) hq49 (take_get (o := 0) (m := 3) (l := encS q48) (by exact hj)); simpa [Nat.add_assoc] using h)) ?_
          refine HP.one rfl (.free rfl) (OW.storeall (i := 3) (vs := [.slice q48.aL q48.nL q48.cL, .pointer (some ⟨q48.pm, 0, none⟩), .slice q48.aT q48.nT q48.cT]) rfl hO18 rfl rfl rfl rfl Try.sizeOf64 rfl ?_)
          intro w50 hO51
          have hI52 := hO51.pick [0] rfl
          refine ⟨hI52, ?_⟩
          refine HP.take rfl (.free rfl) rfl hI52 (fun _ r _ hI => R.nilCheck (r.e rfl)) ?_
          refine HP.take rfl (.free rfl) rfl hI52 (fun _ r _ hI => R.fieldAddr (k := 2) (r.e rfl) Try.runUnderlying59 rfl Try.sizeOf57 rfl) ?_
          refine HP.one rfl (.free rfl) (OW.store (i := 1) rfl hO51 rfl rfl rfl (Grow.one hg45) Try.sizeOf57 rfl ?_)
          intro w53 hO54
          have hI55 := hO54.pick [0] rfl
          refine ⟨hI55, ?_⟩
          refine HP.done (EW.then (?_))
          refine CW.goto (EW.then_goto (EW.jump (?_)))
          have hpop := pop_all hE11 h3 hok hstk rfl hq49 hm
          have hall : ∀ y ∈ ws ++ A7, StOk G6 cs y := fun y hy => (List.mem_append.1 hy).elim (fun h => (hws y h).mono hG8) (hA10 y)
          exact fun a ha => ⟨⟨ps, b7, aC, nC, cC, aH, nH, cH, q48, (ws ++ A7).take m, sw4, (.slice (some ⟨b42, 0, none⟩) m cap15), G6⟩, _, ha.sub (env' := [(6, .pointer (some ⟨ps, 0, none⟩)), (7, .pointer (some ⟨b7, 0, none⟩))]) ⟨rfl, rfl, trivial⟩, ⟨rfl, hO54.pick [0, 0, 1, 0, 0] rfl, fun p hp => hG8 p (hG1 p hp), hC.mono hG8, hH.mono hG8, hg45, hall _ (List.mem_of_getElem? hq49), fun y hy => hall y (List.mem_of_mem_take hy), hpop.1, hpop.2.1, hck⟩, hpop.2.2⟩
      · -- not: 0 < (((ws ++ A7)).length : Int)
        refine CW.no (kb (dF h16)) ?_
        refine CW.skip (EW.then (?_))
        refine CW.seq ?_
        refine CW.region ?_
        refine LW.value (.free rfl) rfl (fun _ r => R.assign (r.e rfl)) ?_
        refine LW.value (.free rfl) rfl (fun _ r => R.assign (r.e rfl)) ?_
        refine LW.nil (EW.then (?_))
        refine CW.ret (EW.jump_ret (?_))
        refine EW.ret2 rfl rfl rfl ?_
        have he : ws ++ A7 = [] := List.eq_nil_of_length_eq_zero (by omega)
        obtain ⟨he1, he2⟩ := List.append_eq_nil_iff.1 he
        exact .inr ⟨rfl, (fun h => by
            have h2 := ((acc_iff l).1 h).2
            rw [← hcs, ← hhs, hok] at h2
            rcases h2 with h2 | ⟨y, hy, _⟩
            · obtain ⟨y, hy, _⟩ := (hE11.ok h3).1 h2
              rw [he2] at hy; cases hy
            · rw [he1] at hy; cases hy), (Own.shrink1 (hO.pick [1, 0] rfl) (fun p hp => hG8 p (hG1 p hp)) (hO13.pick [4, 2] rfl)).pick [1, 0] rfl⟩
  ·
    intro hp
    refine CW.seq ?_
    refine CW.region ?_
    refine LW.value (.free rfl) rfl (fun _ r => R.move (r.e rfl)) ?_
    refine LW.op (.free rfl) (OW.calls rfl (fun _ r => R.call (vs := [.slice a n c]) Try.call19 rfl ⟨r.e rfl, trivial⟩) (v_calls _ _ _ _ _ l hsl0 (by omega) _ (hO.frame [0] rfl)) ?_)
    rintro _ w59 ⟨v56, s57, rfl, hg58, hO60⟩
    replace hO60 := hO60.unframe2
    refine LW.value (.free rfl) rfl (fun _ r => R.move (r.e rfl)) ?_
    refine LW.value (.free rfl) rfl (fun _ r => R.extract (r.e rfl) rfl) ?_
    refine LW.value (.free rfl) rfl (fun _ r => R.extract (r.e rfl) rfl) ?_
    refine LW.value (.free rfl) rfl (fun _ r => R.assign (r.e rfl)) ?_
    refine LW.value (.free rfl) rfl (fun _ r => R.assign (r.e rfl)) ?_
    refine LW.nil (EW.then (?_))
    refine CW.seq ?_
    refine CW.seq ?_
    refine CW.region ?_
    refine LW.value (.free rfl) rfl (fun _ r => R.move (r.e rfl)) ?_
    refine LW.value (.free rfl) rfl (fun _ r => R.neq (r.e rfl) (r.e rfl)) ?_
    refine LW.nil (EW.then (?_))
    by_cases h61 : (checkL l) = 0
    · -- (checkL l) = 0
      refine CW.no (kb (bN (dT h61))) ?_
      refine CW.skip (EW.then (?_))
      refine CW.seq ?_
      rw [if_pos h61, ← hcs] at hg58
      have hcl := callsI_len l l.length
      rw [← hcs] at hcl
      obtain ⟨a62, n63, c64, ev65, hsl66⟩ := Grow.shut hg58 (fun _ _ => rfl)
      subst ev65
      obtain ⟨G67, hG68⟩ : ∃ g : Seg, g = (s57 : Seg) ++ G := ⟨_, rfl⟩
      have hO69 : Own _ [G67, F] := (hO60.pick [0, 0, 0] rfl).perm' (List.Perm.of_eq (by simp [hG68]))
      have hs70 : ∀ p ∈ G, p ∈ G67 := by rw [hG68]; intro p hp; simp [hp]
      have hC := hsl66.mono (G' := G67) (by rw [hG68]; intro p hp; simp [hp])
      have hlhC := hC.hlen
      have hsub0 := hs70
      have hsl00 := hsl0.mono hs70
      refine CW.region ?_
      refine LW.value (.free rfl) rfl (fun _ r => R.move (r.e rfl)) ?_
      refine LW.value (.free rfl) rfl (fun _ r => R.move (r.e rfl)) ?_
      refine LW.op (.free rfl) (OW.calls rfl (fun _ r => R.call (vs := [.slice a n c]) Try.call20 rfl ⟨r.e rfl, trivial⟩) (v_handles _ _ _ _ _ l hsl00 (by omega) _ (hO69.frame [0] rfl)) ?_)
      rw [← hhs]
      rintro v71 w74 ⟨s72, hg73, hO75⟩
      replace hO75 := hO75.unframe2
      obtain ⟨a76, cap77, rfl⟩ := Grow.slice hg73
      refine LW.value (.free rfl) rfl (fun _ r => R.build (v := .agg #[.slice a62 n63 c64, .slice a76 (hs).length cap77, .slice none 0 0]) (vs := [(0, .slice a62 n63 c64), (1, .slice a76 (hs).length cap77)]) ⟨⟨r.e rfl, rfl⟩, ⟨r.e rfl, rfl⟩, trivial⟩ (by simp [go_sem])) ?_
      refine LW.op (.free rfl) (OW.box (cs := #[.slice a62 n63 c64, .slice a76 (hs).length cap77, .slice none 0 0]) rfl hO75 rfl rfl ?_)
      intro b78 w79 hO80
      refine LW.value (.free rfl) rfl (fun _ r => R.assign (r.e rfl)) ?_
      refine LW.nil (EW.then (?_))
      refine CW.seq ?_
      have hsub1 := hsub0
      have hsl85 := Grow.sl hg73 (fun _ _ => rfl)
      obtain ⟨G86, hG87⟩ : ∃ g : Seg, g = (s72 : Seg) ++ G67 := ⟨_, rfl⟩
      have hO88 : Own _ [G86, [(b78, .cells #[.slice a62 n63 c64, .slice a76 (hs).length cap77, .slice none 0 0] 59 (0, 0))], F] := (hO80.pick [1, 1, 0, 0] rfl).perm' (List.Perm.of_eq (by simp [hG87]))
      have hs89 : ∀ p ∈ G67, p ∈ G86 := by rw [hG87]; intro p hp; simp [hp]
      have hH := hsl85.mono (G' := G86) (by rw [hG87]; intro p hp; simp [hp])
      have hlhH := hH.hlen
      have hsub0 := hs89
      have hsl000 := hsl00.mono hs89
      have hC0 := hC.mono hs89
      refine CW.region ?_
      refine LW.op (.free rfl) (OW.buildSlice (cs := #[.bool true]) (e := 4) (vs := [(0, .bool true)]) rfl hO88 (fun _ r => ⟨⟨r.e rfl, rfl⟩, trivial⟩) (fun _ => by simp [go_sem, Instr.buildSlice, newRow]) ?_)
      intro b90 w91 hO92
      refine LW.value (.free rfl) rfl (fun _ r => R.move (r.e rfl)) ?_
      refine LW.value (.free rfl) rfl (fun _ r => R.len_slice (r.e rfl) Try.runUnderlying53) ?_
      refine LW.op (.free rfl) (OW.calls rfl (fun _ r => R.call (vs := [.slice (some ⟨b90, 0, none⟩) 1 1, .int .i64 (n63 : Int)]) Try.call21 rfl ⟨r.e rfl, r.e rfl, trivial⟩) (v_repeat n63 b90 (by omega) _ _ (hO92.frame [0] rfl)) ?_)
      rintro v93 w96 ⟨s94, hg95, hO97⟩
      replace hO97 := hO97.unframe1
      rw [hlhC] at hg95
      obtain ⟨a98, cap99, rfl⟩ := Grow.slice hg95
      refine LW.op (.free rfl) (OW.calls rfl (fun _ r => R.call (vs := []) Try.call22 rfl trivial) (l_new _ _ (hO97.frame [] rfl)) ?_)
      rintro _ w100 ⟨pm102, s103, rfl, hM104, hO101⟩
      replace hO101 := hO101.unframe1
      refine LW.value (.free rfl) rfl (fun _ r => R.build (v := .agg #[.slice a98 ((List.replicate cs.length true)).length cap99, .pointer (some ⟨pm102, 0, none⟩), .slice none 0 0]) (vs := [(0, .slice a98 ((List.replicate cs.length true)).length cap99), (1, .pointer (some ⟨pm102, 0, none⟩))]) ⟨⟨r.e rfl, rfl⟩, ⟨r.e rfl, rfl⟩, trivial⟩ (by simp [go_sem])) ?_
      refine LW.op (.free rfl) (OW.alloc (cs := #[.slice none 0 0, .pointer none, .slice none 0 0]) rfl hO101 Try.zeroValue64 rfl ?_)
      intro b105 w106 hO107
      refine LW.op (.free rfl) (OW.storeall (i := 0) (vs := [.slice a98 ((List.replicate cs.length true)).length cap99, .pointer (some ⟨pm102, 0, none⟩), .slice none 0 0]) rfl hO107 rfl rfl rfl rfl Try.sizeOf64 rfl ?_)
      intro w108 hO109
      refine LW.nil (EW.then (?_))
      refine CW.seq ?_
      refine CW.label (EW.then ?_)
      have hsl110 := Grow.sl hg95 (fun _ _ => rfl)
      have hO111 : Own _ [[], [(b78, .cells #[.slice a62 n63 c64, .slice a76 ((hs).length) cap77, .slice none 0 0] 59 (0, 0))], [(b105, .cells #[.slice a98 ((List.replicate cs.length true)).length cap99, .pointer (some ⟨pm102, 0, none⟩), .slice none 0 0] 64 (0, 0))], (s94 ++ (s103 ++ G86)), F] := (hO109.pick [4, 0, 1, 0, 0, 0] rfl).perm' (List.Perm.of_eq (by simp))
      exact CW.sub (env' := [(6, .pointer (some ⟨b78, 0, none⟩)), (7, .pointer (some ⟨b105, 0, none⟩))]) ⟨rfl, rfl, trivial⟩ (hp ⟨b78, b105, a62, n63, c64, a76, (hs).length, cap77, (⟨a98, ((List.replicate cs.length true)).length, cap99, pm102, none, 0, 0, List.replicate cs.length true, [], [], []⟩ : St), [], [], .slice none 0 0, (s94 ++ (s103 ++ G86))⟩ _ _ ⟨rfl, hO111, by intro p hp; have := hsub0 p (hsub1 p hp); simp [this], hC.mono (by intro p hp; have := hsub0 p hp; simp [this]), hH.mono (by intro p hp; simp [hp]), Grow.start, ⟨hsl110.mono (by intro p hp; simp [hp]), MIn.own hM104 (hO109.move [1] rfl) (by intro p hp; simp [hp]), Sl.nil, rfl, fun x h => by simp at h, by simp [cntL]⟩, fun y h => by simp at h, ⟨.inl, fun h => h.elim id (fun ⟨_, h, _⟩ => by simp at h)⟩, ⟨by simp, fun p y h => by simp at h, by simp [cntL]⟩, h61⟩)
    · -- not: (checkL l) = 0
      refine CW.yes (kb (bN (dF h61))) ?_
      refine CW.seq ?_
      refine CW.region ?_
      refine LW.value (.free rfl) rfl (fun _ r => R.assign (r.e rfl)) ?_
      refine LW.value (.free rfl) rfl (fun _ r => R.assign (r.e rfl)) ?_
      refine LW.nil (EW.then (?_))
      refine CW.ret (EW.then_ret (EW.jump_ret (?_)))
      refine EW.ret2 rfl rfl rfl ?_
      exact .inr ⟨rfl, fun h => h61 h.1, hO60.pick [1, 1] rfl⟩

theorem l_order (G F : Seg) (a : Option Addr) (n c : Nat) (l : List Ev) (hs : Sl G 8 encE a n c l) (hn : l.length ≤ 100) (hbl : EvB l) (w : World) (hO : Own w [G, F]) : Calls Try.prog 10 [.slice a n c].toArray w (Ret fun v w' => (∃ (a : Option Addr) (n c : Nat) (told : List Ev) (G' : Seg), v = .tuple #[.slice a n c, .bool true] ∧ (∀ p ∈ G, p ∈ G') ∧ Sl G' 8 encE a n c told ∧ HoldsP l told ∧ AccP l ∧ EvB told ∧ told.length ≤ 100 ∧ Own w' [G', F]) ∨ (v = .tuple #[.slice none 0 0, .bool false] ∧ ¬ AccP l ∧ Own w' [G, F])) := l_order0 G F a n c l hs hn hbl _ rfl _ rfl w hO
set_option maxRecDepth 100000 in
set_option maxHeartbeats 400000 in
theorem l_accepts (G F : Seg) (a : Option Addr) (n c : Nat) (l : List Ev) (hs : Sl G 8 encE a n c l) (hn : l.length ≤ 100) (hbl : EvB l) (w : World) (hO : Own w [G, F]) : Calls Try.prog 11 [.slice a n c].toArray w (Ret fun v w' => v = .bool (decide (AccP l)) ∧ Own w' [G, F]) := by
  refine enter (n := 11) Try.func11 rfl rfl rfl ?_
  refine CW.seq ?_
  refine CW.region ?_
  refine LW.value (.free rfl) rfl (fun _ r => R.assign (r.e rfl)) ?_
  refine LW.nil (EW.then (?_))
  refine CW.seq ?_
  refine CW.region ?_
  refine LW.value (.free rfl) rfl (fun _ r => R.move (r.e rfl)) ?_
  refine LW.op (.free rfl) (OW.calls rfl (fun _ r => R.call (vs := [.slice a n c]) Try.call10 rfl ⟨r.e rfl, trivial⟩) (l_order _ _ _ _ _ l hs hn hbl _ (hO.frame [0] rfl)) ?_)
  rintro _ w1 (⟨a2, n3, c4, told5, G6, rfl, hs7, hsl8, hh9, ha10, hb11, hl12, hO13⟩ | ⟨rfl, hna14, hO15⟩)
  ·
    replace hO13 := hO13.unframe1
    refine LW.value (.free rfl) rfl (fun _ r => R.move (r.e rfl)) ?_
    refine LW.value (.free rfl) rfl (fun _ r => R.extract (r.e rfl) rfl) ?_
    refine LW.value (.free rfl) rfl (fun _ r => R.extract (r.e rfl) rfl) ?_
    refine LW.value (.free rfl) rfl (fun _ r => R.assign (r.e rfl)) ?_
    refine LW.value (.free rfl) rfl (fun _ r => R.assign (r.e rfl)) ?_
    refine LW.nil (EW.then (?_))
    refine CW.seq ?_
    refine CW.region ?_
    refine LW.value (.free rfl) rfl (fun _ r => R.move (r.e rfl)) ?_
    refine LW.value (.free rfl) rfl (fun _ r => R.assign (r.e rfl)) ?_
    refine LW.nil (EW.then (?_))
    refine CW.ret ?_
    refine EW.ret1 rfl rfl ?_
    exact ⟨congrArg Value.bool (decide_eq_true ha10).symm, (Own.shrink1 (hO.pick [1, 0] rfl) hs7 (hO13.pick [1, 0] rfl)).pick [1, 0] rfl⟩
  ·
    replace hO15 := hO15.unframe1
    refine LW.value (.free rfl) rfl (fun _ r => R.move (r.e rfl)) ?_
    refine LW.value (.free rfl) rfl (fun _ r => R.extract (r.e rfl) rfl) ?_
    refine LW.value (.free rfl) rfl (fun _ r => R.extract (r.e rfl) rfl) ?_
    refine LW.value (.free rfl) rfl (fun _ r => R.assign (r.e rfl)) ?_
    refine LW.value (.free rfl) rfl (fun _ r => R.assign (r.e rfl)) ?_
    refine LW.nil (EW.then (?_))
    refine CW.seq ?_
    refine CW.region ?_
    refine LW.value (.free rfl) rfl (fun _ r => R.move (r.e rfl)) ?_
    refine LW.value (.free rfl) rfl (fun _ r => R.assign (r.e rfl)) ?_
    refine LW.nil (EW.then (?_))
    refine CW.ret ?_
    refine EW.ret1 rfl rfl ?_
    exact ⟨congrArg Value.bool (decide_eq_false hna14).symm, hO15.pick [0, 0] rfl⟩

end Go.Sd
