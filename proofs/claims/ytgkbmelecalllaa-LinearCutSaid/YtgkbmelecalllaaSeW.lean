/-
  The laws of layer 9: the example, LinearAccepts, LinearHolds, walked.
-/
import Derived.Test.YtgkbmelecalllaaSeV
import Derived.Test.YtgkbmelecalllaaSf9
set_option linter.unusedSimpArgs false
set_option linter.unusedVariables false
set_option linter.unusedSectionVars false
namespace Go.Sd
open Go Go.Proofs
variable [Str]
theorem la_yes {G F : Seg} {a : Option Addr} {n c : Nat} {l : List Ev} (hs : Sl G 8 encE a n c l) (hn : l.length ≤ 100) (hbl : EvB l) (h : AccP l) {w : World} (hO : Own w [G, F]) : Calls Try.prog 11 [.slice a n c].toArray w (Ret fun v w' => v = .bool true ∧ Own w' [G, F]) :=
  Ret.mono (l_accepts _ _ _ _ _ l hs hn hbl w hO) fun v w' h2 => by rw [decide_eq_true h] at h2; exact h2
theorem la_no {G F : Seg} {a : Option Addr} {n c : Nat} {l : List Ev} (hs : Sl G 8 encE a n c l) (hn : l.length ≤ 100) (hbl : EvB l) (h : ¬ AccP l) {w : World} (hO : Own w [G, F]) : Calls Try.prog 11 [.slice a n c].toArray w (Ret fun v w' => v = .bool false ∧ Own w' [G, F]) :=
  Ret.mono (l_accepts _ _ _ _ _ l hs hn hbl w hO) fun v w' h2 => by rw [decide_eq_false h] at h2; exact h2
theorem ra_yes {G F : Seg} {a : Option Addr} {n c : Nat} {l : List Ev} (hs : Sl G 8 encE a n c l) (hn : l.length ≤ 1000) (h : AccP l) {w : World} (hO : Own w [G, F]) : Calls Try.prog 9 [.slice a n c].toArray w (Ret fun v w' => v = .bool true ∧ Own w' [G, F]) :=
  Ret.mono (r_accepts _ _ _ _ _ l hs hn w hO) fun v w' h2 => by rw [decide_eq_true h] at h2; exact h2
theorem ra_no {G F : Seg} {a : Option Addr} {n c : Nat} {l : List Ev} (hs : Sl G 8 encE a n c l) (hn : l.length ≤ 1000) (h : ¬ AccP l) {w : World} (hO : Own w [G, F]) : Calls Try.prog 9 [.slice a n c].toArray w (Ret fun v w' => v = .bool false ∧ Own w' [G, F]) :=
  Ret.mono (r_accepts _ _ _ _ _ l hs hn w hO) fun v w' h2 => by rw [decide_eq_false h] at h2; exact h2
theorem lh_yes {G F : Seg} {a : Option Addr} {n c : Nat} {l : List Ev} (hs : Sl G 8 encE a n c l) (hn : l.length ≤ 1000) {a2 : Option Addr} {n2 c2 : Nat} {order : List Ev} (hs2 : Sl G 8 encE a2 n2 c2 order) (hn2 : order.length ≤ 1000) (hbo : EvB order) (h : HoldsP l order) {w : World} (hO : Own w [G, F]) : Calls Try.prog 13 [.slice a n c, .slice a2 n2 c2].toArray w (Ret fun v w' => v = .bool true ∧ Own w' [G, F]) :=
  Ret.mono (l_holds _ _ _ _ _ l hs hn _ _ _ order hs2 hn2 hbo w hO) fun v w' h2 => by rw [decide_eq_true h] at h2; exact h2
theorem lh_no {G F : Seg} {a : Option Addr} {n c : Nat} {l : List Ev} (hs : Sl G 8 encE a n c l) (hn : l.length ≤ 1000) {a2 : Option Addr} {n2 c2 : Nat} {order : List Ev} (hs2 : Sl G 8 encE a2 n2 c2 order) (hn2 : order.length ≤ 1000) (hbo : EvB order) (h : ¬ HoldsP l order) {w : World} (hO : Own w [G, F]) : Calls Try.prog 13 [.slice a n c, .slice a2 n2 c2].toArray w (Ret fun v w' => v = .bool false ∧ Own w' [G, F]) :=
  Ret.mono (l_holds _ _ _ _ _ l hs hn _ _ _ order hs2 hn2 hbo w hO) fun v w' h2 => by rw [decide_eq_false h] at h2; exact h2
theorem rh_yes {G F : Seg} {a : Option Addr} {n c : Nat} {l : List Ev} (hs : Sl G 8 encE a n c l) (hn : l.length ≤ 1000) {a2 : Option Addr} {n2 c2 : Nat} {order : List Ev} (hs2 : Sl G 8 encE a2 n2 c2 order) (hn2 : order.length ≤ 1000) (h : HoldsP l order) {w : World} (hO : Own w [G, F]) : Calls Try.prog 12 [.slice a n c, .slice a2 n2 c2].toArray w (Ret fun v w' => v = .bool true ∧ Own w' [G, F]) :=
  Ret.mono (r_holds _ _ _ _ _ l hs hn _ _ _ order hs2 hn2 w hO) fun v w' h2 => by rw [decide_eq_true h] at h2; exact h2
theorem rh_no {G F : Seg} {a : Option Addr} {n c : Nat} {l : List Ev} (hs : Sl G 8 encE a n c l) (hn : l.length ≤ 1000) {a2 : Option Addr} {n2 c2 : Nat} {order : List Ev} (hs2 : Sl G 8 encE a2 n2 c2 order) (hn2 : order.length ≤ 1000) (h : ¬ HoldsP l order) {w : World} (hO : Own w [G, F]) : Calls Try.prog 12 [.slice a n c, .slice a2 n2 c2].toArray w (Ret fun v w' => v = .bool false ∧ Own w' [G, F]) :=
  Ret.mono (r_holds _ _ _ _ _ l hs hn _ _ _ order hs2 hn2 w hO) fun v w' h2 => by rw [decide_eq_false h] at h2; exact h2
theorem ord_yes {G F : Seg} {a : Option Addr} {n c : Nat} {l : List Ev} (hs : Sl G 8 encE a n c l) (hn : l.length ≤ 100) (hbl : EvB l) (h : AccP l) {w : World} (hO : Own w [G, F]) : Calls Try.prog 10 [.slice a n c].toArray w (Ret fun v w' => ∃ (a : Option Addr) (n c : Nat) (told : List Ev) (G' : Seg), v = .tuple #[.slice a n c, .bool true] ∧ (∀ p ∈ G, p ∈ G') ∧ Sl G' 8 encE a n c told ∧ HoldsP l told ∧ EvB told ∧ told.length ≤ 100 ∧ Own w' [G', F]) :=
  Ret.mono (l_order _ _ _ _ _ l hs hn hbl w hO) fun v w' h2 => by
    rcases h2 with ⟨a, n, c, told, G', h1, h2, h3, h4, _, h5, h6, h7⟩ | ⟨_, h2, _⟩
    · exact ⟨a, n, c, told, G', h1, h2, h3, h4, h5, h6, h7⟩
    · exact absurd h h2
theorem ord_no {G F : Seg} {a : Option Addr} {n c : Nat} {l : List Ev} (hs : Sl G 8 encE a n c l) (hn : l.length ≤ 100) (hbl : EvB l) (h : ¬ AccP l) {w : World} (hO : Own w [G, F]) : Calls Try.prog 10 [.slice a n c].toArray w (Ret fun v w' => v = .tuple #[.slice none 0 0, .bool false] ∧ Own w' [G, F]) :=
  Ret.mono (l_order _ _ _ _ _ l hs hn hbl w hO) fun v w' h2 => by
    rcases h2 with ⟨a, n, c, told, G', h1, h2, h3, h4, h5, _⟩ | ⟨h1, _, h2⟩
    · exact absurd h5 h
    · exact ⟨h1, h2⟩
theorem o_make (F : Seg) (w : World) (hO : Own w [F]) : Calls Try.prog 15 [.int .i64 0, .int .i64 0].toArray w (Ret fun v w' => v = .tuple #[.int .i64 1099511627776, .int .i64 0] ∧ Own w' [F]) :=
  Ret.mono (k_make 0 0 F w hO) fun v w' h => by rw [show makeH 0 0 = (1099511627776, 0) from by decide] at h; exact h
theorem sl_lit {b T n : Nat} {cells : List Value} {l : List Ev} (hc : cells = l.flatMap encE) (hn : l.length = n) (hq : (l.flatMap encE).length = n * 8) : Sl [(b, .cells cells.toArray T (0, 0))] 8 encE (some ⟨b, 0, none⟩) n n l :=
  Grow.sl (E := T) (.inr ⟨b, n, [], by rw [hn], by simp [hc], by simpa using hq, by omega⟩) (fun _ _ => rfl)
theorem Sl.takeN {α : Type} {G : Seg} {sz : Nat} {enc : α → List Value} {a : Option Addr} {n c k : Nat} {xs : List α} (h : Sl G sz enc a n c xs) (hk : k ≤ n) : Sl G sz enc a k c (xs.take k) :=
  ⟨by rw [List.length_take, ← h.hlen]; omega, Nat.le_trans hk h.hle, fun i x hx => h.at_ i x (by rw [List.getElem?_take] at hx; split at hx; exact hx; cases hx)⟩
theorem acc_of {l : List Ev} (h : HoldsP l []) : AccP l := by
  obtain ⟨h1, st, h2, h3⟩ := h
  refine ⟨h1, .done ?_⟩
  simp only [List.length_nil, holdI, Option.some.injEq] at h2
  subst h2
  exact h3
set_option maxRecDepth 100000 in
set_option maxHeartbeats 4000000 in
theorem x_live (F : Seg) (w : World) (hO : Own w [F]) : Calls Try.prog 8 [].toArray w (Ret fun v w' => v = .bool true ∧ Own w' [F]) := by
  refine enter (n := 97) Try.func8 rfl rfl rfl ?_
  refine CW.seq ?_
  refine CW.region ?_
  refine LW.value (.free rfl) rfl (fun _ r => R.assign (r.e rfl)) ?_
  refine LW.nil (EW.then (?_))
  refine CW.seq ?_
  refine CW.region ?_
  refine LW.op (.free rfl) (OW.calls rfl (fun _ r => R.call (vs := [.int .i64 0, .int .i64 0]) Try.call15 rfl ⟨r.e rfl, r.e rfl, trivial⟩) (o_make _ _ (hO.frame [] rfl)) ?_)
  rintro _ w1 ⟨rfl, hO2⟩
  replace hO2 := hO2.unframe0
  refine LW.value (.free rfl) rfl (fun _ r => R.move (r.e rfl)) ?_
  refine LW.value (.free rfl) rfl (fun _ r => R.extract (r.e rfl) rfl) ?_
  refine LW.value (.free rfl) rfl (fun _ r => R.extract (r.e rfl) rfl) ?_
  refine LW.value (.free rfl) rfl (fun _ r => R.assign (r.e rfl)) ?_
  refine LW.value (.free rfl) rfl (fun _ r => R.assign (r.e rfl)) ?_
  refine LW.nil (EW.then (?_))
  refine CW.seq ?_
  refine CW.region ?_
  refine LW.value (.free rfl) rfl (fun _ r => R.build (v := .agg #[.int .i64 0, .int .i64 0, .int .i64 0, .int .i64 4]) (vs := [(3, .int .i64 4)]) ⟨⟨r.e rfl, rfl⟩, trivial⟩ (by simp [go_sem])) ?_
  refine LW.value (.free rfl) rfl (fun _ r => R.build (v := .agg #[.int .i64 0, .bool false, .int .i64 0, .int .i64 0, .int .i64 0, .int .i64 4, .int .i64 0, .int .i64 0]) (vs := [(2, .agg #[.int .i64 0, .int .i64 0, .int .i64 0, .int .i64 4])]) ⟨⟨r.e rfl, rfl⟩, trivial⟩ (by simp [go_sem])) ?_
  refine LW.value (.free rfl) rfl (fun _ r => R.move (r.e rfl)) ?_
  refine LW.value (.free rfl) rfl (fun _ r => R.build (v := .agg #[.int .i64 0, .int .i64 1099511627776]) (vs := [(1, .int .i64 1099511627776)]) ⟨⟨r.e rfl, rfl⟩, trivial⟩ (by simp [go_sem])) ?_
  refine LW.value (.free rfl) rfl (fun _ r => R.build (v := .agg #[.int .i64 0, .bool true, .int .i64 0, .int .i64 0, .int .i64 0, .int .i64 0, .int .i64 0, .int .i64 1099511627776]) (vs := [(1, .bool true), (3, .agg #[.int .i64 0, .int .i64 1099511627776])]) ⟨⟨r.e rfl, rfl⟩, ⟨r.e rfl, rfl⟩, trivial⟩ (by simp [go_sem])) ?_
  refine LW.value (.free rfl) rfl (fun _ r => R.move (r.e rfl)) ?_
  refine LW.value (.free rfl) rfl (fun _ r => R.build (v := .agg #[.int .i64 3, .int .i64 1099511627776, .int .i64 0, .int .i64 1]) (vs := [(0, .int .i64 3), (1, .int .i64 1099511627776), (3, .int .i64 1)]) ⟨⟨r.e rfl, rfl⟩, ⟨r.e rfl, rfl⟩, ⟨r.e rfl, rfl⟩, trivial⟩ (by simp [go_sem])) ?_
  refine LW.value (.free rfl) rfl (fun _ r => R.build (v := .agg #[.int .i64 0, .bool false, .int .i64 3, .int .i64 1099511627776, .int .i64 0, .int .i64 1, .int .i64 0, .int .i64 0]) (vs := [(2, .agg #[.int .i64 3, .int .i64 1099511627776, .int .i64 0, .int .i64 1])]) ⟨⟨r.e rfl, rfl⟩, trivial⟩ (by simp [go_sem])) ?_
  refine LW.value (.free rfl) rfl (fun _ r => R.move (r.e rfl)) ?_
  refine LW.value (.free rfl) rfl (fun _ r => R.build (v := .agg #[.int .i64 2, .int .i64 1099511627776, .int .i64 0, .int .i64 0]) (vs := [(0, .int .i64 2), (1, .int .i64 1099511627776)]) ⟨⟨r.e rfl, rfl⟩, ⟨r.e rfl, rfl⟩, trivial⟩ (by simp [go_sem])) ?_
  refine LW.value (.free rfl) rfl (fun _ r => R.build (v := .agg #[.int .i64 1, .bool false, .int .i64 2, .int .i64 1099511627776, .int .i64 0, .int .i64 0, .int .i64 0, .int .i64 0]) (vs := [(0, .int .i64 1), (2, .agg #[.int .i64 2, .int .i64 1099511627776, .int .i64 0, .int .i64 0])]) ⟨⟨r.e rfl, rfl⟩, ⟨r.e rfl, rfl⟩, trivial⟩ (by simp [go_sem])) ?_
  refine LW.value (.free rfl) rfl (fun _ r => R.build (v := .agg #[.int .i64 0, .int .i64 1]) (vs := [(1, .int .i64 1)]) ⟨⟨r.e rfl, rfl⟩, trivial⟩ (by simp [go_sem])) ?_
  refine LW.value (.free rfl) rfl (fun _ r => R.build (v := .agg #[.int .i64 1, .bool true, .int .i64 0, .int .i64 0, .int .i64 0, .int .i64 0, .int .i64 0, .int .i64 1]) (vs := [(0, .int .i64 1), (1, .bool true), (3, .agg #[.int .i64 0, .int .i64 1])]) ⟨⟨r.e rfl, rfl⟩, ⟨r.e rfl, rfl⟩, ⟨r.e rfl, rfl⟩, trivial⟩ (by simp [go_sem])) ?_
  refine LW.op (.free rfl) (OW.buildSlice (cs := #[.int .i64 0, .bool false, .int .i64 0, .int .i64 0, .int .i64 0, .int .i64 4, .int .i64 0, .int .i64 0, .int .i64 0, .bool true, .int .i64 0, .int .i64 0, .int .i64 0, .int .i64 0, .int .i64 0, .int .i64 1099511627776, .int .i64 0, .bool false, .int .i64 3, .int .i64 1099511627776, .int .i64 0, .int .i64 1, .int .i64 0, .int .i64 0, .int .i64 1, .bool false, .int .i64 2, .int .i64 1099511627776, .int .i64 0, .int .i64 0, .int .i64 0, .int .i64 0, .int .i64 1, .bool true, .int .i64 0, .int .i64 0, .int .i64 0, .int .i64 0, .int .i64 0, .int .i64 1]) (e := 41) (vs := [(0, .agg #[.int .i64 0, .bool false, .int .i64 0, .int .i64 0, .int .i64 0, .int .i64 4, .int .i64 0, .int .i64 0]), (1, .agg #[.int .i64 0, .bool true, .int .i64 0, .int .i64 0, .int .i64 0, .int .i64 0, .int .i64 0, .int .i64 1099511627776]), (2, .agg #[.int .i64 0, .bool false, .int .i64 3, .int .i64 1099511627776, .int .i64 0, .int .i64 1, .int .i64 0, .int .i64 0]), (3, .agg #[.int .i64 1, .bool false, .int .i64 2, .int .i64 1099511627776, .int .i64 0, .int .i64 0, .int .i64 0, .int .i64 0]), (4, .agg #[.int .i64 1, .bool true, .int .i64 0, .int .i64 0, .int .i64 0, .int .i64 0, .int .i64 0, .int .i64 1])]) rfl hO2 (fun _ r => ⟨⟨r.e rfl, rfl⟩, ⟨r.e rfl, rfl⟩, ⟨r.e rfl, rfl⟩, ⟨r.e rfl, rfl⟩, ⟨r.e rfl, rfl⟩, trivial⟩) (fun _ => by simp [go_sem, Instr.buildSlice, newRow]) ?_)
  intro b3 w4 hO5
  refine LW.value (.free rfl) rfl (fun _ r => R.assign (r.e rfl)) ?_
  refine LW.nil (EW.then (?_))
  refine CW.seq ?_
  refine HP.start (I := fun w' => Own w' [[(b3, .cells #[.int .i64 0, .bool false, .int .i64 0, .int .i64 0, .int .i64 0, .int .i64 4, .int .i64 0, .int .i64 0, .int .i64 0, .bool true, .int .i64 0, .int .i64 0, .int .i64 0, .int .i64 0, .int .i64 0, .int .i64 1099511627776, .int .i64 0, .bool false, .int .i64 3, .int .i64 1099511627776, .int .i64 0, .int .i64 1, .int .i64 0, .int .i64 0, .int .i64 1, .bool false, .int .i64 2, .int .i64 1099511627776, .int .i64 0, .int .i64 0, .int .i64 0, .int .i64 0, .int .i64 1, .bool true, .int .i64 0, .int .i64 0, .int .i64 0, .int .i64 0, .int .i64 0, .int .i64 1] 41 (0, 0))], F]) (.take 0 (.take 1 (.take 2 (.take 3 (.take 4 (.take 5 (.take 6 (.take 7 (.take 8 (.take 9 (.take 10 (.take 11 (.take 12 (.take 13 (.one 14 (.take 15 (.done))))))))))))))))) Try.mixed (by intro c d v a w h; cases d <;> exact h) hO5 (by kernel_rfl) ?_
  intro w6 hO7
  have hI8 := hO7.pick [0, 0] rfl
  refine HP.take rfl (.free rfl) rfl hI8 (fun _ r _ hI => R.move (r.e rfl)) ?_
  refine HP.take rfl (.free rfl) rfl hI8 (fun _ r _ hI => R.indexAddr (k := 0) (r.e rfl) (r.e rfl) Try.runUnderlying22 Try.sizeOf41 (by omega) (by omega) rfl) ?_
  refine HP.take rfl (.free rfl) rfl hI8 (fun _ r _ hI => R.loadn (vs := [.int .i64 0, .bool false, .int .i64 0, .int .i64 0, .int .i64 0, .int .i64 4, .int .i64 0, .int .i64 0]) (r.e rfl) Try.isAgg41 Try.sizeOf41 rfl (hI.cells (i := 0) rfl rfl)) ?_
  refine HP.take rfl (.free rfl) rfl hI8 (fun _ r _ hI => R.move (r.e rfl)) ?_
  refine HP.take rfl (.free rfl) rfl hI8 (fun _ r _ hI => R.indexAddr (k := 8) (r.e rfl) (r.e rfl) Try.runUnderlying22 Try.sizeOf41 (by omega) (by omega) rfl) ?_
  refine HP.take rfl (.free rfl) rfl hI8 (fun _ r _ hI => R.loadn (vs := [.int .i64 0, .bool true, .int .i64 0, .int .i64 0, .int .i64 0, .int .i64 0, .int .i64 0, .int .i64 1099511627776]) (r.e rfl) Try.isAgg41 Try.sizeOf41 rfl (hI.cells (i := 0) rfl rfl)) ?_
  refine HP.take rfl (.free rfl) rfl hI8 (fun _ r _ hI => R.move (r.e rfl)) ?_
  refine HP.take rfl (.free rfl) rfl hI8 (fun _ r _ hI => R.indexAddr (k := 16) (r.e rfl) (r.e rfl) Try.runUnderlying22 Try.sizeOf41 (by omega) (by omega) rfl) ?_
  refine HP.take rfl (.free rfl) rfl hI8 (fun _ r _ hI => R.loadn (vs := [.int .i64 0, .bool false, .int .i64 3, .int .i64 1099511627776, .int .i64 0, .int .i64 1, .int .i64 0, .int .i64 0]) (r.e rfl) Try.isAgg41 Try.sizeOf41 rfl (hI.cells (i := 0) rfl rfl)) ?_
  refine HP.take rfl (.free rfl) rfl hI8 (fun _ r _ hI => R.build (v := .agg #[.int .i64 0, .bool true, .int .i64 0, .int .i64 0, .int .i64 0, .int .i64 0, .int .i64 0, .int .i64 0]) (vs := [(1, .bool true)]) ⟨⟨r.e rfl, rfl⟩, trivial⟩ (by simp [go_sem])) ?_
  refine HP.take rfl (.free rfl) rfl hI8 (fun _ r _ hI => R.move (r.e rfl)) ?_
  refine HP.take rfl (.free rfl) rfl hI8 (fun _ r _ hI => R.indexAddr (k := 24) (r.e rfl) (r.e rfl) Try.runUnderlying22 Try.sizeOf41 (by omega) (by omega) rfl) ?_
  refine HP.take rfl (.free rfl) rfl hI8 (fun _ r _ hI => R.loadn (vs := [.int .i64 1, .bool false, .int .i64 2, .int .i64 1099511627776, .int .i64 0, .int .i64 0, .int .i64 0, .int .i64 0]) (r.e rfl) Try.isAgg41 Try.sizeOf41 rfl (hI.cells (i := 0) rfl rfl)) ?_
  refine HP.take rfl (.free rfl) rfl hI8 (fun _ r _ hI => R.build (v := .agg #[.int .i64 1, .bool true, .int .i64 0, .int .i64 0, .int .i64 0, .int .i64 0, .int .i64 0, .int .i64 0]) (vs := [(0, .int .i64 1), (1, .bool true)]) ⟨⟨r.e rfl, rfl⟩, ⟨r.e rfl, rfl⟩, trivial⟩ (by simp [go_sem])) ?_
  refine HP.one rfl (.free rfl) (OW.buildSlice (cs := #[.int .i64 0, .bool false, .int .i64 0, .int .i64 0, .int .i64 0, .int .i64 4, .int .i64 0, .int .i64 0, .int .i64 0, .bool true, .int .i64 0, .int .i64 0, .int .i64 0, .int .i64 0, .int .i64 0, .int .i64 1099511627776, .int .i64 0, .bool false, .int .i64 3, .int .i64 1099511627776, .int .i64 0, .int .i64 1, .int .i64 0, .int .i64 0, .int .i64 0, .bool true, .int .i64 0, .int .i64 0, .int .i64 0, .int .i64 0, .int .i64 0, .int .i64 0, .int .i64 1, .bool false, .int .i64 2, .int .i64 1099511627776, .int .i64 0, .int .i64 0, .int .i64 0, .int .i64 0, .int .i64 1, .bool true, .int .i64 0, .int .i64 0, .int .i64 0, .int .i64 0, .int .i64 0, .int .i64 0]) (e := 41) (vs := [(0, .agg #[.int .i64 0, .bool false, .int .i64 0, .int .i64 0, .int .i64 0, .int .i64 4, .int .i64 0, .int .i64 0]), (1, .agg #[.int .i64 0, .bool true, .int .i64 0, .int .i64 0, .int .i64 0, .int .i64 0, .int .i64 0, .int .i64 1099511627776]), (2, .agg #[.int .i64 0, .bool false, .int .i64 3, .int .i64 1099511627776, .int .i64 0, .int .i64 1, .int .i64 0, .int .i64 0]), (3, .agg #[.int .i64 0, .bool true, .int .i64 0, .int .i64 0, .int .i64 0, .int .i64 0, .int .i64 0, .int .i64 0]), (4, .agg #[.int .i64 1, .bool false, .int .i64 2, .int .i64 1099511627776, .int .i64 0, .int .i64 0, .int .i64 0, .int .i64 0]), (5, .agg #[.int .i64 1, .bool true, .int .i64 0, .int .i64 0, .int .i64 0, .int .i64 0, .int .i64 0, .int .i64 0])]) rfl hO7 (fun _ r => ⟨⟨r.e rfl, rfl⟩, ⟨r.e rfl, rfl⟩, ⟨r.e rfl, rfl⟩, ⟨r.e rfl, rfl⟩, ⟨r.e rfl, rfl⟩, ⟨r.e rfl, rfl⟩, trivial⟩) (fun _ => by simp [go_sem, Instr.buildSlice, newRow]) ?_)
  intro b9 w10 hO11
  have hI12 := hO11.pick [1, 1] rfl
  refine ⟨hI12, ?_⟩
  refine HP.take rfl (.free rfl) rfl hI12 (fun _ r _ hI => R.assign (r.e rfl)) ?_
  refine HP.done (EW.then (?_))
  refine CW.seq ?_
  obtain ⟨G, hG⟩ : ∃ g : Seg, g = [(b3, .cells #[.int .i64 0, .bool false, .int .i64 0, .int .i64 0, .int .i64 0, .int .i64 4, .int .i64 0, .int .i64 0, .int .i64 0, .bool true, .int .i64 0, .int .i64 0, .int .i64 0, .int .i64 0, .int .i64 0, .int .i64 1099511627776, .int .i64 0, .bool false, .int .i64 3, .int .i64 1099511627776, .int .i64 0, .int .i64 1, .int .i64 0, .int .i64 0, .int .i64 1, .bool false, .int .i64 2, .int .i64 1099511627776, .int .i64 0, .int .i64 0, .int .i64 0, .int .i64 0, .int .i64 1, .bool true, .int .i64 0, .int .i64 0, .int .i64 0, .int .i64 0, .int .i64 0, .int .i64 1] 41 (0, 0))] ++ [(b9, .cells #[.int .i64 0, .bool false, .int .i64 0, .int .i64 0, .int .i64 0, .int .i64 4, .int .i64 0, .int .i64 0, .int .i64 0, .bool true, .int .i64 0, .int .i64 0, .int .i64 0, .int .i64 0, .int .i64 0, .int .i64 1099511627776, .int .i64 0, .bool false, .int .i64 3, .int .i64 1099511627776, .int .i64 0, .int .i64 1, .int .i64 0, .int .i64 0, .int .i64 0, .bool true, .int .i64 0, .int .i64 0, .int .i64 0, .int .i64 0, .int .i64 0, .int .i64 0, .int .i64 1, .bool false, .int .i64 2, .int .i64 1099511627776, .int .i64 0, .int .i64 0, .int .i64 0, .int .i64 0, .int .i64 1, .bool true, .int .i64 0, .int .i64 0, .int .i64 0, .int .i64 0, .int .i64 0, .int .i64 0] 41 (0, 0))] := ⟨_, rfl⟩
  have hL : Sl G 8 encE (some ⟨b3, 0, none⟩) 5 5 litL := by rw [hG]; exact (sl_lit (l := litL) rfl rfl rfl).mono (fun p hp => List.mem_append_left _ hp)
  have hK : Sl G 8 encE (some ⟨b9, 0, none⟩) 6 6 litK := by rw [hG]; exact (sl_lit (l := litK) rfl rfl rfl).mono (fun p hp => List.mem_append_right _ hp)
  have hO13 : Own w10 [G, F] := by rw [hG]; exact (hO11.move [1, 0] rfl).join
  clear hG
  refine CW.region ?_
  refine LW.value (.free rfl) rfl (fun _ r => R.move (r.e rfl)) ?_
  refine LW.op (.free rfl) (OW.calls rfl (fun _ r => R.call (vs := [.slice (some ⟨b3, 0, none⟩) 5 5]) Try.call10 rfl ⟨r.e rfl, trivial⟩) (ord_yes hL (by decide) evB_L acc_L (hO13.frame [0] rfl)) ?_)
  rintro _ w14 ⟨aT, nT, cT, told, G1, rfl, hG1, hT, hHo, hbT, hlT, hO15⟩
  replace hO15 := hO15.unframe1
  have hnT := hT.hlen
  have hcT := hT.hle
  have hl3 := holds_len hHo
  refine LW.value (.free rfl) rfl (fun _ r => R.move (r.e rfl)) ?_
  refine LW.value (.free rfl) rfl (fun _ r => R.extract (r.e rfl) rfl) ?_
  refine LW.value (.free rfl) rfl (fun _ r => R.extract (r.e rfl) rfl) ?_
  refine LW.value (.free rfl) rfl (fun _ r => R.assign (r.e rfl)) ?_
  refine LW.value (.free rfl) rfl (fun _ r => R.assign (r.e rfl)) ?_
  refine LW.nil (EW.then (?_))
  refine CW.seq ?_
  refine CW.region ?_
  refine LW.value (.free rfl) rfl (fun _ r => R.move (r.e rfl)) ?_
  refine LW.op (.free rfl) (OW.calls rfl (fun _ r => R.call (vs := [.slice (some ⟨b9, 0, none⟩) 6 6]) Try.call10 rfl ⟨r.e rfl, trivial⟩) (ord_no (hK.mono hG1) (by decide) evB_K acc_K (hO15.frame [0] rfl)) ?_)
  rintro _ w16 ⟨rfl, hO17⟩
  replace hO17 := hO17.unframe1
  refine LW.value (.free rfl) rfl (fun _ r => R.move (r.e rfl)) ?_
  refine LW.value (.free rfl) rfl (fun _ r => R.extract (r.e rfl) rfl) ?_
  refine LW.value (.free rfl) rfl (fun _ r => R.extract (r.e rfl) rfl) ?_
  refine LW.value (.free rfl) rfl (fun _ r => R.assign (r.e rfl)) ?_
  refine LW.value (.free rfl) rfl (fun _ r => R.assign (r.e rfl)) ?_
  refine LW.nil (EW.then (?_))
  refine CW.seq ?_
  refine CW.region ?_
  refine LW.value (.free rfl) rfl (fun _ r => R.move (r.e rfl)) ?_
  refine LW.op (.free rfl) (OW.calls rfl (fun _ r => R.call (vs := [.slice (some ⟨b3, 0, none⟩) 5 5]) Try.call11 rfl ⟨r.e rfl, trivial⟩) (la_yes (hL.mono hG1) (by decide) evB_L acc_L (hO17.frame [0] rfl)) ?_)
  rintro _ w18 ⟨rfl, hO19⟩
  replace hO19 := hO19.unframe1
  refine LW.value (.free rfl) rfl (fun _ r => R.move (r.e rfl)) ?_
  refine LW.value (.yes rfl rfl rfl) rfl (fun _ r => R.move (r.e rfl)) ?_
  refine LW.op (.yes rfl rfl rfl) (OW.calls rfl (fun _ r => R.call (vs := [.slice (some ⟨b9, 0, none⟩) 6 6]) Try.call11 rfl ⟨r.e rfl, trivial⟩) (la_no (hK.mono hG1) (by decide) evB_K acc_K (hO19.frame [0] rfl)) ?_)
  rintro _ w20 ⟨rfl, hO21⟩
  replace hO21 := hO21.unframe1
  refine LW.value (.yes rfl rfl rfl) rfl (fun _ r => R.not (r.e rfl)) ?_
  refine LW.value (.free rfl) rfl (fun _ r => R.pick_yes (r.e rfl) (r.e rfl)) ?_
  refine LW.value (.free rfl) rfl (fun _ r => R.move (r.e rfl)) ?_
  refine LW.value (.yes rfl rfl rfl) rfl (fun _ r => R.move (r.e rfl)) ?_
  refine LW.value (.free rfl) rfl (fun _ r => R.pick_yes (r.e rfl) (r.e rfl)) ?_
  refine LW.value (.free rfl) rfl (fun _ r => R.move (r.e rfl)) ?_
  refine LW.value (.yes rfl rfl rfl) rfl (fun _ r => R.move (r.e rfl)) ?_
  refine LW.value (.yes rfl rfl rfl) rfl (fun _ r => R.move (r.e rfl)) ?_
  refine LW.op (.yes rfl rfl rfl) (OW.calls rfl (fun _ r => R.call (vs := [.slice (some ⟨b3, 0, none⟩) 5 5, .slice aT nT cT]) Try.call13 rfl ⟨r.e rfl, r.e rfl, trivial⟩) (lh_yes (hL.mono hG1) (by decide) hT (by omega) hbT hHo (hO21.frame [0] rfl)) ?_)
  rintro _ w22 ⟨rfl, hO23⟩
  replace hO23 := hO23.unframe1
  refine LW.value (.free rfl) rfl (fun _ r => R.pick_yes (r.e rfl) (r.e rfl)) ?_
  refine LW.value (.free rfl) rfl (fun _ r => R.move (r.e rfl)) ?_
  refine LW.value (.yes rfl rfl rfl) rfl (fun _ r => R.move (r.e rfl)) ?_
  refine LW.value (.yes rfl rfl rfl) rfl (fun _ r => R.len_slice (r.e rfl) Try.runUnderlying22) ?_
  refine LW.value (.yes rfl rfl rfl) rfl (fun _ r => R.eql (r.e rfl) (r.e rfl)) ?_
  refine LW.value (.free rfl) rfl (fun _ r => R.pick_yes (r.e rfl) (r.e rfl)) ?_
  refine LW.value (.free rfl) rfl (fun _ r => R.move (r.e rfl)) ?_
  by_cases h24 : (nT : Int) = 3
  · -- (nT : Int) = 3
    refine LW.value (.yes rfl rfl (kb (dT h24))) rfl (fun _ r => R.move (r.e rfl)) ?_
    refine LW.value (.yes rfl rfl (kb (dT h24))) rfl (fun _ r => R.not (r.e rfl)) ?_
    refine LW.value (.free rfl) rfl (fun _ r => R.pick_yes (r.e (kb (dT h24))) (r.e rfl)) ?_
    refine LW.value (.free rfl) rfl (fun _ r => R.move (r.e rfl)) ?_
    refine LW.op (.yes rfl rfl rfl) (OW.calls rfl (fun _ r => R.call (vs := [.slice none 0 0]) Try.call11 rfl ⟨r.e rfl, trivial⟩) (la_yes Sl.nil (by decide) evB_nil acc_nil (hO23.frame [0] rfl)) ?_)
    rintro _ w25 ⟨rfl, hO26⟩
    replace hO26 := hO26.unframe1
    refine LW.value (.free rfl) rfl (fun _ r => R.pick_yes (r.e rfl) (r.e rfl)) ?_
    refine LW.value (.free rfl) rfl (fun _ r => R.move (r.e rfl)) ?_
    refine LW.value (.yes rfl rfl rfl) rfl (fun _ r => R.build (v := .agg #[.int .i64 0, .bool true, .int .i64 0, .int .i64 0, .int .i64 0, .int .i64 0, .int .i64 0, .int .i64 0]) (vs := [(1, .bool true)]) ⟨⟨r.e rfl, rfl⟩, trivial⟩ (by simp [go_sem])) ?_
    refine LW.op (.yes rfl rfl rfl) (OW.buildSlice (cs := #[.int .i64 0, .bool true, .int .i64 0, .int .i64 0, .int .i64 0, .int .i64 0, .int .i64 0, .int .i64 0]) (e := 41) (vs := [(0, .agg #[.int .i64 0, .bool true, .int .i64 0, .int .i64 0, .int .i64 0, .int .i64 0, .int .i64 0, .int .i64 0])]) rfl hO26 (fun _ r => ⟨⟨r.e rfl, rfl⟩, trivial⟩) (fun _ => by simp [go_sem, Instr.buildSlice, newRow]) ?_)
    intro b27 w28 hO29
    refine LW.op (.yes rfl rfl rfl) (OW.calls rfl (fun _ r => R.call (vs := [.slice (some ⟨b27, 0, none⟩) 1 1]) Try.call11 rfl ⟨r.e rfl, trivial⟩) (la_no (sl_lit (l := litB) rfl rfl rfl) (by decide) evB_B acc_B (hO29.frame [0] rfl)) ?_)
    rintro _ w30 ⟨rfl, hO31⟩
    replace hO31 := hO31.unframe1
    refine LW.value (.yes rfl rfl rfl) rfl (fun _ r => R.not (r.e rfl)) ?_
    refine LW.value (.free rfl) rfl (fun _ r => R.pick_yes (r.e rfl) (r.e rfl)) ?_
    refine LW.value (.free rfl) rfl (fun _ r => R.move (r.e rfl)) ?_
    refine LW.value (.yes rfl rfl rfl) rfl (fun _ r => R.move (r.e rfl)) ?_
    refine LW.op (.yes rfl rfl rfl) (OW.calls rfl (fun _ r => R.call (vs := [.slice (some ⟨b3, 0, none⟩) 5 5, .slice none 0 0]) Try.call13 rfl ⟨r.e rfl, r.e rfl, trivial⟩) (lh_no (hL.mono hG1) (by decide) Sl.nil (by decide) evB_nil holds_L_nil (hO31.frame [1] rfl)) ?_)
    rintro _ w32 ⟨rfl, hO33⟩
    replace hO33 := hO33.unframe1
    refine LW.value (.yes rfl rfl rfl) rfl (fun _ r => R.not (r.e rfl)) ?_
    refine LW.value (.free rfl) rfl (fun _ r => R.pick_yes (r.e rfl) (r.e rfl)) ?_
    refine LW.value (.free rfl) rfl (fun _ r => R.move (r.e rfl)) ?_
    refine LW.value (.yes rfl rfl rfl) rfl (fun _ r => R.move (r.e rfl)) ?_
    refine LW.value (.yes rfl rfl rfl) rfl (fun _ r => R.move (r.e rfl)) ?_
    have hk34 := hT.takeN (k := 2) (by omega)
    refine LW.value (.yes rfl rfl rfl) rfl (fun _ r => R.as (R.sliceTo (r.e rfl) (r.e rfl) Try.runUnderlying22 Try.sizeOf41 (by omega) (by omega)) (show _ = (.slice aT 2 cT : Value) from by simp)) ?_
    refine LW.op (.yes rfl rfl rfl) (OW.calls rfl (fun _ r => R.call (vs := [.slice (some ⟨b3, 0, none⟩) 5 5, .slice aT 2 cT]) Try.call13 rfl ⟨r.e rfl, r.e rfl, trivial⟩) (lh_no (hL.mono hG1) (by decide) hk34 (by have := List.length_take_le 2 told; omega) (fun e he => hbT e (List.mem_of_mem_take he)) (holds_L_cut hHo) (hO33.frame [0] rfl)) ?_)
    rintro _ w35 ⟨rfl, hO36⟩
    replace hO36 := hO36.unframe1
    refine LW.value (.yes rfl rfl rfl) rfl (fun _ r => R.not (r.e rfl)) ?_
    refine LW.value (.free rfl) rfl (fun _ r => R.pick_yes (r.e rfl) (r.e rfl)) ?_
    refine LW.value (.free rfl) rfl (fun _ r => R.assign (r.e rfl)) ?_
    refine LW.nil (EW.then (?_))
    refine CW.ret ?_
    refine EW.ret1 rfl rfl ?_
    exact ⟨rfl, hO36.pick [2] rfl⟩
  · -- not: (nT : Int) = 3
    refine LW.off (.no rfl rfl (kb (dF h24))) rfl ?_
    refine LW.off (.no rfl rfl (kb (dF h24))) rfl ?_
    refine LW.value (.free rfl) rfl (fun _ r => R.pick_no (r.e (kb (dF h24))) (r.e rfl)) ?_
    refine LW.value (.free rfl) rfl (fun _ r => R.move (r.e rfl)) ?_
    refine LW.off (.no rfl rfl rfl) rfl ?_
    refine LW.value (.free rfl) rfl (fun _ r => R.pick_no (r.e rfl) (r.e rfl)) ?_
    refine LW.value (.free rfl) rfl (fun _ r => R.move (r.e rfl)) ?_
    refine LW.off (.no rfl rfl rfl) rfl ?_
    refine LW.off (.no rfl rfl rfl) rfl ?_
    refine LW.off (.no rfl rfl rfl) rfl ?_
    refine LW.off (.no rfl rfl rfl) rfl ?_
    refine LW.value (.free rfl) rfl (fun _ r => R.pick_no (r.e rfl) (r.e rfl)) ?_
    refine LW.value (.free rfl) rfl (fun _ r => R.move (r.e rfl)) ?_
    refine LW.off (.no rfl rfl rfl) rfl ?_
    refine LW.off (.no rfl rfl rfl) rfl ?_
    refine LW.off (.no rfl rfl rfl) rfl ?_
    refine LW.value (.free rfl) rfl (fun _ r => R.pick_no (r.e rfl) (r.e rfl)) ?_
    refine LW.value (.free rfl) rfl (fun _ r => R.move (r.e rfl)) ?_
    refine LW.off (.no rfl rfl rfl) rfl ?_
    refine LW.off (.no rfl rfl rfl) rfl ?_
    refine LW.off (.no rfl rfl rfl) rfl ?_
    refine LW.off (.no rfl rfl rfl) rfl ?_
    refine LW.off (.no rfl rfl rfl) rfl ?_
    refine LW.value (.free rfl) rfl (fun _ r => R.pick_no (r.e rfl) (r.e rfl)) ?_
    refine LW.value (.free rfl) rfl (fun _ r => R.assign (r.e rfl)) ?_
    refine LW.nil (EW.then (?_))
    refine CW.ret ?_
    refine EW.ret1 rfl rfl ?_
    exfalso; omega

set_option maxRecDepth 100000 in
set_option maxHeartbeats 1000000 in
theorem x_accepts_yes (G : Seg) (a : Option Addr) (n c : Nat) (l : List Ev) (hs : Sl G 8 encE a n c l) (hbl : EvB l) (hp : AccP l) (w : World) (hO : Own w [G]) : Calls Try.prog 3 [.slice a n c].toArray w (Ret fun v w' => v = .bool true ∧ Own w' [G]) := by
  have hl := hs.hlen
  have hle := hs.hle
  refine enter (n := 44) Try.func3 rfl rfl rfl ?_
  refine CW.seq ?_
  refine CW.region ?_
  refine LW.value (.free rfl) rfl (fun _ r => R.assign (r.e rfl)) ?_
  refine LW.nil (EW.then (?_))
  refine CW.seq ?_
  refine CW.seq ?_
  refine CW.region ?_
  refine LW.value (.free rfl) rfl (fun _ r => R.move (r.e rfl)) ?_
  refine LW.value (.free rfl) rfl (fun _ r => R.len_slice (r.e rfl) Try.runUnderlying22) ?_
  refine LW.value (.free rfl) rfl (fun _ r => R.gtr (r.e rfl) (r.e rfl)) ?_
  refine LW.nil (EW.then (?_))
  by_cases h1 : 12 < (n : Int)
  · -- 12 < (n : Int)
    refine CW.yes (kb (dT h1)) ?_
    refine CW.seq ?_
    refine CW.region ?_
    refine LW.op (.free rfl) (OW.calls rfl (fun _ r => R.call (vs := []) Try.call8 rfl trivial) (x_live _ _ (hO.frame [] rfl)) ?_)
    rintro _ w2 ⟨rfl, hO3⟩
    replace hO3 := hO3.unframe0
    refine LW.value (.free rfl) rfl (fun _ r => R.assign (r.e rfl)) ?_
    refine LW.nil (EW.then (?_))
    refine CW.ret (EW.then_ret (?_))
    refine EW.ret1 rfl rfl ?_
    exact ⟨rfl, hO3.pick [0] rfl⟩
  · -- not: 12 < (n : Int)
    refine CW.no (kb (dF h1)) ?_
    refine CW.skip (EW.then (?_))
    refine CW.seq ?_
    refine CW.region ?_
    refine LW.value (.free rfl) rfl (fun _ r => R.move (r.e rfl)) ?_
    refine LW.op (.free rfl) (OW.calls rfl (fun _ r => R.call (vs := [.slice a n c]) Try.call9 rfl ⟨r.e rfl, trivial⟩) (ra_yes hs (by omega) hp (hO.frame [0] rfl)) ?_)
    rintro _ w4 ⟨rfl, hO5⟩
    replace hO5 := hO5.unframe1
    refine LW.value (.free rfl) rfl (fun _ r => R.assign (r.e rfl)) ?_
    refine LW.nil (EW.then (?_))
    refine CW.seq ?_
    refine CW.region ?_
    refine LW.value (.free rfl) rfl (fun _ r => R.move (r.e rfl)) ?_
    refine LW.op (.free rfl) (OW.calls rfl (fun _ r => R.call (vs := [.slice a n c]) Try.call10 rfl ⟨r.e rfl, trivial⟩) (ord_yes hs (by omega) hbl hp (hO5.frame [0] rfl)) ?_)
    rintro _ w6 ⟨aT, nT, cT, told, G1, rfl, hG1, hT, hHo, hbT, hlT, hO7⟩
    replace hO7 := hO7.unframe1
    have hnT := hT.hlen
    have hcT := hT.hle
    refine LW.value (.free rfl) rfl (fun _ r => R.move (r.e rfl)) ?_
    refine LW.value (.free rfl) rfl (fun _ r => R.extract (r.e rfl) rfl) ?_
    refine LW.value (.free rfl) rfl (fun _ r => R.extract (r.e rfl) rfl) ?_
    refine LW.value (.free rfl) rfl (fun _ r => R.assign (r.e rfl)) ?_
    refine LW.value (.free rfl) rfl (fun _ r => R.assign (r.e rfl)) ?_
    refine LW.nil (EW.then (?_))
    refine CW.seq ?_
    refine CW.region ?_
    refine LW.value (.free rfl) rfl (fun _ r => R.move (r.e rfl)) ?_
    refine LW.op (.free rfl) (OW.calls rfl (fun _ r => R.call (vs := [.slice a n c]) Try.call11 rfl ⟨r.e rfl, trivial⟩) (la_yes (hs.mono hG1) (by omega) hbl hp (hO7.frame [0] rfl)) ?_)
    rintro _ w8 ⟨rfl, hO9⟩
    replace hO9 := hO9.unframe1
    refine LW.value (.free rfl) rfl (fun _ r => R.move (r.e rfl)) ?_
    refine LW.value (.free rfl) rfl (fun _ r => R.eql_bool Try.underlying4 (r.e rfl) (r.e rfl)) ?_
    refine LW.value (.free rfl) rfl (fun _ r => R.move (r.e rfl)) ?_
    have h10 : true = true := rfl
    refine LW.value (.yes rfl rfl (kb (dT h10))) rfl (fun _ r => R.move (r.e rfl)) ?_
    refine LW.value (.yes rfl rfl (kb (dT h10))) rfl (fun _ r => R.move (r.e rfl)) ?_
    refine LW.value (.yes rfl rfl (kb (dT h10))) rfl (fun _ r => R.eql_bool Try.underlying4 (r.e rfl) (r.e rfl)) ?_
    refine LW.value (.free rfl) rfl (fun _ r => R.pick_yes (r.e (kb (dT h10))) (r.e rfl)) ?_
    refine LW.value (.free rfl) rfl (fun _ r => R.move (r.e rfl)) ?_
    refine LW.value (.yes rfl rfl (kb (dT h10))) rfl (fun _ r => R.move (r.e rfl)) ?_
    refine LW.value (.yes rfl rfl (kb (dT h10))) rfl (fun _ r => R.move (r.e rfl)) ?_
    refine LW.op (.yes rfl rfl (kb (dT h10))) (OW.calls rfl (fun _ r => R.call (vs := [.slice a n c, .slice aT nT cT]) Try.call12 rfl ⟨r.e rfl, r.e rfl, trivial⟩) (rh_yes (hs.mono hG1) (by omega) hT (by omega) hHo (hO9.frame [0] rfl)) ?_)
    rintro _ w11 ⟨rfl, hO12⟩
    replace hO12 := hO12.unframe1
    refine LW.value (.yes rfl rfl (kb (dT h10))) rfl (fun _ r => R.move (r.e rfl)) ?_
    refine LW.value (.yes rfl rfl (kb (dT h10))) rfl (fun _ r => R.eql_bool Try.underlying4 (r.e rfl) (r.e rfl)) ?_
    refine LW.value (.free rfl) rfl (fun _ r => R.pick_yes (r.e (kb (dT h10))) (r.e rfl)) ?_
    refine LW.value (.free rfl) rfl (fun _ r => R.move (r.e rfl)) ?_
    refine LW.value (.yes rfl rfl (kb (dT h10))) rfl (fun _ r => R.move (r.e rfl)) ?_
    refine LW.value (.yes rfl rfl (kb (dT h10))) rfl (fun _ r => R.move (r.e rfl)) ?_
    refine LW.off (.no rfl rfl rfl) rfl ?_
    refine LW.off (.no rfl rfl rfl) rfl ?_
    refine LW.off (.no rfl rfl rfl) rfl ?_
    refine LW.value (.yes rfl rfl (kb (dT h10))) rfl (fun _ r => R.pick_yes (r.e rfl) (r.e rfl)) ?_
    refine LW.value (.free rfl) rfl (fun _ r => R.pick_yes (r.e (kb (dT h10))) (r.e rfl)) ?_
    refine LW.value (.free rfl) rfl (fun _ r => R.move (r.e rfl)) ?_
    refine LW.op (.yes rfl rfl rfl) (OW.calls rfl (fun _ r => R.call (vs := []) Try.call8 rfl trivial) (x_live _ _ (hO12.frame [] rfl)) ?_)
    rintro _ w13 ⟨rfl, hO14⟩
    replace hO14 := hO14.unframe0
    refine LW.value (.free rfl) rfl (fun _ r => R.pick_yes (r.e rfl) (r.e rfl)) ?_
    refine LW.value (.free rfl) rfl (fun _ r => R.assign (r.e rfl)) ?_
    refine LW.nil (EW.then (?_))
    refine CW.ret ?_
    refine EW.ret1 rfl rfl ?_
    exact ⟨rfl, Own.shrink0 hO hG1 (hO14.pick [0] rfl)⟩

set_option maxRecDepth 100000 in
set_option maxHeartbeats 1000000 in
theorem x_accepts_no (G : Seg) (a : Option Addr) (n c : Nat) (l : List Ev) (hs : Sl G 8 encE a n c l) (hbl : EvB l) (hp : ¬ AccP l) (w : World) (hO : Own w [G]) : Calls Try.prog 3 [.slice a n c].toArray w (Ret fun v w' => v = .bool true ∧ Own w' [G]) := by
  have hl := hs.hlen
  have hle := hs.hle
  refine enter (n := 44) Try.func3 rfl rfl rfl ?_
  refine CW.seq ?_
  refine CW.region ?_
  refine LW.value (.free rfl) rfl (fun _ r => R.assign (r.e rfl)) ?_
  refine LW.nil (EW.then (?_))
  refine CW.seq ?_
  refine CW.seq ?_
  refine CW.region ?_
  refine LW.value (.free rfl) rfl (fun _ r => R.move (r.e rfl)) ?_
  refine LW.value (.free rfl) rfl (fun _ r => R.len_slice (r.e rfl) Try.runUnderlying22) ?_
  refine LW.value (.free rfl) rfl (fun _ r => R.gtr (r.e rfl) (r.e rfl)) ?_
  refine LW.nil (EW.then (?_))
  by_cases h1 : 12 < (n : Int)
  · -- 12 < (n : Int)
    refine CW.yes (kb (dT h1)) ?_
    refine CW.seq ?_
    refine CW.region ?_
    refine LW.op (.free rfl) (OW.calls rfl (fun _ r => R.call (vs := []) Try.call8 rfl trivial) (x_live _ _ (hO.frame [] rfl)) ?_)
    rintro _ w2 ⟨rfl, hO3⟩
    replace hO3 := hO3.unframe0
    refine LW.value (.free rfl) rfl (fun _ r => R.assign (r.e rfl)) ?_
    refine LW.nil (EW.then (?_))
    refine CW.ret (EW.then_ret (?_))
    refine EW.ret1 rfl rfl ?_
    exact ⟨rfl, hO3.pick [0] rfl⟩
  · -- not: 12 < (n : Int)
    refine CW.no (kb (dF h1)) ?_
    refine CW.skip (EW.then (?_))
    refine CW.seq ?_
    refine CW.region ?_
    refine LW.value (.free rfl) rfl (fun _ r => R.move (r.e rfl)) ?_
    refine LW.op (.free rfl) (OW.calls rfl (fun _ r => R.call (vs := [.slice a n c]) Try.call9 rfl ⟨r.e rfl, trivial⟩) (ra_no hs (by omega) hp (hO.frame [0] rfl)) ?_)
    rintro _ w4 ⟨rfl, hO5⟩
    replace hO5 := hO5.unframe1
    refine LW.value (.free rfl) rfl (fun _ r => R.assign (r.e rfl)) ?_
    refine LW.nil (EW.then (?_))
    refine CW.seq ?_
    refine CW.region ?_
    refine LW.value (.free rfl) rfl (fun _ r => R.move (r.e rfl)) ?_
    refine LW.op (.free rfl) (OW.calls rfl (fun _ r => R.call (vs := [.slice a n c]) Try.call10 rfl ⟨r.e rfl, trivial⟩) (ord_no hs (by omega) hbl hp (hO5.frame [0] rfl)) ?_)
    rintro _ w6 ⟨rfl, hO7⟩
    replace hO7 := hO7.unframe1
    refine LW.value (.free rfl) rfl (fun _ r => R.move (r.e rfl)) ?_
    refine LW.value (.free rfl) rfl (fun _ r => R.extract (r.e rfl) rfl) ?_
    refine LW.value (.free rfl) rfl (fun _ r => R.extract (r.e rfl) rfl) ?_
    refine LW.value (.free rfl) rfl (fun _ r => R.assign (r.e rfl)) ?_
    refine LW.value (.free rfl) rfl (fun _ r => R.assign (r.e rfl)) ?_
    refine LW.nil (EW.then (?_))
    refine CW.seq ?_
    refine CW.region ?_
    refine LW.value (.free rfl) rfl (fun _ r => R.move (r.e rfl)) ?_
    refine LW.op (.free rfl) (OW.calls rfl (fun _ r => R.call (vs := [.slice a n c]) Try.call11 rfl ⟨r.e rfl, trivial⟩) (la_no hs (by omega) hbl hp (hO7.frame [0] rfl)) ?_)
    rintro _ w8 ⟨rfl, hO9⟩
    replace hO9 := hO9.unframe1
    refine LW.value (.free rfl) rfl (fun _ r => R.move (r.e rfl)) ?_
    refine LW.value (.free rfl) rfl (fun _ r => R.eql_bool Try.underlying4 (r.e rfl) (r.e rfl)) ?_
    refine LW.value (.free rfl) rfl (fun _ r => R.move (r.e rfl)) ?_
    have h10 : false = false := rfl
    refine LW.value (.yes rfl rfl (kb (dT h10))) rfl (fun _ r => R.move (r.e rfl)) ?_
    refine LW.value (.yes rfl rfl (kb (dT h10))) rfl (fun _ r => R.move (r.e rfl)) ?_
    refine LW.value (.yes rfl rfl (kb (dT h10))) rfl (fun _ r => R.eql_bool Try.underlying4 (r.e rfl) (r.e rfl)) ?_
    refine LW.value (.free rfl) rfl (fun _ r => R.pick_yes (r.e (kb (dT h10))) (r.e rfl)) ?_
    refine LW.value (.free rfl) rfl (fun _ r => R.move (r.e rfl)) ?_
    refine LW.value (.yes rfl rfl (kb (dT h10))) rfl (fun _ r => R.move (r.e rfl)) ?_
    refine LW.value (.yes rfl rfl (kb (dT h10))) rfl (fun _ r => R.move (r.e rfl)) ?_
    refine LW.op (.yes rfl rfl (kb (dT h10))) (OW.calls rfl (fun _ r => R.call (vs := [.slice a n c, .slice none 0 0]) Try.call12 rfl ⟨r.e rfl, r.e rfl, trivial⟩) (rh_no hs (by omega) Sl.nil (by decide) (fun h => hp (acc_of h)) (hO9.frame [0] rfl)) ?_)
    rintro _ w11 ⟨rfl, hO12⟩
    replace hO12 := hO12.unframe1
    refine LW.value (.yes rfl rfl (kb (dT h10))) rfl (fun _ r => R.move (r.e rfl)) ?_
    refine LW.value (.yes rfl rfl (kb (dT h10))) rfl (fun _ r => R.eql_bool Try.underlying4 (r.e rfl) (r.e rfl)) ?_
    refine LW.value (.free rfl) rfl (fun _ r => R.pick_yes (r.e (kb (dT h10))) (r.e rfl)) ?_
    refine LW.value (.free rfl) rfl (fun _ r => R.move (r.e rfl)) ?_
    refine LW.value (.yes rfl rfl (kb (dT h10))) rfl (fun _ r => R.move (r.e rfl)) ?_
    refine LW.value (.yes rfl rfl (kb (dT h10))) rfl (fun _ r => R.move (r.e rfl)) ?_
    refine LW.value (.yes rfl rfl rfl) rfl (fun _ r => R.move (r.e rfl)) ?_
    refine LW.value (.yes rfl rfl rfl) rfl (fun _ r => R.len_slice (r.e rfl) Try.runUnderlying22) ?_
    refine LW.value (.yes rfl rfl rfl) rfl (fun _ r => R.as (R.eql (r.e rfl) (r.e rfl)) rfl) ?_
    refine LW.value (.yes rfl rfl (kb (dT h10))) rfl (fun _ r => R.pick_no (r.e rfl) (r.e rfl)) ?_
    refine LW.value (.free rfl) rfl (fun _ r => R.pick_yes (r.e (kb (dT h10))) (r.e rfl)) ?_
    refine LW.value (.free rfl) rfl (fun _ r => R.move (r.e rfl)) ?_
    refine LW.op (.yes rfl rfl rfl) (OW.calls rfl (fun _ r => R.call (vs := []) Try.call8 rfl trivial) (x_live _ _ (hO12.frame [] rfl)) ?_)
    rintro _ w13 ⟨rfl, hO14⟩
    replace hO14 := hO14.unframe0
    refine LW.value (.free rfl) rfl (fun _ r => R.pick_yes (r.e rfl) (r.e rfl)) ?_
    refine LW.value (.free rfl) rfl (fun _ r => R.assign (r.e rfl)) ?_
    refine LW.nil (EW.then (?_))
    refine CW.ret ?_
    refine EW.ret1 rfl rfl ?_
    exact ⟨rfl, hO14.pick [0] rfl⟩

theorem x_accepts (G : Seg) (a : Option Addr) (n c : Nat) (l : List Ev) (hs : Sl G 8 encE a n c l) (hbl : EvB l) (w : World) (hO : Own w [G]) : Calls Try.prog 3 [.slice a n c].toArray w (Ret fun v w' => v = .bool true ∧ Own w' [G]) := by
  by_cases hp : AccP l
  · exact x_accepts_yes G a n c l hs hbl hp w hO
  · exact x_accepts_no G a n c l hs hbl hp w hO
set_option maxRecDepth 100000 in
set_option maxHeartbeats 1000000 in
theorem x_holds_yes (G : Seg) (a : Option Addr) (n c : Nat) (l : List Ev) (hs : Sl G 8 encE a n c l) (hbl : EvB l) (a2 : Option Addr) (n2 c2 : Nat) (order : List Ev) (hs2 : Sl G 8 encE a2 n2 c2 order) (hbo : EvB order) (hp : HoldsP l order) (w : World) (hO : Own w [G]) : Calls Try.prog 4 [.slice a n c, .slice a2 n2 c2].toArray w (Ret fun v w' => v = .bool true ∧ Own w' [G]) := by
  have hl := hs.hlen
  have hle := hs.hle
  have hl2 := hs2.hlen
  refine enter (n := 24) Try.func4 rfl rfl rfl ?_
  refine CW.seq ?_
  refine CW.region ?_
  refine LW.value (.free rfl) rfl (fun _ r => R.assign (r.e rfl)) ?_
  refine LW.nil (EW.then (?_))
  refine CW.seq ?_
  refine CW.seq ?_
  refine CW.region ?_
  refine LW.value (.free rfl) rfl (fun _ r => R.move (r.e rfl)) ?_
  refine LW.value (.free rfl) rfl (fun _ r => R.len_slice (r.e rfl) Try.runUnderlying22) ?_
  refine LW.value (.free rfl) rfl (fun _ r => R.gtr (r.e rfl) (r.e rfl)) ?_
  refine LW.value (.free rfl) rfl (fun _ r => R.move (r.e rfl)) ?_
  by_cases h1 : 30 < (n : Int)
  · -- 30 < (n : Int)
    refine LW.off (.no rfl rfl (kb (dT h1))) rfl ?_
    refine LW.off (.no rfl rfl (kb (dT h1))) rfl ?_
    refine LW.off (.no rfl rfl (kb (dT h1))) rfl ?_
    refine LW.value (.free rfl) rfl (fun _ r => R.pick_yes (r.e (kb (dT h1))) (r.e rfl)) ?_
    refine LW.nil (EW.then (?_))
    refine CW.yes rfl ?_
    refine CW.seq ?_
    refine CW.region ?_
    refine LW.op (.free rfl) (OW.calls rfl (fun _ r => R.call (vs := []) Try.call8 rfl trivial) (x_live _ _ (hO.frame [] rfl)) ?_)
    rintro _ w2 ⟨rfl, hO3⟩
    replace hO3 := hO3.unframe0
    refine LW.value (.free rfl) rfl (fun _ r => R.assign (r.e rfl)) ?_
    refine LW.nil (EW.then (?_))
    refine CW.ret (EW.then_ret (?_))
    refine EW.ret1 rfl rfl ?_
    exact ⟨rfl, hO3.pick [0] rfl⟩
  · -- not: 30 < (n : Int)
    refine LW.value (.yes rfl rfl (kb (dF h1))) rfl (fun _ r => R.move (r.e rfl)) ?_
    refine LW.value (.yes rfl rfl (kb (dF h1))) rfl (fun _ r => R.len_slice (r.e rfl) Try.runUnderlying22) ?_
    refine LW.value (.yes rfl rfl (kb (dF h1))) rfl (fun _ r => R.gtr (r.e rfl) (r.e rfl)) ?_
    refine LW.value (.free rfl) rfl (fun _ r => R.pick_no (r.e (kb (dF h1))) (r.e rfl)) ?_
    refine LW.nil (EW.then (?_))
    by_cases h4 : 30 < (n2 : Int)
    · -- 30 < (n2 : Int)
      refine CW.yes (kb (dT h4)) ?_
      refine CW.seq ?_
      refine CW.region ?_
      refine LW.op (.free rfl) (OW.calls rfl (fun _ r => R.call (vs := []) Try.call8 rfl trivial) (x_live _ _ (hO.frame [] rfl)) ?_)
      rintro _ w5 ⟨rfl, hO6⟩
      replace hO6 := hO6.unframe0
      refine LW.value (.free rfl) rfl (fun _ r => R.assign (r.e rfl)) ?_
      refine LW.nil (EW.then (?_))
      refine CW.ret (EW.then_ret (?_))
      refine EW.ret1 rfl rfl ?_
      exact ⟨rfl, hO6.pick [0] rfl⟩
    · -- not: 30 < (n2 : Int)
      refine CW.no (kb (dF h4)) ?_
      refine CW.skip (EW.then (?_))
      refine CW.seq ?_
      refine CW.region ?_
      refine LW.value (.free rfl) rfl (fun _ r => R.move (r.e rfl)) ?_
      refine LW.value (.free rfl) rfl (fun _ r => R.move (r.e rfl)) ?_
      refine LW.op (.free rfl) (OW.calls rfl (fun _ r => R.call (vs := [.slice a n c, .slice a2 n2 c2]) Try.call13 rfl ⟨r.e rfl, r.e rfl, trivial⟩) (lh_yes hs (by omega) hs2 (by omega) hbo hp (hO.frame [0] rfl)) ?_)
      rintro _ w7 ⟨rfl, hO8⟩
      replace hO8 := hO8.unframe1
      refine LW.value (.free rfl) rfl (fun _ r => R.move (r.e rfl)) ?_
      refine LW.value (.free rfl) rfl (fun _ r => R.move (r.e rfl)) ?_
      refine LW.op (.free rfl) (OW.calls rfl (fun _ r => R.call (vs := [.slice a n c, .slice a2 n2 c2]) Try.call12 rfl ⟨r.e rfl, r.e rfl, trivial⟩) (rh_yes hs (by omega) hs2 (by omega) hp (hO8.frame [0] rfl)) ?_)
      rintro _ w9 ⟨rfl, hO10⟩
      replace hO10 := hO10.unframe1
      refine LW.value (.free rfl) rfl (fun _ r => R.eql_bool Try.underlying4 (r.e rfl) (r.e rfl)) ?_
      refine LW.value (.free rfl) rfl (fun _ r => R.move (r.e rfl)) ?_
      have h11 : true = true := rfl
      refine LW.op (.yes rfl rfl (kb (dT h11))) (OW.calls rfl (fun _ r => R.call (vs := []) Try.call8 rfl trivial) (x_live _ _ (hO10.frame [] rfl)) ?_)
      rintro _ w12 ⟨rfl, hO13⟩
      replace hO13 := hO13.unframe0
      refine LW.value (.free rfl) rfl (fun _ r => R.pick_yes (r.e (kb (dT h11))) (r.e rfl)) ?_
      refine LW.value (.free rfl) rfl (fun _ r => R.assign (r.e rfl)) ?_
      refine LW.nil (EW.then (?_))
      refine CW.ret ?_
      refine EW.ret1 rfl rfl ?_
      exact ⟨rfl, hO13.pick [0] rfl⟩

set_option maxRecDepth 100000 in
set_option maxHeartbeats 1000000 in
theorem x_holds_no (G : Seg) (a : Option Addr) (n c : Nat) (l : List Ev) (hs : Sl G 8 encE a n c l) (hbl : EvB l) (a2 : Option Addr) (n2 c2 : Nat) (order : List Ev) (hs2 : Sl G 8 encE a2 n2 c2 order) (hbo : EvB order) (hp : ¬ HoldsP l order) (w : World) (hO : Own w [G]) : Calls Try.prog 4 [.slice a n c, .slice a2 n2 c2].toArray w (Ret fun v w' => v = .bool true ∧ Own w' [G]) := by
  have hl := hs.hlen
  have hle := hs.hle
  have hl2 := hs2.hlen
  refine enter (n := 24) Try.func4 rfl rfl rfl ?_
  refine CW.seq ?_
  refine CW.region ?_
  refine LW.value (.free rfl) rfl (fun _ r => R.assign (r.e rfl)) ?_
  refine LW.nil (EW.then (?_))
  refine CW.seq ?_
  refine CW.seq ?_
  refine CW.region ?_
  refine LW.value (.free rfl) rfl (fun _ r => R.move (r.e rfl)) ?_
  refine LW.value (.free rfl) rfl (fun _ r => R.len_slice (r.e rfl) Try.runUnderlying22) ?_
  refine LW.value (.free rfl) rfl (fun _ r => R.gtr (r.e rfl) (r.e rfl)) ?_
  refine LW.value (.free rfl) rfl (fun _ r => R.move (r.e rfl)) ?_
  by_cases h1 : 30 < (n : Int)
  · -- 30 < (n : Int)
    refine LW.off (.no rfl rfl (kb (dT h1))) rfl ?_
    refine LW.off (.no rfl rfl (kb (dT h1))) rfl ?_
    refine LW.off (.no rfl rfl (kb (dT h1))) rfl ?_
    refine LW.value (.free rfl) rfl (fun _ r => R.pick_yes (r.e (kb (dT h1))) (r.e rfl)) ?_
    refine LW.nil (EW.then (?_))
    refine CW.yes rfl ?_
    refine CW.seq ?_
    refine CW.region ?_
    refine LW.op (.free rfl) (OW.calls rfl (fun _ r => R.call (vs := []) Try.call8 rfl trivial) (x_live _ _ (hO.frame [] rfl)) ?_)
    rintro _ w2 ⟨rfl, hO3⟩
    replace hO3 := hO3.unframe0
    refine LW.value (.free rfl) rfl (fun _ r => R.assign (r.e rfl)) ?_
    refine LW.nil (EW.then (?_))
    refine CW.ret (EW.then_ret (?_))
    refine EW.ret1 rfl rfl ?_
    exact ⟨rfl, hO3.pick [0] rfl⟩
  · -- not: 30 < (n : Int)
    refine LW.value (.yes rfl rfl (kb (dF h1))) rfl (fun _ r => R.move (r.e rfl)) ?_
    refine LW.value (.yes rfl rfl (kb (dF h1))) rfl (fun _ r => R.len_slice (r.e rfl) Try.runUnderlying22) ?_
    refine LW.value (.yes rfl rfl (kb (dF h1))) rfl (fun _ r => R.gtr (r.e rfl) (r.e rfl)) ?_
    refine LW.value (.free rfl) rfl (fun _ r => R.pick_no (r.e (kb (dF h1))) (r.e rfl)) ?_
    refine LW.nil (EW.then (?_))
    by_cases h4 : 30 < (n2 : Int)
    · -- 30 < (n2 : Int)
      refine CW.yes (kb (dT h4)) ?_
      refine CW.seq ?_
      refine CW.region ?_
      refine LW.op (.free rfl) (OW.calls rfl (fun _ r => R.call (vs := []) Try.call8 rfl trivial) (x_live _ _ (hO.frame [] rfl)) ?_)
      rintro _ w5 ⟨rfl, hO6⟩
      replace hO6 := hO6.unframe0
      refine LW.value (.free rfl) rfl (fun _ r => R.assign (r.e rfl)) ?_
      refine LW.nil (EW.then (?_))
      refine CW.ret (EW.then_ret (?_))
      refine EW.ret1 rfl rfl ?_
      exact ⟨rfl, hO6.pick [0] rfl⟩
    · -- not: 30 < (n2 : Int)
      refine CW.no (kb (dF h4)) ?_
      refine CW.skip (EW.then (?_))
      refine CW.seq ?_
      refine CW.region ?_
      refine LW.value (.free rfl) rfl (fun _ r => R.move (r.e rfl)) ?_
      refine LW.value (.free rfl) rfl (fun _ r => R.move (r.e rfl)) ?_
      refine LW.op (.free rfl) (OW.calls rfl (fun _ r => R.call (vs := [.slice a n c, .slice a2 n2 c2]) Try.call13 rfl ⟨r.e rfl, r.e rfl, trivial⟩) (lh_no hs (by omega) hs2 (by omega) hbo hp (hO.frame [0] rfl)) ?_)
      rintro _ w7 ⟨rfl, hO8⟩
      replace hO8 := hO8.unframe1
      refine LW.value (.free rfl) rfl (fun _ r => R.move (r.e rfl)) ?_
      refine LW.value (.free rfl) rfl (fun _ r => R.move (r.e rfl)) ?_
      refine LW.op (.free rfl) (OW.calls rfl (fun _ r => R.call (vs := [.slice a n c, .slice a2 n2 c2]) Try.call12 rfl ⟨r.e rfl, r.e rfl, trivial⟩) (rh_no hs (by omega) hs2 (by omega) hp (hO8.frame [0] rfl)) ?_)
      rintro _ w9 ⟨rfl, hO10⟩
      replace hO10 := hO10.unframe1
      refine LW.value (.free rfl) rfl (fun _ r => R.eql_bool Try.underlying4 (r.e rfl) (r.e rfl)) ?_
      refine LW.value (.free rfl) rfl (fun _ r => R.move (r.e rfl)) ?_
      have h11 : false = false := rfl
      refine LW.op (.yes rfl rfl (kb (dT h11))) (OW.calls rfl (fun _ r => R.call (vs := []) Try.call8 rfl trivial) (x_live _ _ (hO10.frame [] rfl)) ?_)
      rintro _ w12 ⟨rfl, hO13⟩
      replace hO13 := hO13.unframe0
      refine LW.value (.free rfl) rfl (fun _ r => R.pick_yes (r.e (kb (dT h11))) (r.e rfl)) ?_
      refine LW.value (.free rfl) rfl (fun _ r => R.assign (r.e rfl)) ?_
      refine LW.nil (EW.then (?_))
      refine CW.ret ?_
      refine EW.ret1 rfl rfl ?_
      exact ⟨rfl, hO13.pick [0] rfl⟩

theorem x_holds (G : Seg) (a : Option Addr) (n c : Nat) (l : List Ev) (hs : Sl G 8 encE a n c l) (hbl : EvB l) (a2 : Option Addr) (n2 c2 : Nat) (order : List Ev) (hs2 : Sl G 8 encE a2 n2 c2 order) (hbo : EvB order) (w : World) (hO : Own w [G]) : Calls Try.prog 4 [.slice a n c, .slice a2 n2 c2].toArray w (Ret fun v w' => v = .bool true ∧ Own w' [G]) := by
  by_cases hp : HoldsP l order
  · exact x_holds_yes G a n c l hs hbl a2 n2 c2 order hs2 hbo hp w hO
  · exact x_holds_no G a n c l hs hbl a2 n2 c2 order hs2 hbo hp w hO
end Go.Sd
