/-
  The rules by which the Go functions of this seat are walked: a memory is told as a list of blocks of which no two are one ('Own'), temporaries as a list of places and values.
-/
import Derived.OrdersHeld
import Derived.OrdersIn
import Derived.ScopeJumps
import Derived.RangeFuncCalls
import Derived.KernelRfl
import Derived.WalkKit
import Derived.WalkSpells
import Derived.Laws.StructEq
set_option linter.unusedSectionVars false
set_option linter.unusedSimpArgs false
set_option linter.unusedVariables false
namespace Go.Sd
open Go

abbrev Seg := List (Nat × Obj)
abbrev Env := List (Nat × Value)

/-- One block. -/
abbrev blk (b : Nat) (o : Obj) : Seg := [(b, o)]

/-- What the streams hold: what they held at the outset. -/
class Str where
  os : Os
  out : Array (Nat × ByteArray)
variable [Str]
/-- The blocks of these segments are all different, and lie in the world as they are told. -/
structure Own [Str] (w : World) (S : List Seg) : Prop where
  d : (S.flatten.map (·.1)).Nodup
  g : ∀ p ∈ S.flatten, w.heap[p.1]? = some p.2
  s : w.os = Str.os ∧ w.output = Str.out

theorem Own.heap {w w' : World} {S : List Seg} (h : Own w S) (e : w'.heap = w.heap) (hs : w'.os = w.os ∧ w'.output = w.output := by exact ⟨rfl, rfl⟩) : Own w' S := ⟨h.1, fun p hp => by rw [e]; exact h.2 p hp, by rw [hs.1, hs.2]; exact h.3⟩
theorem Own.drew {w : World} {S : List Seg} (h : Own w S) : Own { w with drawn := w.drawn + 1 } S := h.heap rfl

theorem flatten_perm {S T : List Seg} (h : S.Perm T) : S.flatten.Perm T.flatten := by
  induction h with
  | nil => exact .refl _
  | cons x _ ih => simpa using ih.append_left x
  | swap x y l => simp only [List.flatten_cons, ← List.append_assoc]; exact (List.perm_append_comm).append_right _
  | trans _ _ h1 h2 => exact h1.trans h2

theorem Own.perm' {w : World} {S T : List Seg} (h : Own w S) (hp : S.flatten.Perm T.flatten) : Own w T :=
  ⟨(hp.map _).nodup_iff.1 h.1, fun p hm => h.2 p (hp.mem_iff.2 hm), h.3⟩
theorem Own.perm {w : World} {S T : List Seg} (h : Own w S) (hp : S.Perm T) : Own w T := h.perm' (flatten_perm hp)

theorem Own.drop {w : World} {s : Seg} {S : List Seg} (h : Own w (s :: S)) : Own w S :=
  ⟨by have := h.1; simp only [List.flatten_cons, List.map_append] at this; exact (List.nodup_append.1 this).2.1, fun p hp => h.2 p (by simp only [List.flatten_cons]; exact List.mem_append_right _ hp), h.3⟩

/-- Takes segment number n out. -/
def takeAt {α : Type} : Nat → List α → Option (α × List α)
  | _, [] => none
  | 0, x :: xs => some (x, xs)
  | n + 1, x :: xs => match takeAt n xs with
    | some (y, ys) => some (y, x :: ys)
    | none => none
theorem takeAt_perm {α : Type} : ∀ (n : Nat) (l : List α) {x : α} {r : List α}, takeAt n l = some (x, r) → l.Perm (x :: r)
  | _, [], _, _, h => by simp [takeAt] at h
  | 0, y :: ys, _, _, h => by simp only [takeAt, Option.some.injEq, Prod.mk.injEq] at h; obtain ⟨rfl, rfl⟩ := h; exact .refl _
  | n + 1, y :: ys, x, r, h => by
    simp only [takeAt] at h
    split at h
    · rename_i z zs hz
      simp only [Option.some.injEq, Prod.mk.injEq] at h
      obtain ⟨rfl, rfl⟩ := h
      exact ((takeAt_perm n ys hz).cons y).trans (.swap _ _ _)
    · cases h

/-- Segments number is.., in this order, ahead of what is left. -/
def sel : List Nat → List Seg → Option (List Seg × List Seg)
  | [], S => some ([], S)
  | i :: is, S => match takeAt i S with
    | some (x, r) => match sel is r with
      | some (xs, r') => some (x :: xs, r')
      | none => none
    | none => none
theorem sel_perm : ∀ (is : List Nat) (S : List Seg) {xs r : List Seg}, sel is S = some (xs, r) → S.Perm (xs ++ r)
  | [], S, _, _, h => by simp only [sel, Option.some.injEq, Prod.mk.injEq] at h; obtain ⟨rfl, rfl⟩ := h; exact .refl _
  | i :: is, S, xs, r, h => by
    simp only [sel] at h
    split at h
    · rename_i x r1 h1
      split at h
      · rename_i xs1 r2 h2
        simp only [Option.some.injEq, Prod.mk.injEq] at h
        obtain ⟨rfl, rfl⟩ := h
        exact (takeAt_perm i S h1).trans ((sel_perm is r1 h2).cons x)
      · cases h
    · cases h

/-- The segments number is.. alone. -/
theorem Own.pick {w : World} {S xs r : List Seg} (h : Own w S) (is : List Nat) (hs : sel is S = some (xs, r)) : Own w xs := by
  have h1 := h.perm (sel_perm is S hs)
  clear hs h
  exact ⟨by have := h1.1; simp only [List.flatten_append, List.map_append] at this; exact (List.nodup_append.1 this).1, fun p hp => h1.2 p (by simp only [List.flatten_append]; exact List.mem_append_left _ hp), h1.3⟩
/-- The segments number is.. , all others as one behind them. -/
theorem Own.frame {w : World} {S xs r : List Seg} (h : Own w S) (is : List Nat) (hs : sel is S = some (xs, r)) : Own w (xs ++ [r.flatten]) :=
  (h.perm (sel_perm is S hs)).perm' (by simp)
theorem Own.unframe {w : World} {xs r : List Seg} (h : Own w (xs ++ [r.flatten])) : Own w (xs ++ r) := h.perm' (by simp)
theorem Own.unframe0 {w : World} {r : List Seg} (h : Own w [r.flatten]) : Own w r := h.perm' (by simp)
theorem Own.unframe1 {w : World} {a : Seg} {r : List Seg} (h : Own w [a, r.flatten]) : Own w (a :: r) := h.perm' (by simp)
theorem Own.unframe2 {w : World} {a b : Seg} {r : List Seg} (h : Own w [a, b, r.flatten]) : Own w (a :: b :: r) := h.perm' (by simp)
theorem Own.unframe3 {w : World} {a b c : Seg} {r : List Seg} (h : Own w [a, b, c, r.flatten]) : Own w (a :: b :: c :: r) := h.perm' (by simp)
theorem Own.unframe4 {w : World} {a b c d : Seg} {r : List Seg} (h : Own w [a, b, c, d, r.flatten]) : Own w (a :: b :: c :: d :: r) := h.perm' (by simp)
theorem Own.move {w : World} {S xs r : List Seg} (h : Own w S) (is : List Nat) (hs : sel is S = some (xs, r)) : Own w (xs ++ r) := h.perm (sel_perm is S hs)
/-- The first two as one. -/
theorem Own.join {w : World} {a b : Seg} {S : List Seg} (h : Own w (a :: b :: S)) : Own w ((a ++ b) :: S) := h.perm' (by simp)
theorem Own.split {w : World} {a b : Seg} {S : List Seg} (h : Own w ((a ++ b) :: S)) : Own w (a :: b :: S) := h.perm' (by simp)
theorem Own.nil {w : World} {S : List Seg} (h : Own w S) : Own w ([] :: S) := h.perm' (by simp)

theorem Own.get {w : World} {S : List Seg} {i b : Nat} {o : Obj} (h : Own w S) (hi : S[i]? = some [(b, o)]) : w.heap[b]? = some o :=
  h.2 (b, o) (List.mem_flatten.2 ⟨_, List.mem_of_getElem? hi, by simp⟩)
theorem Own.mem {w : World} {S : List Seg} {i b : Nat} {o : Obj} {s : Seg} (h : Own w S) (hi : S[i]? = some s) (hm : (b, o) ∈ s) : w.heap[b]? = some o :=
  h.2 (b, o) (List.mem_flatten.2 ⟨_, List.mem_of_getElem? hi, hm⟩)
theorem Own.cell {w : World} {S : List Seg} {i b k : Nat} {cs : Array Value} {T : TypeId} {fr : Nat × Nat} {v : Value} (h : Own w S) (hi : S[i]? = some [(b, .cells cs T fr)]) (hk : cs[k]? = some v) : w.cell? ⟨b, k, none⟩ = some v := by
  have := h.get hi
  simp only [World.cell?, this]
  exact hk
theorem Own.lt {w : World} {S : List Seg} (h : Own w S) {p : Nat × Obj} (hp : p ∈ S.flatten) : p.1 < w.heap.size := by
  have := h.2 p hp
  exact (Array.getElem?_eq_some_iff.1 this).1

/-- One block turned. -/
theorem Own.turn {w w' : World} {S : List Seg} {i b : Nat} {o o' : Obj} (h : Own w S) (hi : S[i]? = some [(b, o)]) (hb : w'.heap[b]? = some o') (hn : ∀ k, k ≠ b → w'.heap[k]? = w.heap[k]?) (hs : w'.os = w.os ∧ w'.output = w.output := by exact ⟨rfl, rfl⟩) : Own w' (S.set i [(b, o')]) := by
  have hp : ∀ (S : List Seg) (i : Nat), S[i]? = some [(b, o)] → ∃ L R : Seg, S.flatten = L ++ (b, o) :: R ∧ (S.set i [(b, o')]).flatten = L ++ (b, o') :: R := by
    intro S
    induction S with
    | nil => intro i hi; simp at hi
    | cons s S ih =>
      intro i hi
      cases i with
      | zero => simp only [List.getElem?_cons_zero, Option.some.injEq] at hi; subst hi; exact ⟨[], S.flatten, by simp, by simp⟩
      | succ i =>
        obtain ⟨L, R, h1, h2⟩ := ih i (by simpa using hi)
        exact ⟨s ++ L, R, by simp [h1], by simp [h2]⟩
  obtain ⟨L, R, h1, h2⟩ := hp S i hi
  have hd := h.1
  have hm := h.2
  rw [h1] at hd hm
  refine ⟨by rw [h2]; simpa using hd, ?_, by rw [hs.1, hs.2]; exact h.3⟩
  rw [h2]
  have hne : ∀ p, p ∈ L ∨ p ∈ R → p.1 ≠ b := by
    intro p hp e
    simp only [List.map_append, List.map_cons] at hd
    obtain ⟨_, hd2, hd3⟩ := List.nodup_append.1 hd
    rcases hp with hp | hp
    · exact hd3 p.1 (List.mem_map_of_mem hp) b (by simp) e
    · exact (List.nodup_cons.1 hd2).1 (e ▸ List.mem_map_of_mem hp)
  intro p hp
  rcases List.mem_append.1 hp with hp | hp
  · rw [hn p.1 (hne p (.inl hp))]; exact hm p (List.mem_append_left _ hp)
  · rcases List.mem_cons.1 hp with rfl | hp
    · exact hb
    · rw [hn p.1 (hne p (.inr hp))]; exact hm p (List.mem_append_right _ (List.mem_cons_of_mem _ hp))

theorem Own.alloc {w : World} {S : List Seg} (h : Own w S) (o : Obj) : Own (w.alloc o) ([(w.heap.size, o)] :: S) := by
  refine ⟨?_, ?_, h.3⟩
  · simp only [List.flatten_cons, List.cons_append, List.nil_append, List.map_cons]
    refine List.nodup_cons.2 ⟨fun hm => ?_, h.1⟩
    obtain ⟨p, hp, e⟩ := List.mem_map.1 hm
    have := h.lt hp
    omega
  · intro p hp
    simp only [List.flatten_cons, List.cons_append, List.nil_append] at hp
    rcases List.mem_cons.1 hp with rfl | hp
    · show (w.heap.push o)[w.heap.size]? = some o
      simp
    · have h1 := h.lt hp
      have h2 := h.2 p hp
      show (w.heap.push o)[p.1]? = some p.2
      rw [Array.getElem?_push, if_neg (by omega)]
      exact h2

theorem Own.setCell {w : World} {S : List Seg} {i b k : Nat} {cs : Array Value} {T : TypeId} {fr : Nat × Nat} (h : Own w S) (hi : S[i]? = some [(b, .cells cs T fr)]) (v : Value) : Own (w.setCell ⟨b, k, none⟩ v) (S.set i [(b, .cells (cs.setIfInBounds k v) T fr)]) := by
  have hg := h.get hi
  refine h.turn hi ?_ ?_
  · simp [World.setCell, Array.getElem?_modify, hg]
  · intro j hj
    simp only [World.setCell, Array.getElem?_modify]
    rw [if_neg (fun e => hj e.symm)]

theorem dT {p : Prop} [Decidable p] (h : p) : decide p = true := decide_eq_true h
theorem dF {p : Prop} [Decidable p] (h : ¬ p) : decide p = false := decide_eq_false h
theorem bN {a b : Bool} (h : a = b) : (!a) = !b := by rw [h]
theorem kb {a b : Bool} (h : a = b) : some (Value.bool a) = some (.bool b) := by rw [h]

/-! ### Temporaries: some of them are told -/
def elook : Env → Nat → Option Value
  | [], _ => none
  | (d, v) :: e, t => cond (Nat.beq d t) (some v) (elook e t)
def evo (env : Env) : Operand → Option Value
  | .tmp t => elook env t
  | .const v => some v
  | .global g => some (.pointer (some ⟨g, 0, none⟩))
  | .func f => some (.func (.func f) #[] #[])
structure Real (n : Nat) (env : Env) (a : Act) : Prop where
  d : a.defers = []
  n : a.tmps.size = n
  g : ∀ t v, elook env t = some v → a.tmps.getD t undef = v

theorem Real.e {n : Nat} {env : Env} {a : Act} (h : Real n env a) {x : Operand} {v : Value} (hx : evo env x = some v) : a.eval x = v := by
  cases x with
  | tmp t => exact h.g t v hx
  | const u => simpa [evo, Act.eval] using hx
  | global u => simpa [evo, Act.eval] using hx
  | func u => simpa [evo, Act.eval] using hx
theorem Real.put {n : Nat} {env : Env} {a : Act} (h : Real n env a) {d : Nat} (hd : Nat.blt d n = true) (v : Value) : Real n ((d, v) :: env) (a.put (some d) v) := by
  have hd' : d < n := by simpa [Nat.blt_eq] using hd
  refine ⟨h.d, by simp [Act.put, h.n], fun t u hu => ?_⟩
  simp only [Act.put]
  simp only [elook] at hu
  cases e : Nat.beq d t
  · have hne : d ≠ t := fun h' => by subst h'; simp at e
    rw [e] at hu
    rw [← h.g t u hu]
    simp [Array.getD_eq_getD_getElem?, hne]
  · have he := Nat.eq_of_beq_eq_true e
    subst he
    rw [e] at hu
    obtain rfl : v = u := by simpa using hu
    have := h.n
    simp [Array.getD_eq_getD_getElem?, this, hd']

/-- These temporaries are among those. -/
def Sub : Env → Env → Prop
  | [], _ => True
  | (t, v) :: r, env => elook env t = some v ∧ Sub r env
theorem Sub.look : ∀ {r env : Env} {t : Nat} {v : Value}, Sub r env → elook r t = some v → elook env t = some v
  | [], _, _, _, _, h => by simp [elook] at h
  | (d, u) :: r, env, t, v, hs, h => by
    simp only [elook] at h
    cases e : Nat.beq d t
    · rw [e] at h; exact Sub.look hs.2 h
    · rw [e] at h
      obtain rfl : u = v := by simpa using h
      have he := Nat.eq_of_beq_eq_true e
      subst he
      exact hs.1
theorem Real.sub {n : Nat} {env env' : Env} {a : Act} (h : Real n env a) (hs : Sub env' env) : Real n env' a := ⟨h.d, h.n, fun t v ht => h.g t v (hs.look ht)⟩

def argsEnv : List Value → Nat → Env
  | [], _ => []
  | v :: vs, i => (i, v) :: argsEnv vs (i + 1)
theorem argsEnv_get : ∀ (vs : List Value) (i t : Nat) (v : Value), elook (argsEnv vs i) t = some v → i ≤ t ∧ vs[t - i]? = some v
  | [], i, t, v, h => by simp [argsEnv, elook] at h
  | u :: vs, i, t, v, h => by
    simp only [argsEnv, elook] at h
    cases e : Nat.beq i t
    · rw [e] at h
      obtain ⟨h1, h2⟩ := argsEnv_get vs (i + 1) t v h
      refine ⟨by omega, ?_⟩
      obtain ⟨k, rfl⟩ : ∃ k, t = i + 1 + k := ⟨t - (i + 1), by omega⟩
      rw [show i + 1 + k - (i + 1) = k from by omega] at h2
      rw [show i + 1 + k - i = k + 1 from by omega]
      simpa using h2
    · rw [e] at h
      have he := Nat.eq_of_beq_eq_true e
      subst he
      exact ⟨Nat.le_refl _, by simpa using h⟩
theorem real_start (args : List Value) (n : Nat) (hs : Nat.ble args.length n = true) : Real n (argsEnv args 0) { tmps := args.toArray ++ Array.replicate (n - args.toArray.size) undef, defers := [] } := by
  have hs' : args.length ≤ n := by simpa using hs
  refine ⟨rfl, by simp; omega, fun t v ht => ?_⟩
  obtain ⟨_, h2⟩ := argsEnv_get args 0 t v ht
  simp only [Nat.sub_zero] at h2
  have hl := (List.getElem?_eq_some_iff.1 h2).1
  simp [Array.getD_eq_getD_getElem?, Array.getElem?_append, hl]
  obtain ⟨_, h3⟩ := List.getElem?_eq_some_iff.1 h2
  exact h3

/-! ### Code over temporaries that are told; in a round of a range over a function (l: its record), too -/
def rnd : Option Nat → Fence
  | none => Fence.wide
  | some l => Fence.wide.inRound l
def wpx (rd : Option Nat) (P : Program) (c : Code) (Q : Exit → Act → World → Prop) (a : Act) (w : World) : Prop :=
  match rd with
  | none => c.wp P Q a w
  | some l => c.wpIn (rnd (some l)) 0 P Q a w
theorem wpx_mono {rd : Option Nat} {P : Program} {c : Code} {Q Q' : Exit → Act → World → Prop} {a : Act} {w : World} (hq : ∀ e a w, Q e a w → Q' e a w) (h : wpx rd P c Q a w) : wpx rd P c Q' a w := by
  cases rd with
  | none => exact Code.wp_mono hq h
  | some l => exact Go.wpIn_mono h hq
def noDefer (ops : Array Oper) : Bool := ops.all fun o => match o.op with | .defer _ => false | _ => true
/-- In a round no operation is a defer statement, and nothing outgrows. -/
def RdOk (rd : Option Nat) (ops : Array Oper) (Q : Exit → Act → World → Prop) : Prop := rd = none ∨ (noDefer ops = true ∧ ∀ a w, ¬ Q .outgrown a w)
theorem noDefer_spec {ops : Array Oper} (h : noDefer ops = true) {i : Nat} {o : Oper} (ho : ops[i]? = some o) : ∀ c, o.op ≠ .defer c := by
  intro c hc
  simp only [noDefer, Array.all_eq_true] at h
  obtain ⟨hl, rfl⟩ := Array.getElem?_eq_some_iff.1 ho
  have := h i hl
  rw [hc] at this
  cases this
/-- One operation, in a round. -/
theorem wp_in {P : Program} {o : Oper} {a : Act} {w : World} {K : Act → World → Prop} {Q : Exit → Act → World → Prop} {l : Nat} (hd : ∀ c, o.op ≠ .defer c) (h : o.wp P a w K Q) : o.wpIn (rnd (some l)) 0 P a w K Q := by
  refine ⟨fun _ _ => trivial, ?_⟩
  unfold Oper.wp at h
  have e : Oper.semAt (rnd (some l)).round a.eval o = execOp a.eval o := Oper.semAt_some l a.eval o hd
  rw [e]
  cases hr : (execOp a.eval o).run P w with
  | halt x w' => rw [hr] at h; cases x <;> first | exact h | exact h.elim
  | ok x w' =>
    rw [hr] at h
    cases x with
    | value v => exact h
    | skip => exact h
    | defer d => exact h
    | enter f args => exact ⟨fun hh => by simp [rnd, Fence.wide] at hh, (callsIn_wide.2 h).inRound l⟩
    | row row args =>
      refine ⟨fun hh => by simp [rnd, Fence.wide] at hh, fun c cs _ => ?_⟩
      obtain ⟨v, w', r, st⟩ := h c cs
      exact ⟨v, w', r, stepsIn_wide.2 st⟩
    | _ => exact h.elim
theorem wpOp_in {P : Program} {ops : Array Oper} {Q : Exit → Act → World → Prop} {i : Nat} {K : Act → World → Prop} {a : Act} {w : World} {l : Nat} (hok : RdOk (some l) ops Q) (h : wpOp P ops Q i K a w) : wpOpIn (rnd (some l)) 0 P ops Q i K a w := by
  rcases hok with hok | ⟨hd, hq⟩
  · cases hok
  unfold wpOp at h
  unfold wpOpIn
  cases ho : ops[i]? with
  | none => rw [ho] at h; exact h
  | some o =>
    rw [ho] at h
    dsimp only at h ⊢
    split
    · rename_i hw
      rw [if_pos hw] at h
      rcases h with h | ⟨_, a', w', h⟩
      · exact wp_in (noDefer_spec hd ho) h
      · exact (hq _ _ h).elim
    · rename_i hw
      rw [if_neg hw] at h
      exact ⟨fun _ _ => trivial, h⟩
theorem wpAny_in {P : Program} {ops : Array Oper} {Q : Exit → Act → World → Prop} {l : Nat} {md : Region.Mode} (hok : RdOk (some l) ops Q) : ∀ (fuel : Nat) (listed : Array Bool) (a : Act) (w : World), wpAny P md ops Q fuel listed a w → wpAnyIn (rnd (some l)) 0 P md ops Q fuel listed a w
  | 0, _, _, _, h => h
  | fuel + 1, _, _, _, h => ⟨h.1, fun i hi => wpOpIn_mono (fun a' w' h' => wpAny_in hok fuel _ a' w' h') (wpOp_in hok (h.2 i hi))⟩
theorem wpList_in {P : Program} {ops : Array Oper} {Q : Exit → Act → World → Prop} {l : Nat} (hq : ∀ a w, ¬ Q .outgrown a w) : ∀ (L : List Oper) (a : Act) (w : World), noDefer L.toArray = true → wpList P ops Q L a w → wpListIn (rnd (some l)) 0 P ops Q L a w
  | [], _, _, _, h => h
  | o :: L, a, w, hd, h => by
    have hd1 : ∀ c, o.op ≠ .defer c := noDefer_spec (ops := (o :: L).toArray) hd (i := 0) rfl
    have hd2 : noDefer L.toArray = true := by
      simp only [noDefer, List.all_toArray, List.all_cons, Bool.and_eq_true] at hd ⊢
      exact hd.2
    unfold wpList at h
    unfold wpListIn
    split
    · rename_i hw
      rw [if_pos hw] at h
      rcases h with h | ⟨_, a', w', h⟩
      · exact wp_in hd1 (Oper.wp_mono (fun a' w' h' => wpList_in hq L a' w' hd2 h') h)
      · exact (hq _ _ h).elim
    · rename_i hw
      rw [if_neg hw] at h
      exact ⟨fun _ _ => trivial, wpList_in hq L _ _ hd2 h⟩
def CW {rd : Option Nat} (P : Program) (n : Nat) (c : Code) (Q : Exit → Act → World → Prop) (env : Env) (w : World) : Prop := ∀ a, Real n env a → wpx rd P c Q a w
def LW (P : Program) (n : Nat) (ops : Array Oper) (Q : Exit → Act → World → Prop) (rest : List Oper) (env : Env) (w : World) : Prop := ∀ a, Real n env a → wpList P ops Q rest a w
/-- What a way out asks, of any frame that bears these temporaries. -/
def EW (n : Nat) (Q : Exit → Act → World → Prop) (e : Exit) (env : Env) (w : World) : Prop := ∀ a, Real n env a → Q e a w

section
variable {P : Program} {n : Nat} {Q : Exit → Act → World → Prop} {env : Env} {w : World} {rd : Option Nat}

theorem enter {f : FuncId} {fn : Func} {c : Code} {args : List Value} {R : Ending → World → Prop} (hf : P.funcs[f]? = some fn) (hb : fn.body = some c) (hn : fn.ntmps = n) (hs : Nat.ble args.length n = true)
    (h : CW (rd := none) P n c (bodyPost P fn R) (argsEnv args 0) w) : Calls P f args.toArray w R :=
  calls_of_wp hf hb (by subst hn; exact h _ (real_start args _ hs))

/-- The post of a sequence, of a block: as Bools reckon them. -/
def inB (id : Nat) (Q : Exit → Act → World → Prop) : Exit → Act → World → Prop
  | .exit id', a, w => cond (Nat.beq id' id) (Q .normal a w) (Q (.exit id') a w)
  | e, a, w => Q e a w
theorem inB_inBlock (id : Nat) (Q : Exit → Act → World → Prop) : ∀ e a w, inB id Q e a w → Exit.inBlock id Q e a w := by
  intro e a w h
  cases e with
  | exit id' =>
    simp only [inB, Exit.inBlock] at h ⊢
    by_cases he : id' = id
    · subst he; simpa using h
    · have : Nat.beq id' id = false := by
        cases hb : Nat.beq id' id with
        | false => rfl
        | true => exact absurd (Nat.eq_of_beq_eq_true hb) he
      rw [this] at h
      simpa [he] using h
  | _ => exact h

theorem CW.mono {Q' : Exit → Act → World → Prop} {c : Code} (h : CW (rd := rd) P n c Q env w) (hq : ∀ e a w, Q e a w → Q' e a w) : CW (rd := rd) P n c Q' env w := fun a ha => wpx_mono hq (h a ha)
theorem CW.seq {x y : Code} (h : CW (rd := rd) P n x (Exit.then (wpx rd P y Q) Q) env w) : CW (rd := rd) P n (.seq x y) Q env w := fun a ha => by
  cases rd with
  | none => exact wp_seq (h a ha)
  | some l => exact wpIn_seq (h a ha)
theorem CW.block {id : Nat} {c : Code} (h : CW (rd := rd) P n c (inB id Q) env w) : CW (rd := rd) P n (.block id c) Q env w := fun a ha => by
  cases rd with
  | none => exact wp_block (Code.wp_mono (inB_inBlock id Q) (h a ha))
  | some l => exact wpIn_block (Go.wpIn_mono (h a ha) (inB_inBlock id Q))
theorem CW.skip (h : EW n Q .normal env w) : CW (rd := rd) P n .skip Q env w := fun a ha => by
  cases rd with
  | none => exact wp_skip (h a ha)
  | some l => exact wpIn_skip (h a ha)
theorem CW.exit {id : Nat} (h : EW n Q (.exit id) env w) : CW (rd := rd) P n (.exit id) Q env w := fun a ha => by
  cases rd with
  | none => exact wp_exit (h a ha)
  | some l => exact wpIn_exit (h a ha)
theorem CW.ret (h : EW n Q .ret env w) : CW (rd := rd) P n .ret Q env w := fun a ha => by
  cases rd with
  | none => exact wp_ret (h a ha)
  | some l => exact wpIn_ret (h a ha)
theorem CW.label {l : Nat} (h : EW n Q .normal env w) : CW (rd := rd) P n (.label l) Q env w := fun a ha => by
  cases rd with
  | none => exact wp_label (h a ha)
  | some l => exact wpIn_label (h a ha)
theorem CW.goto {l : Nat} (h : EW n Q (.goto l) env w) : CW (rd := rd) P n (.goto l) Q env w := fun a ha => by
  cases rd with
  | none => exact wp_goto (h a ha)
  | some l => exact wpIn_goto (h a ha)
theorem CW.yes {c : Operand} {x y : Code} (hc : evo env c = some (.bool true)) (h : CW (rd := rd) P n x Q env w) : CW (rd := rd) P n (.cond c x y) Q env w := fun a ha => by
  cases rd with
  | none => exact wp_cond_true (ha.e hc) (h a ha)
  | some l => exact wpIn_cond_true (ha.e hc) (h a ha)
theorem CW.no {c : Operand} {x y : Code} (hc : evo env c = some (.bool false)) (h : CW (rd := rd) P n y Q env w) : CW (rd := rd) P n (.cond c x y) Q env w := fun a ha => by
  cases rd with
  | none => exact wp_cond_false (ha.e hc) (h a ha)
  | some l => exact wpIn_cond_false (ha.e hc) (h a ha)
theorem CW.sub {env' : Env} {c : Code} (hs : Sub env' env) (h : CW (rd := rd) P n c Q env' w) : CW (rd := rd) P n c Q env w := fun a ha => h a (ha.sub hs)
theorem EW.sub {env' : Env} {e : Exit} (hs : Sub env' env) (h : EW n Q e env' w) : EW n Q e env w := fun a ha => h a (ha.sub hs)
theorem CW.region {id : Nat} {l : List Oper} (h : LW P n l.toArray Q l env w) (hr : RdOk rd l.toArray Q := by first | exact .inl rfl | exact .inr ⟨by kernel_rfl, fun _ _ h => h⟩) : CW (rd := rd) P n (.region id l.toArray false) Q env w := fun a ha => by
  cases rd with
  | none => exact wp_region_lit (h a ha)
  | some r =>
    rcases hr with hr | hr
    · cases hr
    · exact wpIn_region_lit (wpList_in hr.2 l a w hr.1 (h a ha))
theorem LW.nil {ops : Array Oper} (h : EW n Q .normal env w) : LW P n ops Q [] env w := fun a ha => wpList_nil (h a ha)
theorem EW.then {y : Code} (h : CW (rd := rd) P n y Q env w) : EW n (Exit.then (wpx rd P y Q) Q) .normal env w := h
theorem EW.then_ret {N : Act → World → Prop} (h : EW n Q .ret env w) : EW n (Exit.then N Q) .ret env w := h
theorem EW.then_exit {N : Act → World → Prop} {id : Nat} (h : EW n Q (.exit id) env w) : EW n (Exit.then N Q) (.exit id) env w := h
theorem EW.inB_normal {id : Nat} (h : EW n Q .normal env w) : EW n (inB id Q) .normal env w := h
theorem EW.inB_ret {id : Nat} (h : EW n Q .ret env w) : EW n (inB id Q) .ret env w := h
theorem EW.inB_same {id : Nat} (h : EW n Q .normal env w) : EW n (inB id Q) (.exit id) env w := fun a ha => by
  have := h a ha
  simpa [inB] using this
theorem EW.inB_other {id id' : Nat} (hne : Nat.beq id' id = false) (h : EW n Q (.exit id') env w) : EW n (inB id Q) (.exit id') env w := fun a ha => by
  have := h a ha
  simpa [inB, hne] using this
/-- The round's end. -/
theorem EW.round {α : Type} {I : α → Env → World → Prop} {μ : α → Nat} {x : α} (y : α) (h : I y env w) (hm : μ y < μ x) : EW n (Exit.then (fun a' w' => ∃ y env', Real n env' a' ∧ I y env' w' ∧ μ y < μ x) Q) .normal env w :=
  fun _ ha => ⟨y, env, ha, h, hm⟩

/-- A loop, by a relation on temporaries and world that each round keeps, and a measure. -/
theorem CW.loop {c : Code} {α : Type} (I : α → Env → World → Prop) (μ : α → Nat) (x0 : α) (h0 : I x0 env w)
    (round : ∀ x env w, I x env w → CW (rd := rd) P n c (Exit.then (fun a' w' => ∃ y env', Real n env' a' ∧ I y env' w' ∧ μ y < μ x) Q) env w) : CW (rd := rd) P n (.loop c) Q env w := by
  cases rd with
  | none =>
    intro a ha b kk cs
    have key : ∀ k x env w a, μ x = k → I x env w → Real n env a →
        ∃ e a' w', Q e a' w' ∧ Arrives P (lone (b.at a (.code c :: .inLoop c :: kk)) cs w) b kk cs e a' w' := by
      intro k
      induction k using Nat.strongRecOn with
      | _ k ih =>
        intro x env w a hk hI ha
        obtain ⟨e, a₁, w₁, hq, harr⟩ := round x env w hI a ha b (.inLoop c :: kk) cs
        cases e with
        | normal =>
          obtain ⟨y, env', hr, hI', hlt⟩ := hq
          obtain ⟨e₂, a₂, w₂, hq₂, harr₂⟩ := ih (μ y) (hk ▸ hlt) y env' w₁ a₁ rfl hI' hr
          exact ⟨e₂, a₂, w₂, hq₂, .of_steps (Steps.trans harr (.one step_inLoop)) harr₂⟩
        | exit id => exact ⟨_, a₁, w₁, hq, .pass (x := .inLoop c) rfl (fun _ _ => .inl (by simp)) harr⟩
        | goto l => exact ⟨_, a₁, w₁, hq, .pass (x := .inLoop c) rfl (fun _ _ => .inl (by simp)) harr⟩
        | ret => exact ⟨_, a₁, w₁, hq, .pass (x := .inLoop c) rfl (fun _ _ => .inl (by simp)) harr⟩
        | panic ch => exact ⟨_, a₁, w₁, hq, .pass (x := .inLoop c) rfl (fun _ _ => .inl (by simp)) harr⟩
        | outgrown => exact ⟨_, a₁, w₁, hq, .pass (x := .inLoop c) rfl (fun _ _ => .inl (by simp)) harr⟩
    obtain ⟨e, a', w', hq, harr⟩ := key _ x0 env w a rfl h0 ha
    exact ⟨e, a', w', hq, .of_steps (.one step_loop) harr⟩
  | some l =>
    intro a ha b kk cs hro hb hr
    have key : ∀ k x env w a, μ x = k → I x env w → Real n env a →
        ∃ e a' w', Q e a' w' ∧ ArrivesIn (Machine.fenced P (rnd (some l))) P (lone (b.atR a (.code c :: .inLoop c :: kk)) cs w) b kk cs e a' w' := by
      intro k
      induction k using Nat.strongRecOn with
      | _ k ih =>
        intro x env w a hk hI ha
        obtain ⟨e, a₁, w₁, hq, harr⟩ := round x env w hI a ha b (.inLoop c :: kk) cs hro hb hr
        cases e with
        | normal =>
          obtain ⟨y, env', hr', hI', hlt⟩ := hq
          obtain ⟨e₂, a₂, w₂, hq₂, harr₂⟩ := ih (μ y) (hk ▸ hlt) y env' w₁ a₁ rfl hI' hr'
          exact ⟨e₂, a₂, w₂, hq₂, .of_steps (StepsIn.trans harr (.one (fenced_calm hb hr rfl) stepR_inLoop)) harr₂⟩
        | exit id => exact ⟨_, a₁, w₁, hq, .pass (x := .inLoop c) rfl (fun _ _ => .inl (by simp)) harr⟩
        | goto l => exact ⟨_, a₁, w₁, hq, .pass (x := .inLoop c) rfl (fun _ _ => .inl (by simp)) harr⟩
        | ret => exact ⟨_, a₁, w₁, hq, .pass (x := .inLoop c) rfl (fun _ _ => .inl (by simp)) harr⟩
        | panic ch => exact ⟨_, a₁, w₁, hq, .pass (x := .inLoop c) rfl (fun _ _ => .inl (by simp)) harr⟩
        | outgrown => exact ⟨_, a₁, w₁, hq, .pass (x := .inLoop c) rfl (fun _ _ => .inl (by simp)) harr⟩
    obtain ⟨e, a', w', hq, harr⟩ := key _ x0 env w a rfl h0 ha
    exact ⟨e, a', w', hq, .of_steps (.one (fenced_calm hb hr rfl) stepR_loop) harr⟩

/-- A scope in which the run goes back to one label. -/
theorem CW.scopeJ {c rest : Code} (l : Nat) {α : Type} (I : α → Env → World → Prop) (μ : α → Nat) (hf : findLabel c l = some (.seq .skip rest))
    (pass0 : ∀ x env w, I x env w → CW (rd := none) P n rest (Exit.jump l (fun a' w' => ∃ y env', Real n env' a' ∧ I y env' w' ∧ μ y < μ x) Q) env w)
    (first : (∀ x env w, I x env w → CW (rd := none) P n rest (Exit.jump l (fun a' w' => ∃ y env', Real n env' a' ∧ I y env' w') Q) env w) → CW (rd := none) P n c (Exit.jump l (fun a' w' => ∃ y env', Real n env' a' ∧ I y env' w') Q) env w) : CW (rd := none) P n (.scope c) Q env w := by
  have pass : ∀ x env w, I x env w → CW (rd := none) P n (.seq .skip rest) (Exit.jump l (fun a' w' => ∃ y env', Real n env' a' ∧ I y env' w' ∧ μ y < μ x) Q) env w := fun x env w hI => CW.seq (CW.skip (pass0 x env w hI))
  have hfirst := first fun x env w hI => (pass0 x env w hI).mono fun e a w h => by
    cases e with
    | goto l' => obtain ⟨h1, y, env', h2, h3, _⟩ := h; exact ⟨h1, y, env', h2, h3⟩
    | _ => exact h
  intro a ha b k cs
  have hg : gotoIn l (.inScope c :: k) = some (.code (.seq .skip rest) :: .inScope c :: k) := by simp [gotoIn, hf]
  have key : ∀ m x env w a, μ x = m → I x env w → Real n env a → ∃ e a' w', Q e a' w' ∧ Arrives P (lone (b.at a (.code (.seq .skip rest) :: .inScope c :: k)) cs w) b k cs e a' w' := by
    intro m
    induction m using Nat.strongRecOn with
    | _ m ih =>
      intro x env w a hm hJ ha
      obtain ⟨e, a₁, w₁, hq, harr⟩ := pass x env w hJ a ha b (.inScope c :: k) cs
      cases e with
      | normal => exact ⟨.normal, a₁, w₁, hq, Steps.trans harr (.one step_inScope)⟩
      | exit id => exact ⟨.exit id, a₁, w₁, hq, fun k' hk => harr k' (by simp [exitTo, hk])⟩
      | goto l' =>
        obtain ⟨rfl, y, env', hr, hJ', hlt⟩ := hq
        obtain ⟨e₂, a₂, w₂, hq₂, harr₂⟩ := ih (μ y) (hm ▸ hlt) y env' w₁ a₁ rfl hJ' hr
        exact ⟨e₂, a₂, w₂, hq₂, .of_steps (harr _ hg) harr₂⟩
      | ret => exact ⟨_, a₁, w₁, hq, harr⟩
      | panic ch => exact ⟨_, a₁, w₁, hq, harr⟩
      | outgrown => exact ⟨_, a₁, w₁, hq, harr⟩
  obtain ⟨e, a₁, w₁, hq, harr⟩ := hfirst a ha b (.inScope c :: k) cs
  cases e with
  | normal => exact ⟨.normal, a₁, w₁, hq, .head step_scope (Steps.trans harr (.one step_inScope))⟩
  | exit id => exact ⟨.exit id, a₁, w₁, hq, fun k' hk => .head step_scope (harr k' (by simp [exitTo, hk]))⟩
  | goto l' =>
    obtain ⟨rfl, y, env', hr, hJ'⟩ := hq
    obtain ⟨e₂, a₂, w₂, hq₂, harr₂⟩ := key _ y env' w₁ a₁ rfl hJ' hr
    exact ⟨e₂, a₂, w₂, hq₂, .of_steps (.head step_scope (harr _ hg)) harr₂⟩
  | ret => exact ⟨_, a₁, w₁, hq, .of_steps (.one step_scope) harr⟩
  | panic ch => exact ⟨_, a₁, w₁, hq, .of_steps (.one step_scope) harr⟩
  | outgrown => exact ⟨_, a₁, w₁, hq, .of_steps (.one step_scope) harr⟩
theorem EW.jump {l : Nat} {J : Act → World → Prop} (h : EW n (fun _ a w => J a w) .normal env w) : EW n (Exit.jump l J Q) (.goto l) env w := fun a ha => ⟨rfl, h a ha⟩
theorem EW.jump_ret {l : Nat} {J : Act → World → Prop} (h : EW n Q .ret env w) : EW n (Exit.jump l J Q) .ret env w := h
theorem EW.jump_normal {l : Nat} {J : Act → World → Prop} (h : EW n Q .normal env w) : EW n (Exit.jump l J Q) .normal env w := h
theorem EW.then_goto {N : Act → World → Prop} {l : Nat} (h : EW n Q (.goto l) env w) : EW n (Exit.then N Q) (.goto l) env w := h
theorem EW.inB_goto {id l : Nat} (h : EW n Q (.goto l) env w) : EW n (inB id Q) (.goto l) env w := h
end
end Go.Sd
