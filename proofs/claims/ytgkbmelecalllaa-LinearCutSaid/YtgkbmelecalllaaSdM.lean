/-
  The model of handles, in plain words: the document's map as lists; what its functions come to.
-/
import Derived.Test.YtgkbmelecalllaaSd5
set_option linter.unusedSectionVars false
set_option linter.unusedSimpArgs false
set_option linter.unusedVariables false
namespace Go.Sd
open Go
variable [Str]

abbrev encI : Int → List Value := fun x => [Value.int .i64 x]
/-- An object of the document's map: its handle, its bytes (and where they lie), how often it is pinned. -/
structure Thing where
  h : Int
  a : Option Addr
  c : Nat
  b : List Int
  pins : Int
def encT (t : Thing) : List Value := [.int .i64 t.h, .slice t.a t.b.length t.c, .int .i64 t.pins]

/-- Where an object lies. -/
inductive Found (L : List Thing) (h : Int) : Option (Nat × Thing) → Prop
  | no (hn : ∀ t ∈ L, t.h ≠ h) : Found L h none
  | yes {k : Nat} {t : Thing} (hk : L[k]? = some t) (he : t.h = h) (hb : ∀ j u, j < k → L[j]? = some u → u.h ≠ h) : Found L h (some (k, t))

/-- A handle, made. -/
def makeH (s g : Int) : Int × Int := if s < 0 ∨ 63 < s ∨ g < 0 ∨ 1000 < g then (0, 1) else (s + 1048576 * g + 1099511627776, 0)

def findT (L : List Thing) (h : Int) : Option Thing := L.find? (fun t => decide (t.h = h))
theorem findT_none {L : List Thing} {h : Int} (hb : ∀ j u, j < L.length → L[j]? = some u → u.h ≠ h) : findT L h = none := by
  unfold findT
  rw [List.find?_eq_none]
  intro t ht
  obtain ⟨j, hj, e⟩ := List.getElem_of_mem ht
  simpa using hb j t hj (by rw [← e]; exact List.getElem?_eq_getElem hj)
theorem findT_some : ∀ {L : List Thing} {h : Int} {k : Nat} {t : Thing}, L[k]? = some t → t.h = h → (∀ j u, j < k → L[j]? = some u → u.h ≠ h) → findT L h = some t
  | [], _, _, _, hk, _, _ => by simp at hk
  | x :: xs, h, 0, t, hk, he, _ => by
    simp only [List.getElem?_cons_zero, Option.some.injEq] at hk
    subst hk
    simp [findT, he]
  | x :: xs, h, k + 1, t, hk, he, hb => by
    have h0 := hb 0 x (by omega) rfl
    have := findT_some (L := xs) (by simpa using hk) he (fun j u hj hu => hb (j + 1) u (by omega) (by simpa using hu))
    simp only [findT] at this ⊢
    simp [h0, this]

/-- What the document's map answers: a code, a number; is it told at all? -/
def ansT (L : List Thing) (d h off n : Int) : Int × Int × Bool :=
  if d = 0 then (if n < 1 ∨ 256 < n then (9, 0, true) else (0, 0, false))
  else if d < 0 ∨ 5 < d then (1, 0, true)
  else match findT L h with
    | none => (4, 0, true)
    | some x =>
      if d = 1 then (if 0 < x.pins then (6, 0, true) else (0, 0, true))
      else if d = 2 ∨ d = 3 then
        (if off < 0 ∨ (x.b.length : Int) ≤ off then (5, 0, true) else if d = 2 then (0, x.b.getD off.toNat 0, true) else (0, 0, true))
      else if d = 4 then (if x.pins = 7 then (7, 0, true) else (0, 0, true))
      else (if x.pins = 0 then (8, 0, true) else (0, 0, true))

theorem Sl.len' {α : Type} {G : Seg} {sz : Nat} {enc : α → List Value} {a : Option Addr} {len cap : Nat} {xs : List α} (h : Sl G sz enc a len cap xs) : (len : Int) = xs.length := by rw [h.hlen]

/-- Is a number a handle? -/
def isHandle (h : Int) : Bool := decide (1099511627776 ≤ h ∧ (h - 1099511627776) / 1048576 ≤ 1000 ∧ (h - 1099511627776) % 1048576 ≤ 63)
/-- A handle, split. -/
def splitH (h : Int) : Int × Int × Bool := if isHandle h then ((h - 1099511627776) % 1048576, (h - 1099511627776) / 1048576, true) else (0, 0, false)
theorem make0 {i : Nat} (hi : i ≤ 1000) : makeH 0 (i : Int) = (1048576 * (i : Int) + 1099511627776, 0) := by
  unfold makeH
  rw [if_neg (by omega)]
  simp
theorem split_at {h : Int} {i : Nat} (hi : i ≤ 1000) (h1 : 1048576 * (i : Int) + 1099511627776 ≤ h) (h2 : h ≤ 1048576 * (i : Int) + 1099511627776 + 63) : splitH h = (h - (1048576 * (i : Int) + 1099511627776), (i : Int), true) := by
  have e1 : (h - 1099511627776) / 1048576 = i := by omega
  have e2 : (h - 1099511627776) % 1048576 = h - (1048576 * (i : Int) + 1099511627776) := by omega
  have : isHandle h = true := by simp [isHandle, e1, e2]; omega
  simp [splitH, this, e1, e2]
theorem split_no {h : Int} (hb : ∀ j : Nat, j ≤ 1000 → ¬ (1048576 * (j : Int) + 1099511627776 ≤ h ∧ h ≤ 1048576 * (j : Int) + 1099511627776 + 63)) : splitH h = (0, 0, false) := by
  have : isHandle h = false := by
    simp only [isHandle, decide_eq_false_iff_not]
    rintro ⟨h1, h2, h3⟩
    exact hb ((h - 1099511627776) / 1048576).toNat (by omega) (by omega)
  simp [splitH, this]

/-! putting an object in -/
def putS (x : Thing) (s : List Thing × Bool) (t : Thing) : List Thing × Bool :=
  ((if t.h = x.h then (if s.2 = false ∧ x.h ≤ t.h then s.1 ++ [x] else s.1) else (if s.2 = false ∧ x.h ≤ t.h then s.1 ++ [x] else s.1) ++ [t]), s.2 || decide (x.h ≤ t.h))
def putI (x : Thing) (L : List Thing) (i : Nat) : List Thing × Bool := (L.take i).foldl (putS x) ([], decide ((x.b.length : Int) = 0))
def putT (x : Thing) (L : List Thing) : List Thing := if (putI x L L.length).2 then (putI x L L.length).1 else (putI x L L.length).1 ++ [x]
theorem putI_succ {x : Thing} {L : List Thing} {i : Nat} {t : Thing} (h : L[i]? = some t) : putI x L (i + 1) = putS x (putI x L i) t := by
  unfold putI
  rw [List.take_add_one, h]
  simp
theorem putI_len {x : Thing} {L : List Thing} : ∀ {i : Nat} {out : List Thing} {laid : Bool}, putI x L i = (out, laid) → i ≤ L.length → out.length ≤ i + (if laid then 1 else 0)
  | 0, out, laid, h, _ => by simp [putI] at h; simp [h.1]
  | i + 1, out, laid, h, hi => by
    obtain ⟨t, ht⟩ : ∃ t, L[i]? = some t := ⟨_, List.getElem?_eq_getElem (by omega)⟩
    rw [putI_succ ht] at h
    cases e : putI x L i with
    | mk o l =>
      have ih := putI_len e (by omega)
      rw [e] at h
      simp only [putS, Prod.mk.injEq] at h
      obtain ⟨rfl, rfl⟩ := h
      cases l <;> by_cases h1 : t.h = x.h <;> by_cases h2 : x.h ≤ t.h <;> simp [h1, h2] at ih ⊢ <;> omega
/-! telling a handle -/
def tellS (h : Int) (s : List Int × Bool) (t : Int) : List Int × Bool := ((if s.2 = false ∧ h < t then s.1 ++ [h] else s.1) ++ [t], s.2 || decide (h < t))
def tellI (h : Int) (T : List Int) (i : Nat) : List Int × Bool := (T.take i).foldl (tellS h) ([], false)
def tellT (h : Int) (T : List Int) : List Int := if (tellI h T T.length).2 then (tellI h T T.length).1 else (tellI h T T.length).1 ++ [h]
theorem tellI_succ {h : Int} {T : List Int} {i : Nat} {t : Int} (hk : T[i]? = some t) : tellI h T (i + 1) = tellS h (tellI h T i) t := by
  unfold tellI
  rw [List.take_add_one, hk]
  simp
theorem tellI_len {h : Int} {T : List Int} : ∀ {i : Nat} {out : List Int} {laid : Bool}, tellI h T i = (out, laid) → i ≤ T.length → out.length = i + (if laid then 1 else 0)
  | 0, out, laid, e, _ => by simp [tellI] at e; simp [e.1, e.2]
  | i + 1, out, laid, e, hi => by
    obtain ⟨t, ht⟩ : ∃ t, T[i]? = some t := ⟨_, List.getElem?_eq_getElem (by omega)⟩
    rw [tellI_succ ht] at e
    cases e' : tellI h T i with
    | mk o l =>
      have ih := tellI_len e' (by omega)
      rw [e'] at e
      simp only [tellS, Prod.mk.injEq] at e
      obtain ⟨rfl, rfl⟩ := e
      cases l <;> by_cases h2 : h < t <;> simp [h2] at ih ⊢ <;> omega
/-- Are two lists the same? -/
def same (a b : List Int) : Bool := decide (a = b)
theorem same_no {a b : List Int} {i : Nat} {x y : Int} (h1 : a[i]? = some x) (h2 : b[i]? = some y) (h : x ≠ y) : a ≠ b := by
  rintro rfl
  rw [h1] at h2
  exact h (by simpa using h2)
theorem same_yes {a b : List Int} (hl : a.length = b.length) (h : ∀ j x y, j < a.length → a[j]? = some x → b[j]? = some y → x = y) : a = b := by
  apply List.ext_getElem hl
  intro j h1 h2
  exact h j _ _ h1 (List.getElem?_eq_getElem h1) (List.getElem?_eq_getElem h2)

/-! what an op asks, and what is answered -/
theorem ansT_none {L : List Thing} {d h off n : Int} (hf : findT L h = none) (hi : (ansT L d h off n).2.2 = true) : (ansT L d h off n).1 ≠ 0 := by
  unfold ansT at *
  simp only [hf] at *
  by_cases h1 : d = 0
  · simp only [h1, if_true] at hi ⊢
    by_cases h2 : n < 1 ∨ 256 < n
    · simp [h2]
    · simp [h2] at hi
  · by_cases h2 : d < 0 ∨ 5 < d
    · simp [h1, h2]
    · simp [h1, h2]
theorem ansT_some {L : List Thing} {d h off n : Int} {x : Thing} (hf : findT L h = some x) (hi : (ansT L d h off n).2.2 = true) (h0 : (ansT L d h off n).1 = 0) :
    1 ≤ d ∧ d ≤ 5 ∧ (d = 1 → x.pins ≤ 0) ∧ (d = 2 ∨ d = 3 → 0 ≤ off ∧ off < x.b.length) ∧ (d = 4 → x.pins ≠ 7) ∧ (d = 5 → x.pins ≠ 0) := by
  unfold ansT at *
  simp only [hf] at *
  repeat' split at hi
  all_goals simp_all
  all_goals omega
theorem ansT_fresh {L : List Thing} {d h off n : Int} (hi : (ansT L d h off n).2.2 = false) : d = 0 ∧ 1 ≤ n ∧ n ≤ 256 := by
  unfold ansT at hi
  repeat' split at hi
  all_goals simp_all
theorem tmod_bounds (n : Int) : -256 < n.tmod 256 ∧ n.tmod 256 < 256 := by
  rw [Int.tmod_eq_emod]
  split <;> omega
theorem byte_tmod (n : Int) : (n.tmod 256 + 256).tmod 256 = n % 256 := by
  rw [Int.tmod_eq_emod, Int.tmod_eq_emod]
  have := tmod_bounds n
  rw [Int.tmod_eq_emod] at this
  repeat' split
  all_goals omega
/-! the document's map, without the places where its bytes lie -/
structure PT where
  h : Int
  b : List Int
  pins : Int
deriving DecidableEq
def Thing.p (t : Thing) : PT := ⟨t.h, t.b, t.pins⟩
def findP (L : List PT) (h : Int) : Option PT := L.find? (fun t => decide (t.h = h))
theorem findP_map (L : List Thing) (h : Int) : findP (L.map Thing.p) h = (findT L h).map Thing.p := by
  unfold findP findT
  rw [List.find?_map]
  rfl
def ansP (L : List PT) (d h off n : Int) : Int × Int × Bool :=
  if d = 0 then (if n < 1 ∨ 256 < n then (9, 0, true) else (0, 0, false))
  else if d < 0 ∨ 5 < d then (1, 0, true)
  else match findP L h with
    | none => (4, 0, true)
    | some x =>
      if d = 1 then (if 0 < x.pins then (6, 0, true) else (0, 0, true))
      else if d = 2 ∨ d = 3 then
        (if off < 0 ∨ (x.b.length : Int) ≤ off then (5, 0, true) else if d = 2 then (0, x.b.getD off.toNat 0, true) else (0, 0, true))
      else if d = 4 then (if x.pins = 7 then (7, 0, true) else (0, 0, true))
      else (if x.pins = 0 then (8, 0, true) else (0, 0, true))
theorem ansT_p (L : List Thing) (d h off n : Int) : ansT L d h off n = ansP (L.map Thing.p) d h off n := by
  unfold ansT ansP
  rw [findP_map]
  cases findT L h <;> rfl
def putSP (x : PT) (s : List PT × Bool) (t : PT) : List PT × Bool :=
  ((if t.h = x.h then (if s.2 = false ∧ x.h ≤ t.h then s.1 ++ [x] else s.1) else (if s.2 = false ∧ x.h ≤ t.h then s.1 ++ [x] else s.1) ++ [t]), s.2 || decide (x.h ≤ t.h))
def putP (x : PT) (L : List PT) : List PT :=
  let r := L.foldl (putSP x) ([], decide ((x.b.length : Int) = 0))
  if r.2 then r.1 else r.1 ++ [x]
theorem putS_p (x : Thing) : ∀ (L : List Thing) (o : List Thing) (l : Bool), (L.map Thing.p).foldl (putSP x.p) (o.map Thing.p, l) = (((L.foldl (putS x) (o, l)).1).map Thing.p, (L.foldl (putS x) (o, l)).2)
  | [], o, l => rfl
  | t :: L, o, l => by
    simp only [List.map_cons, List.foldl_cons]
    have : putSP x.p (o.map Thing.p, l) t.p = ((putS x (o, l) t).1.map Thing.p, (putS x (o, l) t).2) := by
      simp only [putSP, putS, Thing.p]
      cases l <;> by_cases h1 : t.h = x.h <;> by_cases h2 : x.h ≤ t.h <;> simp [h1, h2, Thing.p]
    rw [this]
    exact putS_p x L _ _
theorem putT_p (x : Thing) (L : List Thing) : (putT x L).map Thing.p = putP x.p (L.map Thing.p) := by
  unfold putT putP putI
  have h : (L.map Thing.p).foldl (putSP x.p) ([], decide ((x.p.b.length : Int) = 0)) = _ := putS_p x L [] (decide ((x.b.length : Int) = 0))
  simp only [List.take_length]
  rw [h]
  split
  · rfl
  · simp
def chgP (d off n : Int) (x : PT) : PT :=
  if d = 1 then ⟨x.h, [], x.pins⟩ else if d = 3 then ⟨x.h, x.b.set off.toNat (n % 256), x.pins⟩ else if d = 4 then ⟨x.h, x.b, x.pins + 1⟩ else if d = 5 then ⟨x.h, x.b, x.pins - 1⟩ else x
/-- What the document's map tells of an op and a result, and what it is behind that. -/
def tryP (K : List PT × List Int) (d h off n code num : Int) : Bool × (List PT × List Int) :=
  if (ansP K.1 d h off n).2.2 = false then
    if code = 10 ∨ code = 11 then (decide (num = 0), K)
    else if code = 0 ∧ isHandle num = true ∧ num ∉ K.2 then (true, (putP ⟨num, List.replicate n.toNat 0, 0⟩ K.1, tellT num K.2))
    else (false, K)
  else if (ansP K.1 d h off n).1 = code ∧ (ansP K.1 d h off n).2.1 = num then
    if code = 0 then (true, ((match findP K.1 h with | some x => putP (chgP d off n x) K.1 | none => K.1), K.2)) else (true, K)
  else (false, K)
theorem tryP_ok {L : List Thing} {T : List Int} {d h off n code num : Int} {x : Thing} (hi : (ansT L d h off n).2.2 = true) (he : (ansT L d h off n).1 = code ∧ (ansT L d h off n).2.1 = num) (h0 : code = 0) (hf : findT L h = some x) :
    tryP (L.map Thing.p, T) d h off n code num = (true, (putP (chgP d off n x.p) (L.map Thing.p), T)) := by
  unfold tryP
  rw [← ansT_p]
  simp only [hi, he, h0, and_self, if_true, findP_map, hf, Option.map_some, Bool.true_eq_false, if_false]
theorem tryP_new {L : List Thing} {T : List Int} {d h off n code num : Int} (hi : (ansT L d h off n).2.2 = false) (h0 : code = 0) (hh : isHandle num = true) (hn : num ∉ T) :
    tryP (L.map Thing.p, T) d h off n code num = (true, (putP ⟨num, List.replicate n.toNat 0, 0⟩ (L.map Thing.p), tellT num T)) := by
  unfold tryP
  rw [← ansT_p]
  simp [hi, h0, hh, hn]
theorem Thing.p_eq {t u : Thing} : t.p = u.p ↔ t.h = u.h ∧ t.b = u.b ∧ t.pins = u.pins := by simp [Thing.p]
/-- Are two maps the same? -/
def sameK (K M : List PT × List Int) : Bool := decide (K.1 = M.1 ∧ K.2 = M.2)
theorem things_ne {L M : List Thing} {i : Nat} {x y : Thing} (h1 : L[i]? = some x) (h2 : M[i]? = some y) (h : x.p ≠ y.p) : L.map Thing.p ≠ M.map Thing.p := by
  intro e
  have : (L.map Thing.p)[i]? = (M.map Thing.p)[i]? := by rw [e]
  simp [h1, h2] at this
  exact h this
theorem things_eq {L M : List Thing} (hl : L.length = M.length) (h : ∀ j x y, j < L.length → L[j]? = some x → M[j]? = some y → x.p = y.p) : L.map Thing.p = M.map Thing.p := by
  apply List.ext_getElem (by simp [hl])
  intro j h1 h2
  simp at h1 h2
  simp
  exact h j _ _ h1 (List.getElem?_eq_getElem h1) (List.getElem?_eq_getElem h2)
/-- The document's map in memory. -/
structure KAt (G : Seg) (aL aT : Option Addr) (nL cL nT cT : Nat) (L : List Thing) (T : List Int) : Prop where
  L_ : Sl G 3 encT aL nL cL L
  B_ : ∀ t ∈ L, Sl G 1 encI t.a t.b.length t.c t.b
  T_ : Sl G 1 encI aT nT cT T
  P_ : ∀ t ∈ L, 0 ≤ t.pins ∧ t.pins ≤ 7 ∧ t.b.length ≤ 256
theorem KAt.mono {G G' : Seg} {aL aT : Option Addr} {nL cL nT cT : Nat} {L : List Thing} {T : List Int} (h : KAt G aL aT nL cL nT cT L T) (hs : ∀ p ∈ G, p ∈ G') : KAt G' aL aT nL cL nT cT L T :=
  ⟨h.L_.mono hs, fun t ht => (h.B_ t ht).mono hs, h.T_.mono hs, h.P_⟩

theorem KAt.told {G s : Seg} {aL aT : Option Addr} {nL cL nT cT : Nat} {L : List Thing} {T : List Int} {a : Option Addr} {n c : Nat} {T' : List Int} (h : KAt G aL aT nL cL nT cT L T) (hs : Sl s 1 encI a n c T') : KAt (s ++ G) aL a nL cL n c L T' :=
  ⟨h.L_.mono (fun p hp => List.mem_append_right s hp), fun t ht => (h.B_ t ht).mono (fun p hp => List.mem_append_right s hp), hs.mono (fun p hp => List.mem_append_left G hp), h.P_⟩
theorem KAt.copy {G s s' : Seg} {aL aT : Option Addr} {nL cL nT cT : Nat} {L : List Thing} {T : List Int} {a a' : Option Addr} {n c n' c' : Nat} (h : KAt G aL aT nL cL nT cT L T) (hs : Sl s 3 encT a n c L) (hs' : Sl s' 1 encI a' n' c' T) : KAt ((s ++ s') ++ G) a a' n c n' c' L T :=
  ⟨hs.mono (fun p hp => by simp [hp]), fun t ht => (h.B_ t ht).mono (fun p hp => by simp [hp]), hs'.mono (fun p hp => by simp [hp]), h.P_⟩
theorem made_sl {b n : Nat} {G : Seg} (hm : (b, Obj.cells (List.replicate n (Value.int .i64 0)).toArray 3 (0, 0)) ∈ G) : Sl G 1 encI (some ⟨b, 0, none⟩) (List.replicate n (0 : Int)).length n (List.replicate n (0 : Int)) := by
  refine ⟨rfl, by simp, fun i x hx => ⟨b, 0, rfl, fun j v hj => ⟨_, _, _, hm, ?_⟩⟩⟩
  have hi := (List.getElem?_eq_some_iff.1 hx).1
  simp at hi
  have hx' : x = 0 := by simp [List.getElem?_replicate, hi] at hx; exact hx.symm
  have hjl := (List.getElem?_eq_some_iff.1 hj).1
  simp at hjl
  subst hjl hx'
  simp at hj
  simp [List.getElem?_replicate, hi, hj]
theorem putS_mem {x m u : Thing} {s : List Thing × Bool} (h : u ∈ (putS x s m).1) : u = x ∨ u ∈ s.1 ∨ u = m := by
  unfold putS at h
  by_cases h1 : m.h = x.h <;> by_cases h2 : s.2 = false ∧ x.h ≤ m.h
  all_goals simp only [h1, h2, if_true, if_false] at h
  all_goals (try simp only [List.mem_append, List.mem_singleton] at h)
  all_goals simp_all
  all_goals grind
theorem putT_mem {x : Thing} {L : List Thing} {t : Thing} (h : t ∈ putT x L) : t = x ∨ t ∈ L := by
  have key : ∀ (M : List Thing) (o : List Thing) (l : Bool), (∀ u ∈ (M.foldl (putS x) (o, l)).1, u = x ∨ u ∈ o ∨ u ∈ M) := by
    intro M
    induction M with
    | nil => intro o l u hu; exact .inr (.inl hu)
    | cons m M ih =>
      intro o l u hu
      simp only [List.foldl_cons] at hu
      rcases ih _ _ u hu with h | h | h
      · exact .inl h
      · rcases putS_mem h with h | h | h
        · exact .inl h
        · exact .inr (.inl h)
        · exact .inr (.inr (h ▸ List.mem_cons_self))
      · exact .inr (.inr (List.mem_cons_of_mem _ h))
  unfold putT putI at h
  rw [List.take_length] at h
  split at h
  · rcases key L _ _ t h with h | h | h
    · exact .inl h
    · simp at h
    · exact .inr h
  · rcases List.mem_append.1 h with h | h
    · rcases key L _ _ t h with h | h | h
      · exact .inl h
      · simp at h
      · exact .inr h
    · simp at h; exact .inl h
theorem KAt.put {G s : Seg} {aL aT : Option Addr} {nL cL nT cT : Nat} {L : List Thing} {T : List Int} {x : Thing} {v : Value} (hK : KAt G aL aT nL cL nT cT L T) (hg : Grow 79 3 encT v s (putT x L)) (hx : Sl G 1 encI x.a x.b.length x.c x.b)
    (hp : 0 ≤ x.pins ∧ x.pins ≤ 7 ∧ x.b.length ≤ 256) : ∃ a n c, v = .slice a n c ∧ KAt (s ++ G) a aT n c nT cT (putT x L) T := by
  obtain ⟨a, n, c, hv, hs⟩ := hg.shut (fun _ _ => rfl)
  refine ⟨a, n, c, hv, hs.mono (fun p hp => List.mem_append_left G hp), fun t ht => ?_, hK.T_.mono (fun p hp => List.mem_append_right s hp), fun t ht => ?_⟩
  · rcases putT_mem ht with rfl | h
    · exact hx.mono (fun p hp => List.mem_append_right s hp)
    · exact (hK.B_ t h).mono (fun p hp => List.mem_append_right s hp)
  · rcases putT_mem ht with rfl | h
    · exact hp
    · exact hK.P_ t h
end Go.Sd
