/-
  sidingslaw09.LinearCut, whatever the input: it returns true, and the input reads as it did. No condition.
-/
import Derived.Test.YtgkbmelecalllaaSfR
import Derived.Test.YtgkbmelecalllaaSeX
set_option linter.unusedSimpArgs false
set_option linter.unusedVariables false
namespace Go.Proofs.Ytgkbmelecalllaa
open Go.ChangeShapes Go.WideShapes Go.ChangeAt Go.RowKit Go.Sd

set_option maxRecDepth 100000 in
theorem linCut_lifted (os : Os) (started : os.Started) (H : Type) (enc : TypeId × Value → H) :
    ReturnsInHanded {} Try.checked os 6 .any (Rows.linearCutSpec.pre6 enc Try.prog Try.f6 Rows.linearCutRow.domain false) (Rows.linearCutSpec.post enc Try.prog Try.f6 false true false false) := by
  refine returnsInHanded_of_change (C := Try.checked) own_ started (by kernel_rfl) Try.func6
    (ChangeSpec.witness6 (enc := enc) (C := Try.checked) false ⟨#[], #[.slice none 0 0, .int .i64 0], []⟩ 8 (by kernel_rfl) (by kernel_rfl) (by kernel_rfl) (by kernel_rfl)) ?_
  intro W base args ds gs before hval0 hW hcnd _
  have hval : ∀ (j : Nat) t v, Try.f6.params[j]? = some t → args[j]? = some v → Value.okWide Try.prog W .any base t v := hval0
  have hW' := hW
  obtain ⟨p, q, hA0, hV, rfl, hfz, hnd⟩ := hW
  have hA : DataW.TrodAll enc Try.prog W 0 (fun _ => true) true Try.f6.params.toList args.toList ds p := hA0
  rw [Try.params6] at hA hval
  obtain ⟨v0, v1, d0, d1, p0, p1, rfl, rfl, rfl, h0, h1⟩ := trodAll_two hA
  obtain ⟨rfl, rfl⟩ := trodVars_none hV
  have hok0 := hval 0 22 v0 rfl rfl
  have hok1 := hval 1 3 v1 rfl rfl
  have k0 := h0
  have k1 := h1
  obtain ⟨a, n, cc, l, rfl, hs, hb⟩ := events_of h0 hok0
  obtain ⟨at_, rfl, _, _, wat⟩ := open_int Try.underlying3 hok1 h1
  clear hA0 hval0
  letI := strOf W
  refine (x_cut (allF W) a n cc l hs hb at_ W (own_all W)).mono fun e W' he => ?_
  cases e with
  | panicked c => exact he.elim
  | outgrown => exact he.elim
  | returned v =>
    obtain ⟨rfl, hO⟩ := he
    have hlt : ∀ x ∈ (p0 ++ p1) ++ [], x.block < W.heap.size := fun x hx => hW'.lt x hx
    refine ⟨_, rfl, _, _, _, [], p0 ++ p1, [], hW', trodAll_mk1 (shut_bool Try.underlying4 true), ?_, rfl, kept_of hO _, fun h => by cases h⟩
    exact trodAll_mk2
      (WideElems.Trod_stays laid_ (by kernel_rfl) (of_decide_eq_true (by kernel_rfl)) k0 (fun x hx => sameAt_of hO (hlt x (by simp [hx]))) (fun x hx => by simpa using hlt x (by simp [hx])))
      (WideElems.Trod_stays laid_ (by kernel_rfl) (of_decide_eq_true (by kernel_rfl)) k1 (fun x hx => sameAt_of hO (hlt x (by simp [hx]))) (fun x hx => by simpa using hlt x (by simp [hx])))

theorem linCut_holds : Rows.LinearCutSaid :=
  OpenClaim.holds_of_wide 6 Try.f6 rfl rfl rfl rfl rfl rfl rfl ⟨rfl, rfl, rfl, rfl, rfl⟩ rfl rfl rfl rfl rfl (by kernel_rfl) Try.func6 (by kernel_rfl)
    (of_decide_eq_true (by kernel_rfl)) (by unfold Func.isWrapper; first | (rw [if_pos (by decide +kernel)]; kernel_rfl) | (rw [if_neg (by decide +kernel)]; exact ⟨rfl, rfl⟩))
    (fun os started H enc _ => linCut_lifted os started H enc)
#print axioms linCut_holds
end Go.Proofs.Ytgkbmelecalllaa
