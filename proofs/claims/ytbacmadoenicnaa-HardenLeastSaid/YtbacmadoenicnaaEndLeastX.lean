/- 'palingslaw14.HardenLeast' returns true at every input, and its arguments read as they did; no condition beyond the row's own. -/
import Derived.Test.YtbacmadoenicnaaS18
import Derived.Test.YtbacmadoenicnaaRows
set_option maxRecDepth 2000
namespace Go.Proofs.Ytbacmadoenicnaa.hardenLeast
open Go.ChangeShapes Go.WideShapes Go.ChangeAt Go.RowKit
set_option linter.unusedVariables false
theorem own : ownKnob Try.prog.godebug = none := by kernel_rfl
theorem walk (vs : List Value) (p : Go.Pl.M.Prg) (w : World) (h : Go.Pl.RProg w vs p) :
    Calls Try.prog 5 #[.agg ⟨vs⟩] w fun e w' => e = .returned (.bool true) ∧ Go.Pl.Ext w w' := by
  refine Calls.mono (Go.Pl.Try.least_law_w h) ?_
  rintro e w' ⟨v, rfl, rfl, hx⟩
  exact ⟨rfl, hx⟩
set_option maxRecDepth 100000 in
theorem lifted (os : Os) (started : os.Started) (H : Type) (enc : TypeId × Value → H) :
    ReturnsInHanded {} Try.checked os 5 .any (Rows.hardenLeastSpec.pre6 enc Try.prog Try.f5 Rows.hardenLeastRow.domain false) (Rows.hardenLeastSpec.post enc Try.prog Try.f5 false true false false) := by
  refine returnsInHanded_of_change (C := Try.checked) own started (by kernel_rfl) Try.func5
    (ChangeSpec.witness6 (enc := enc) (C := Try.checked) false ⟨#[], #[.agg #[.slice none 0 0, .slice none 0 0, .int .i64 0]], []⟩ 8 (by kernel_rfl) (by kernel_rfl) (by kernel_rfl) (by kernel_rfl)) ?_
  intro W base args ds gs before hval0 hW hcnd _
  have hval : ∀ (j : Nat) t v, Try.f5.params[j]? = some t → args[j]? = some v → Value.okWide Try.prog W .any base t v := hval0
  have hW' := hW
  obtain ⟨p, q, hA0, hV, rfl, hfz, hnd⟩ := hW
  have hA : DataW.TrodAll enc Try.prog W 0 (fun _ => true) true Try.f5.params.toList args.toList ds p := hA0
  rw [Try.params5] at hA hval
  have hAk := hA
  obtain ⟨v0, vs0, d0, ds0, p0, q0, hargs, rfl, rfl, h0, r0⟩ := trodAll_cons hA
  obtain ⟨rfl, rfl, rfl⟩ := trodAll_nil r0
  obtain rfl : args = #[v0] := by cases args; simp_all
  obtain ⟨rfl, rfl⟩ := trodVars_none hV
  obtain ⟨vs, pr, rfl, hpr, -⟩ := Go.Pl.op_prog (Go.Pl.prog_wide (hval 0 32 v0 rfl rfl)) h0
  clear hA0 hval0
  simp only [List.append_nil] at hW'
  refine (walk vs pr W hpr).mono fun e W' ⟨he, hg⟩ => ?_
  subst he
  exact ⟨_, rfl, _, _, _, [], _, [], hW', trodAll_cons_mk (shut_bool Try.underlying4 _) trodAll_mk0, Go.Pl.args_again hg (by decide +kernel) hAk, rfl, Go.Pl.ext_keptB hg _, fun h => by cases h⟩
theorem over : Rows.hardenLeastRow.holds Try.pinned (OpenSpec.ofChange Rows.hardenLeastSpec) :=
  OpenClaim.holds_of_wide 5 Try.f5 rfl rfl rfl rfl rfl rfl rfl ⟨rfl, rfl, rfl, rfl, rfl⟩ rfl rfl rfl rfl rfl (by kernel_rfl) Try.func5 (by kernel_rfl)
    (of_decide_eq_true (by kernel_rfl)) (by unfold Func.isWrapper; first | (rw [if_pos (by decide +kernel)]; kernel_rfl) | (rw [if_neg (by decide +kernel)]; exact ⟨rfl, rfl⟩))
    (fun os started H enc _ => lifted os started H enc)
theorem proved : Rows.HardenLeastSaid := over
#print axioms proved
end Go.Proofs.Ytbacmadoenicnaa.hardenLeast
