/- The law TopChecks holds for every input: its row as given. No condition. -/
import Derived.Test.YtfjafkocejoigaaGreatRows
import Derived.Test.YtfjafkocejoigaaGreatWTop8
import Derived.Test.YtfjafkocejoigaaGreatRead
namespace Go.Proofs.YtfjafkocejoigaaGreat.topChecks
open Go Go.Um Go.RowKit Go.ChangeShapes Go.WideShapes Go.ChangeAt

theorem lf_byt3 : Bytes Go.Proofs.Tryz.prog 3 8 := by unfold Bytes; kernel_rfl
theorem lf_isl22 : IsSlice Go.Proofs.Tryz.prog 22 3 := by unfold IsSlice; kernel_rfl
theorem lf_siz3 : Size Go.Proofs.Tryz.prog 3 1 := by unfold Size; kernel_rfl
theorem lf_agg0 : IsAgg Go.Proofs.Tryz.prog 22 false := by unfold IsAgg; kernel_rfl
theorem lf_agg1 : IsAgg Go.Proofs.Tryz.prog 22 false := by unfold IsAgg; kernel_rfl
theorem own : ownKnob Go.Proofs.Tryz.prog.godebug = none := by kernel_rfl
theorem laid : laidOutB Go.Proofs.Tryz.prog = true := by kernel_rfl
set_option maxRecDepth 100000 in
theorem lifted (os : Os) (started : os.Started) (H : Type) (enc : TypeId × Value → H) :
    ReturnsInHanded {} Tryz.checked os 4 .any (Rows.topChecksSpec.pre6 enc Tryz.prog Tryz.f4 Rows.topChecksRow.domain false) (Rows.topChecksSpec.post enc Tryz.prog Tryz.f4 false true false false) := by
  refine returnsInHanded_of_change_sized (C := Tryz.checked) own started (by kernel_rfl) Tryz.func4
    (ChangeSpec.witness6 (enc := enc) (C := Tryz.checked) false ⟨#[], #[(.slice none 0 0), (.slice none 0 0)], []⟩ 8 (by kernel_rfl) (by kernel_rfl) (by kernel_rfl) (by kernel_rfl)) ?_
  intro W base args ds gs before hval0 hW hcnd hsz0 _
  have hval : ∀ (j : Nat) t v, Tryz.f4.params[j]? = some t → args[j]? = some v → Value.okWide Tryz.prog W .any base t v := hval0
  have hsz : (DataW.weightsEach Tryz.prog (Tryz.f4.params.toList ++ Rows.topChecksSpec.plain.varTypes Tryz.prog) (ds ++ gs)).all (· ≤ reachBytes) = true := hsz0
  have hW' := hW
  obtain ⟨p, q, hA0, hV, rfl, hfz, hnd⟩ := hW
  have hA : DataW.TrodAll enc Tryz.prog W 0 (fun _ => true) true Tryz.f4.params.toList args.toList ds p := hA0
  rw [Tryz.params4] at hA hval hsz
  obtain ⟨hgs, hq⟩ := trodVars_none hV
  subst hgs hq
  obtain ⟨v0, vs0, d0, ds0, p0, q0, hargs, rfl, rfl, h0, r0⟩ := trodAll_cons hA
  obtain ⟨v1, vs1, d1, ds1, p1, q1, rfl, rfl, rfl, h1, r1⟩ := trodAll_cons r0
  obtain ⟨rfl, rfl, rfl⟩ := trodAll_nil r1
  obtain rfl : args = #[v0, v1] := by cases args; simp_all
  simp only [List.cons_append, List.nil_append, DataW.weightsEach, List.all_append, Bool.and_eq_true, List.append_nil] at hsz
  obtain ⟨x0, g0, a0⟩ := arg_of (form_slice (0) lf_isl22 lf_siz3 lf_byt3 (by decide) (by decide) (form_int Go.Proofs.Tryz.underlying3)) lf_agg0 (fun _ => rfl) (hval 0 22 v0 rfl rfl) h0 (hsz.1)
  obtain ⟨x1, g1, a1⟩ := arg_of (form_slice (0) lf_isl22 lf_siz3 lf_byt3 (by decide) (by decide) (form_int Go.Proofs.Tryz.underlying3)) lf_agg1 (fun _ => rfl) (hval 1 22 v1 rfl rfl) h1 (hsz.2.1)
  refine law_post (avs := [.val _, .val _]) laid rfl hW' ?_ rfl Tryz.underlying4 rfl (TopChecks_spec x0 x1) ?_
  · rw [Tryz.params4]
    intro t ht
    simp only [List.mem_cons, List.not_mem_nil, or_false] at ht
    rcases ht with rfl | rfl <;> exact ⟨by kernel_rfl, of_decide_eq_true (by kernel_rfl)⟩
  · exact ⟨_, _, rfl, a0, ⟨_, _, rfl, a1, rfl⟩⟩

theorem proved : Rows.TopChecksSaid :=
  OpenClaim.holds_of_wide 4 Tryz.f4 rfl rfl rfl rfl rfl rfl rfl ⟨rfl, rfl, rfl, rfl, rfl⟩ rfl rfl rfl rfl rfl (by kernel_rfl) Tryz.func4 (by kernel_rfl)
    (of_decide_eq_true (by kernel_rfl)) (by unfold Func.isWrapper; first | (rw [if_pos (by decide +kernel)]; kernel_rfl) | (rw [if_neg (by decide +kernel)]; exact ⟨rfl, rfl⟩))
    (fun os started H enc _ => lifted os started H enc)
end Go.Proofs.YtfjafkocejoigaaGreat.topChecks
