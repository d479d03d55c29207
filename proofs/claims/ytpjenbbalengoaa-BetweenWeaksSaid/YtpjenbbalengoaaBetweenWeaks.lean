/- The law BetweenWeaks holds for every input: its row as given. No condition. -/
import Derived.Test.YtpjenbbalengoaaRows
import Derived.Test.YtpjenbbalengoaaWBet8
import Derived.Test.YtpjenbbalengoaaRead
namespace Go.Proofs.Ytpjenbbalengoaa.betweenWeaks
open Go Go.Um Go.RowKit Go.ChangeShapes Go.WideShapes Go.ChangeAt

theorem lf_byt3 : Bytes Go.Proofs.Try.prog 3 8 := by unfold Bytes; kernel_rfl
theorem lf_byt33 : Bytes Go.Proofs.Try.prog 33 24 := by unfold Bytes; kernel_rfl
theorem lf_isl33 : IsSlice Go.Proofs.Try.prog 33 3 := by unfold IsSlice; kernel_rfl
theorem lf_isl37 : IsSlice Go.Proofs.Try.prog 37 33 := by unfold IsSlice; kernel_rfl
theorem lf_siz3 : Size Go.Proofs.Try.prog 3 1 := by unfold Size; kernel_rfl
theorem lf_siz33 : Size Go.Proofs.Try.prog 33 1 := by unfold Size; kernel_rfl
theorem lf_siz37 : Size Go.Proofs.Try.prog 37 1 := by unfold Size; kernel_rfl
theorem lf_siz39 : Size Go.Proofs.Try.prog 39 2 := by unfold Size; kernel_rfl
theorem lf_agg0 : IsAgg Go.Proofs.Try.prog 39 true := by unfold IsAgg; kernel_rfl
theorem lf_agg1 : IsAgg Go.Proofs.Try.prog 39 true := by unfold IsAgg; kernel_rfl
theorem own : ownKnob Go.Proofs.Try.prog.godebug = none := by kernel_rfl
theorem laid : laidOutB Go.Proofs.Try.prog = true := by kernel_rfl
set_option maxRecDepth 100000 in
theorem lifted (os : Os) (started : os.Started) (H : Type) (enc : TypeId × Value → H) :
    ReturnsInHanded {} Try.checked os 14 .any (Rows.betweenWeaksSpec.pre6 enc Try.prog Try.f14 Rows.betweenWeaksRow.domain false) (Rows.betweenWeaksSpec.post enc Try.prog Try.f14 false true false false) := by
  refine returnsInHanded_of_change_sized (C := Try.checked) own started (by kernel_rfl) Try.func14
    (ChangeSpec.witness6 (enc := enc) (C := Try.checked) false ⟨#[], #[(.agg #[(.int .i64 0), (.slice none 0 0)]), (.agg #[(.int .i64 0), (.slice none 0 0)])], []⟩ 8 (by kernel_rfl) (by kernel_rfl) (by kernel_rfl) (by kernel_rfl)) ?_
  intro W base args ds gs before hval0 hW hcnd hsz0 _
  have hval : ∀ (j : Nat) t v, Try.f14.params[j]? = some t → args[j]? = some v → Value.okWide Try.prog W .any base t v := hval0
  have hsz : (DataW.weightsEach Try.prog (Try.f14.params.toList ++ Rows.betweenWeaksSpec.plain.varTypes Try.prog) (ds ++ gs)).all (· ≤ reachBytes) = true := hsz0
  have hW' := hW
  obtain ⟨p, q, hA0, hV, rfl, hfz, hnd⟩ := hW
  have hA : DataW.TrodAll enc Try.prog W 0 (fun _ => true) true Try.f14.params.toList args.toList ds p := hA0
  rw [Try.params14] at hA hval hsz
  obtain ⟨hgs, hq⟩ := trodVars_none hV
  subst hgs hq
  obtain ⟨v0, vs0, d0, ds0, p0, q0, hargs, rfl, rfl, h0, r0⟩ := trodAll_cons hA
  obtain ⟨v1, vs1, d1, ds1, p1, q1, rfl, rfl, rfl, h1, r1⟩ := trodAll_cons r0
  obtain ⟨rfl, rfl, rfl⟩ := trodAll_nil r1
  obtain rfl : args = #[v0, v1] := by cases args; simp_all
  simp only [List.cons_append, List.nil_append, DataW.weightsEach, List.all_append, Bool.and_eq_true, List.append_nil] at hsz
  obtain ⟨x0, g0, a0⟩ := arg_of (form_struct2 Go.Proofs.Try.underlying39 lf_siz39 rfl rfl lf_siz3 lf_siz37 (form_int Go.Proofs.Try.underlying3) (form_slice ([]) lf_isl37 lf_siz33 lf_byt33 (by decide) (by decide) (form_slice (0) lf_isl33 lf_siz3 lf_byt3 (by decide) (by decide) (form_int Go.Proofs.Try.underlying3))) (fun _ => rfl) (fun _ => rfl)) lf_agg0 (fun _ => rfl) (hval 0 39 v0 rfl rfl) h0 (hsz.1)
  obtain ⟨x1, g1, a1⟩ := arg_of (form_struct2 Go.Proofs.Try.underlying39 lf_siz39 rfl rfl lf_siz3 lf_siz37 (form_int Go.Proofs.Try.underlying3) (form_slice ([]) lf_isl37 lf_siz33 lf_byt33 (by decide) (by decide) (form_slice (0) lf_isl33 lf_siz3 lf_byt3 (by decide) (by decide) (form_int Go.Proofs.Try.underlying3))) (fun _ => rfl) (fun _ => rfl)) lf_agg1 (fun _ => rfl) (hval 1 39 v1 rfl rfl) h1 (hsz.2.1)
  refine law_post (avs := [.val _, .val _]) laid rfl hW' ?_ rfl Try.underlying4 rfl (BetweenWeaks_spec x0.1 x0.2 x1.1 x1.2) ?_
  · rw [Try.params14]
    intro t ht
    simp only [List.mem_cons, List.not_mem_nil, or_false] at ht
    rcases ht with rfl | rfl <;> exact ⟨by kernel_rfl, of_decide_eq_true (by kernel_rfl)⟩
  · exact ⟨_, _, rfl, a0, ⟨_, _, rfl, a1, rfl⟩⟩

theorem proved : Rows.BetweenWeaksSaid :=
  OpenClaim.holds_of_wide 14 Try.f14 rfl rfl rfl rfl rfl rfl rfl ⟨rfl, rfl, rfl, rfl, rfl⟩ rfl rfl rfl rfl rfl (by kernel_rfl) Try.func14 (by kernel_rfl)
    (of_decide_eq_true (by kernel_rfl)) (by unfold Func.isWrapper; first | (rw [if_pos (by decide +kernel)]; kernel_rfl) | (rw [if_neg (by decide +kernel)]; exact ⟨rfl, rfl⟩))
    (fun os started H enc _ => lifted os started H enc)
end Go.Proofs.Ytpjenbbalengoaa.betweenWeaks
