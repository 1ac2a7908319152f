/- The row WalFull. -/
import Derived.Test.YtodhkdmkkjhnnaaRowS
import Derived.Test.YtodhkdmkkjhnnaaWalFull
namespace Go.Proofs.Ytodhkdmkkjhnnaa
open Go.ChangeShapes Go.WideShapes Go.ChangeAt Go.RowKit
open Go.ChangeMaps (open_string shut_string)

set_option maxRecDepth 100000 in
theorem wfull_lifted (os : Os) (started : os.Started) (H : Type) (enc : TypeId × Value → H) :
    ReturnsInHanded {} Try.checked os 7 .any (Rows.walFullSpec.pre6 enc Try.prog Try.f7 Rows.walFullRow.domain false) (Rows.walFullSpec.post enc Try.prog Try.f7 false true false false) := by
  refine returnsInHanded_of_change (C := Try.checked) Try.ownK started (by kernel_rfl) Try.func7
    (ChangeSpec.witness6 (enc := enc) (C := Try.checked) false ⟨#[], #[.slice none 0 0, .int .u8 0], []⟩ 8 (by kernel_rfl) (by kernel_rfl) (by kernel_rfl) (by kernel_rfl)) ?_
  intro W base args ds gs before hval0 hW hcnd _
  have hval : ∀ (j : Nat) t v, Try.f7.params[j]? = some t → args[j]? = some v → Value.okWide Try.prog W .any base t v := hval0
  have hW' := hW
  obtain ⟨p, q, hA0, hV, rfl, hfz, hnd⟩ := hW
  have hA : DataW.TrodAll enc Try.prog W 0 (fun _ => true) true Try.f7.params.toList args.toList ds p := hA0
  rw [Try.params7] at hA hval
  obtain ⟨v0, v1, d0, d1, p0, p1, rfl, rfl, rfl, h0, h1⟩ := trodAll_two hA
  obtain ⟨rfl, rfl⟩ := trodVars_none hV
  obtain ⟨rs, hrs, hn⟩ := open_ss (hval 0 _ v0 rfl rfl) h0
  obtain ⟨y, rfl, rfl, rfl, hy⟩ := open_int Try.underlying5 (hval 1 _ v1 rfl rfl) h1
  exact row_true rfl (by kernel_rfl) rfl ⟨rfl, rfl, rfl⟩ hW' (wfull_any W v0 rs hn hrs y (bounds_u8 hy))

theorem wfull_holds : Rows.WalFullSaid :=
  OpenClaim.holds_of_wide 7 Try.f7 rfl rfl rfl rfl rfl rfl rfl ⟨rfl, rfl, rfl, rfl, rfl⟩ rfl rfl rfl rfl rfl (by kernel_rfl) Try.func7 (by kernel_rfl)
    (of_decide_eq_true (by kernel_rfl)) (by unfold Func.isWrapper; first | (rw [if_pos (by decide +kernel)]; kernel_rfl) | (rw [if_neg (by decide +kernel)]; exact ⟨rfl, rfl⟩))
    (fun os started H enc _ => wfull_lifted os started H enc)
#print axioms wfull_holds
end Go.Proofs.Ytodhkdmkkjhnnaa
