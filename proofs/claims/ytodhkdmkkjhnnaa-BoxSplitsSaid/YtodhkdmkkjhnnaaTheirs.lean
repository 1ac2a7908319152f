/- The walk of silolaw17.theirs. -/
import Derived.Test.YtodhkdmkkjhnnaaRecBuild
set_option linter.unusedVariables false
namespace Go.Proofs.Ytodhkdmkkjhnnaa
open Go.RowKit

set_option maxHeartbeats 3200000 in
set_option maxRecDepth 100000 in
theorem theirs_any (w : World) (r : Rec) (hr : r.Ok) : Calls Try.prog 17 #[recV r] w fun e w' => e = .returned (recV r) ∧ Fr (fun _ => False) w w' := by
  have HI : Aside (isRec 25 ((w.alloc (.cells (recL r).toArray 25)).alloc (.cells recLit 30)) w.heap.size r) := ⟨(isRec.new _ w r hr).keep ((Fr.refl (fun _ => False) _).alloc _) id⟩
  have HX : Aside (isRec 30 ((w.alloc (.cells (recL r).toArray 25)).alloc (.cells recLit 30)) (w.heap.size + 1) Rec.zero) := ⟨by
    have h := isRec.fresh 30 (w.alloc (.cells (recL r).toArray 25)) (.cells recLit 30) rfl
    rw [World.size_alloc] at h; exact h⟩
  have h64 := recL_patch hr
  have h65 := recL_body hr
  have HB := Aside.mk (fun W => build_all recB_box r hr W)
  unfold recV
  generalize hL : recL r = L at *
  have HL := Aside.mk hL
  have HF0 := Aside.mk (((Fr.refl (fun _ => False) w).alloc (.cells L.toArray 25)).alloc (.cells recLit 30))
  clear hL
  go_enter Try.func17, Try.ntmps17
  go_wp2_with (first
    | ((with_reducible refine gate (.load 23 (.tmp 3)) rfl ?_); refine ld_key (by simp [Region.wanted]) (.tmp 3) rfl w.heap.size r rfl HI.out ?_)
    | ((with_reducible refine gate (.load 23 (.tmp 5)) rfl ?_); refine ld_base (by simp [Region.wanted]) (.tmp 5) rfl w.heap.size r rfl HI.out ?_)
    | ((with_reducible refine gate (.build 30 _) rfl ?_); refine bld (by simp [Region.wanted]) _ _ rfl _ (recV r) (by simp only [List.map_toArray, List.map_cons, List.map_nil]; rfl) HB.out ?_)
    | ((with_reducible refine gate (.store 30 (.tmp 2) (.tmp 11)) rfl ?_); refine st_all recT_box rfl rfl (.tmp 2) (.tmp 11) rfl (w.heap.size + 1) _ r (recV r) rfl rfl rfl hr HX.out ?_))
  intro w1 hx hf
  have HX1 := Aside.mk hx
  have HF1 := Aside.mk (HF0.out.trans hf (fun b hb q => by have q2 : b = w.heap.size + 1 := q; omega))
  clear hx hf
  go_wp2
  exact bodyPost_ret (results_cell_row rfl _ w1 (w.heap.size + 1) 30 (recL r).toArray (0, 0) _ rfl HX1.out.1 Try.underlying30 rfl (by rw [recT_box.info, List.size_toArray, recL_len hr])) rfl ⟨by rw [HL.out], HF1.out⟩

end Go.Proofs.Ytodhkdmkkjhnnaa
