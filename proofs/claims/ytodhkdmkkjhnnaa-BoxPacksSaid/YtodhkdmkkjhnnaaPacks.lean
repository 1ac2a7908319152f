/- The walk of silolaw17.BoxPacks. -/
import Derived.Test.YtodhkdmkkjhnnaaAwake17
import Derived.Test.YtodhkdmkkjhnnaaTheirs
set_option linter.unusedVariables false
namespace Go.Proofs.Ytodhkdmkkjhnnaa
open Go.RowKit

set_option maxHeartbeats 3200000 in
set_option maxRecDepth 100000 in
theorem packs_any (w : World) (r : Rec) (hr : r.Ok) : Calls Try.prog 3 #[recV r] w fun e w' => e = .returned (.bool true) ∧ Fr (fun _ => False) w w' := by
  have HI := Aside.mk (isRec.new 25 w r hr)
  have HF0 : Aside (Fr (fun _ => False) w (w.alloc (.cells (recL r).toArray 25))) := ⟨(Fr.refl _ w).alloc _⟩
  have h64 := recL_patch hr
  have h65 := recL_body hr
  have HA := Aside.mk (fun W => awake_any W)
  have HT := Aside.mk (fun W => theirs_any W r hr)
  have HP : Aside (r.body.length ≤ 1000000000 → ∀ W, Calls Try.prog 16 #[recV r] W _) := ⟨fun h W => boxpack_any W r hr h⟩
  have HQ : Aside (r.body.length ≤ 1000000000 → ∀ W, Calls Try.prog 18 #[recV r] W _) := ⟨fun h W => refpack_any W r hr h⟩
  generalize hS : (packR r).1 = S at *
  generalize hE : (packR r).2 = E at *
  clear hS hE
  have hbs : (ByteArray.mk r.body.toArray).size = r.body.length := by simp [ByteArray.size]
  have HN := Aside.mk (show r.body.length ≤ 30000 → r.body.length ≤ 1000000000 from fun h => by omega)
  by_cases hl : 30000 < r.body.length
  · have hl1 : decide ((30000:Int) < (r.body.length : Int)) = true := by simp; omega
    unfold recV at *
    generalize hL : recL r = L at *
    generalize r.body.length = n at *
    clear hL
    go_enter Try.func3, Try.ntmps3
    go_wp2_with fail
    refine (HA.out _).mono ?_
    rintro e w1 ⟨rfl, hf⟩
    have HF1 := Aside.mk (HF0.out.trans hf (fun _ _ q => q))
    have HI1 := Aside.mk (HI.out.keep hf id)
    clear hf
    have hbd := HI1.out.body
    go_wp2_with fail
    refine (HA.out _).mono ?_
    rintro e w2 ⟨rfl, hf⟩
    have HF2 := Aside.mk (HF1.out.trans hf (fun _ _ q => q))
    clear hf hbd
    go_wp2
    go_ret
    exact ⟨rfl, HF2.out⟩
  · have hl1 : decide ((30000:Int) < (r.body.length : Int)) = false := by simp; omega
    replace HP := Aside.mk (HP.out (by omega))
    replace HQ := Aside.mk (HQ.out (by omega))
    clear HN
    unfold recV at *
    generalize hL : recL r = L at *
    have HV : Aside (recV r = .agg L.toArray) := ⟨by rw [recV, hL]⟩
    generalize r.body.length = n at *
    clear hL
    go_enter Try.func3, Try.ntmps3
    go_wp2_with fail
    refine (HA.out _).mono ?_
    rintro e w1 ⟨rfl, hf⟩
    have HF1 := Aside.mk (HF0.out.trans hf (fun _ _ q => q))
    have HI1 := Aside.mk (HI.out.keep hf id)
    clear hf
    have hbd := HI1.out.body
    go_wp2_with ((with_reducible refine gate (.load 25 (.tmp 1)) rfl ?_); refine ld_all recT_ref (by simp [Region.wanted, yielded]) (.tmp 1) rfl w.heap.size r rfl HI1.out ?_; rw [HV.out])
    refine (HT.out _).mono ?_
    rintro e w2 ⟨rfl, hf⟩
    have HF2 := Aside.mk (HF1.out.trans hf (fun _ _ q => q))
    have HI2 := Aside.mk (HI1.out.keep hf id)
    clear hf
    go_wp2_with fail
    refine (HP.out _).mono ?_
    rintro e w3 ⟨rfl, hf⟩
    have HF3 := Aside.mk (HF2.out.trans hf (fun _ _ q => q))
    have HI3 := Aside.mk (HI2.out.keep hf id)
    clear hf hbd
    go_wp2_with ((with_reducible refine gate (.load 25 (.tmp 1)) rfl ?_); refine ld_all recT_ref (by simp [Region.wanted, yielded]) (.tmp 1) rfl w.heap.size r rfl HI3.out ?_; rw [HV.out])
    refine (HQ.out _).mono ?_
    rintro e w4 ⟨rfl, hf⟩
    have HF4 := Aside.mk (HF3.out.trans hf (fun _ _ q => q))
    clear hf
    go_wp2
    go_ret
    exact ⟨rfl, HF4.out⟩
end Go.Proofs.Ytodhkdmkkjhnnaa
