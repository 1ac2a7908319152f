/- The walk of silolaw17.awake. -/
import Derived.Test.YtodhkdmkkjhnnaaBoxPack
import Derived.Test.YtodhkdmkkjhnnaaBoxOpen
import Derived.Test.YtodhkdmkkjhnnaaRefPack
set_option linter.unusedVariables false
namespace Go.Proofs.Ytodhkdmkkjhnnaa
open Go.RowKit

def abRec : Rec := ⟨zeros, zeros, false, [97, 98]⟩
def abBytes : List UInt8 := [0, 0, 0, 0, 0, 0, 0, 0, 0, 0, 0, 0, 0, 0, 0, 0, 0, 0, 0, 0, 0, 0, 0, 0, 0, 0, 0, 0, 0, 0, 0, 0, 64, 66, 97, 98, 202, 73, 245, 5]
theorem gs_two : gs 2 64 = [66] := by simp [gs, digs_zero]
theorem ab_packs : packR abRec = (abBytes, 0) := by
  have h : recB abRec = [0, 0, 0, 0, 0, 0, 0, 0, 0, 0, 0, 0, 0, 0, 0, 0, 0, 0, 0, 0, 0, 0, 0, 0, 0, 0, 0, 0, 0, 0, 0, 0, 64, 66, 97, 98] := by
    unfold recB
    rw [show (if abRec.patch then gs 1 64 ++ abRec.base else gs 0 64) = [64] from gs_nil, show gs abRec.body.length 64 = [66] from gs_two]; rfl
  unfold packR
  rw [h]
  decide +kernel
theorem ab_opens : openR abBytes = (abRec, 0) := by decide +kernel

set_option maxHeartbeats 3200000 in
set_option maxRecDepth 100000 in
theorem awake_any (w : World) : Calls Try.prog 15 #[] w fun e w' => e = .returned (.bool true) ∧ Fr (fun _ => False) w w' := by
  have HB := Aside.mk (fun W => build_body recB_box [97, 98] W)
  have HP : Aside (∀ W, Calls Try.prog 16 #[recV abRec] W fun e w' => e = .returned (.tuple #[.string ⟨abBytes.toArray⟩, .int .i64 0]) ∧ Fr (fun _ => False) W w') := ⟨fun W => by
    have h := boxpack_any W abRec ⟨rfl, rfl⟩ (by decide)
    rw [ab_packs] at h; exact h⟩
  have HO : Aside (∀ W, Calls Try.prog 20 #[.string ⟨abBytes.toArray⟩] W fun e w' => e = .returned (.tuple #[recV abRec, .int .i64 0]) ∧ Fr (fun _ => False) W w') := ⟨fun W => by
    have h := boxopen_any W ⟨abBytes.toArray⟩ (by decide)
    rw [show (ByteArray.mk abBytes.toArray).data.toList = abBytes from rfl, ab_opens] at h; exact h⟩
  have HR : Aside (({ Rec.zero with body := [97, 98] } : Rec) = abRec) := ⟨rfl⟩
  rw [HR.out] at HB
  have hlen : abBytes.length = 40 := rfl
  have hx : (((ByteArray.mk abBytes.toArray).extract 32 36).toList == [64, 66, 97, 98]) = true := by
    decide +kernel
  have hok : abRec.Ok := ⟨rfl, rfl⟩
  have HBD : Aside (abRec.body = [97, 98]) := ⟨rfl⟩
  generalize abBytes = S at *
  generalize abRec = R at *
  clear HR
  go_enter Try.func15, Try.ntmps15
  go_wp2_with ((with_reducible refine gate (.build 30 _) rfl ?_); refine bld (by simp [Region.wanted]) _ _ rfl _ (recV R) (by simp only [List.map_toArray, List.map_cons, List.map_nil]; rfl) HB.out ?_)
  refine (HP.out _).mono ?_
  rintro e w1 ⟨rfl, hf⟩
  have HF1 := Aside.mk hf
  clear hf
  go_wp2_with fail
  refine (HO.out _).mono ?_
  rintro e w2 ⟨rfl, hf⟩
  have HF2 := Aside.mk (HF1.out.trans hf (fun _ _ q => q))
  have HX2 := Aside.mk (isRec.fresh 30 w2 (.cells recLit 30) rfl)
  clear hf
  go_wp2_with ((with_reducible refine gate (.store 30 (.tmp 3) (.tmp 13)) rfl ?_); refine st_all recT_box rfl rfl (.tmp 3) (.tmp 13) rfl w2.heap.size _ R (recV R) rfl rfl rfl hok HX2.out ?_)
  intro w3 hx hf
  have hbd := hx.body
  rw [HBD.out] at hbd
  have HF3 := Aside.mk ((HF2.out.alloc (.cells recLit 30)).trans hf (fun b hb q => by have := HF2.out.size; have q2 : b = w2.heap.size := q; omega))
  clear hx hf
  go_wp2
  go_ret
  exact ⟨rfl, HF3.out⟩
end Go.Proofs.Ytodhkdmkkjhnnaa
