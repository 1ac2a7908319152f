/- The walk of siloref17.Pack. -/
import Derived.Test.YtodhkdmkkjhnnaaRecBuild
import Derived.Test.YtodhkdmkkjhnnaaRefA
import Derived.Test.YtodhkdmkkjhnnaaRef02
import Derived.Deep.RegionWith
set_option linter.unusedVariables false
namespace Go.Proofs.Ytodhkdmkkjhnnaa
open Go.RowKit

theorem gs_one : gs 1 64 = [65] := by simp [gs, digs_zero]
theorem gs_nil : gs 0 64 = [64] := by simp [gs, digs_zero]

set_option maxHeartbeats 6400000 in
set_option maxRecDepth 100000 in
theorem refpack_any (w : World) (r : Rec) (hr : r.Ok) (hb : r.body.length ≤ 1000000000) :
    Calls Try.prog 18 #[recV r] w fun e w' => e = .returned (.tuple #[.string ⟨(packR r).1.toArray⟩, .int .i64 ((packR r).2 : Nat)]) ∧ Fr (fun _ => False) w w' := by
  have HI := Aside.mk (isRec.new 25 w r hr)
  have h64 := recL_patch hr
  have h65 := recL_body hr
  have HL := Aside.mk (recL_len hr)
  have HBS := Aside.mk (recL_base hr)
  unfold recV
  have HF0 := Aside.mk ((Fr.refl (fun _ => False) w).alloc (.cells (recL r).toArray 25))
  generalize recL r = L at *
  by_cases h1 : 8192 < r.body.length
  · have HP : Aside (packR r = ([], 6)) := ⟨by unfold packR; rw [if_pos h1]⟩
    go_enter Try.func18, Try.ntmps18
    go_wp2
    go_ret2
    rw [HP.out]
    exact ⟨rfl, (Fr.refl _ _).alloc _⟩
  · have hcv := HI.out.conv_key 32
    have HPT := Aside.mk (fun W => rput_any W)
    have HTX := Aside.mk (fun W => rtxt_any W ⟨r.body.toArray⟩ (by simp only [ByteArray.size, List.size_toArray]; omega))
    have hg3 := gs_len r.body.length 64 (by omega)
    cases hp : r.patch with
    | true =>
      rw [hp] at h64
      have HP : Aside (packR r = (Crc.put (recB r), 0)) := ⟨by unfold packR; rw [if_neg h1, if_neg (by simp [hp])]⟩
      have HRB : Aside (recB r = r.key ++ ((gs 1 64 ++ r.base) ++ (gs r.body.length 64 ++ r.body))) := ⟨by unfold recB; rw [hp]; rfl⟩
      have HWH := Aside.mk (fun W => rwhole_any W 1 (by omega) (by omega))
      clear hp
      rw [show Int.toNat 1 = 1 from rfl, gs_one] at HWH
      rw [gs_one] at HRB
      have hk32 := hr.1
      have hb32 := hr.2
      have hcv0 := (show isRec 25 (w.alloc (.cells L.toArray 25)).drew w.heap.size r from HI.out).conv_base 32
      have HLN : Aside ((ByteArray.mk (r.key ++ ([65] ++ (r.base ++ (gs r.body.length 64 ++ r.body)))).toArray).size ≤ 140737488355328) := ⟨by simp [ByteArray.size, hk32, hb32]; omega⟩
      go_enter Try.func18, Try.ntmps18
      go_wp2_with fail
      go_region_with (go_at_call 70; refine (HWH.out _).mono ?_; rintro e w1 ⟨rfl, hf⟩; have HF1 := Aside.mk hf; have HI1 := Aside.mk ((show isRec 25 (w.alloc (.cells L.toArray 25)).drew w.heap.size r from HI.out).keep hf id); have hcv1 := HI1.out.conv_base 32; clear hf)
      all_goals
        have hbd := HI1.out.body
        clear hcv
        go_wp2_with fail
        refine (HTX.out _).mono ?_
        rintro e w2 ⟨rfl, hf⟩
        have HF2 := Aside.mk (HF0.out.trans ((Fr.drew (Fr.refl (fun _ => False) (w.alloc (.cells L.toArray 25)))).trans (HF1.out.trans hf (fun _ _ q => q)) (fun _ _ q => q)) (fun _ _ q => q))
        clear hf hbd
        go_wp2_with fail
        refine (HPT.out _ _ ?_).mono ?_
        · simp only [ByteArray.size_append]; simp only [ByteArray.size, List.size_toArray, List.length_append, List.length_cons, List.length_nil]; omega
        rintro e w3 ⟨rfl, hf⟩
        have HF3 := Aside.mk (HF2.out.trans hf (fun _ _ q => q))
        clear hf
        go_wp2
        go_ret2
        rw [HP.out, HRB.out]
        exact ⟨by simp, HF3.out⟩
    | false =>
      rw [hp] at h64
      have hz : ∀ W, (Op.equalIn 10000 23 (.agg (r.base.map byt).toArray) (.agg (zeros.map byt).toArray)).run Try.prog W = .ok (decide (r.base = zeros)) W := fun W => eq_bytes 9998 23 32 r.base zeros W Try.underlying23 hr.2 rfl
      rw [zeros_heap] at hz
      by_cases hbz : r.base = zeros
      · have HP : Aside (packR r = (Crc.put (recB r), 0)) := ⟨by unfold packR; rw [if_neg h1, if_neg (by simp [hbz])]⟩
        have HRB : Aside (recB r = r.key ++ (gs 0 64 ++ (gs r.body.length 64 ++ r.body))) := ⟨by unfold recB; rw [hp]; rfl⟩
        simp only [decide_eq_true hbz] at hz
        rw [gs_nil] at HRB
        have HWH := Aside.mk (fun W => rwhole_any W 0 (by omega) (by omega))
        rw [show Int.toNat 0 = 0 from rfl, gs_nil] at HWH
        have hk32 := hr.1
        have HLN : Aside ((ByteArray.mk (r.key ++ ([64] ++ (gs r.body.length 64 ++ r.body))).toArray).size ≤ 140737488355328) := ⟨by simp [ByteArray.size, hk32]; omega⟩
        clear hp hbz
        go_enter Try.func18, Try.ntmps18
        go_wp2_with ((with_reducible refine gate (.load 23 (.tmp 13)) rfl ?_); refine load_part (by simp [Region.wanted, yielded]) 23 (.tmp 13) rfl w.heap.size 32 32 rfl 25 L.toArray (0, 0) _ (heap_new w _) Try.underlying23 rfl Try.info_key (by have := HL.out; simp [this]) ?_; rw [show (L.toArray.toList.drop 32).take 32 = r.base.map byt from HBS.out])
        refine (HWH.out _).mono ?_
        rintro e w1 ⟨rfl, hf⟩
        have HF1 := Aside.mk hf
        have HI1 := Aside.mk (HI.out.keep hf id)
        clear hf hz
        have hbd := HI1.out.body
        clear hcv
        go_wp2_with fail
        refine (HTX.out _).mono ?_
        rintro e w2 ⟨rfl, hf⟩
        have HF2 := Aside.mk (HF0.out.trans (HF1.out.trans hf (fun _ _ q => q)) (fun _ _ q => q))
        clear hf hbd
        go_wp2_with fail
        refine (HPT.out _ _ ?_).mono ?_
        · simp only [ByteArray.size_append]; simp only [ByteArray.size, List.size_toArray, List.length_append, List.length_cons, List.length_nil]; omega
        rintro e w3 ⟨rfl, hf⟩
        have HF3 := Aside.mk (HF2.out.trans hf (fun _ _ q => q))
        clear hf
        go_wp2
        go_ret2
        rw [HP.out, HRB.out]
        exact ⟨by simp, HF3.out⟩
      · have HP : Aside (packR r = ([], 1)) := ⟨by unfold packR; rw [if_neg h1, if_pos ⟨hp, hbz⟩]⟩
        simp only [decide_eq_false hbz] at hz
        clear hp hbz
        go_enter Try.func18, Try.ntmps18
        go_wp2_with ((with_reducible refine gate (.load 23 (.tmp 13)) rfl ?_); refine load_part (by simp [Region.wanted, yielded]) 23 (.tmp 13) rfl w.heap.size 32 32 rfl 25 L.toArray (0, 0) _ (heap_new w _) Try.underlying23 rfl Try.info_key (by have := HL.out; simp [this]) ?_; rw [show (L.toArray.toList.drop 32).take 32 = r.base.map byt from HBS.out])
        go_ret2
        rw [HP.out]
        exact ⟨rfl, (Fr.refl _ _).alloc _⟩

end Go.Proofs.Ytodhkdmkkjhnnaa
