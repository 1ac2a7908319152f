/- The walk of box.Pack. -/
import Derived.Test.YtodhkdmkkjhnnaaBoxP
import Derived.Test.YtodhkdmkkjhnnaaCrcW
set_option linter.unusedVariables false
namespace Go.Proofs.Ytodhkdmkkjhnnaa
open Go.RowKit

set_option maxHeartbeats 3200000 in
set_option maxRecDepth 100000 in
theorem boxpack_any (w : World) (r : Rec) (hr : r.Ok) (hb : r.body.length ≤ 1000000000) :
    Calls Try.prog 16 #[recV r] w fun e w' => e = .returned (.tuple #[.string ⟨(packR r).1.toArray⟩, .int .i64 ((packR r).2 : Nat)]) ∧ Fr (fun _ => False) w w' := by
  have h64 : (recL r).toArray[64]? = some (.bool r.patch) := by rw [List.getElem?_toArray]; exact recL_patch hr
  have h65 : (recL r).toArray[65]? = some (.string ⟨r.body.toArray⟩) := by rw [List.getElem?_toArray]; exact recL_body hr
  have HL := Aside.mk (recL_len hr)
  have HK := Aside.mk (recL_key hr)
  have HB := Aside.mk (recL_base hr)
  unfold recV
  generalize recL r = L at *
  by_cases h1 : 8192 < r.body.length
  · have HP : Aside (packR r = ([], 6)) := ⟨by unfold packR; rw [if_pos h1]⟩
    go_enter Try.func16, Try.ntmps16
    go_wp2
    go_ret2
    rw [HP.out]
    exact ⟨rfl, (Fr.refl _ _).alloc _⟩
  · cases hp : r.patch with
    | true =>
      rw [hp] at h64
      have HP : Aside (packR r = (Crc.put (recB r), 0)) := ⟨by unfold packR; rw [if_neg h1, if_neg (by simp [hp])]⟩
      have HRB : Aside (recB r = r.key ++ ((gs 1 64 ++ r.base) ++ (gs r.body.length 64 ++ r.body))) := ⟨by unfold recB; rw [hp]; rfl⟩
      clear hp
      go_enter Try.func16, Try.ntmps16
      go_wp2_with fail
      refine (new_at _).mono ?_
      rintro e w1 ⟨g, rfl, hW⟩
      have HW1 := Aside.mk hW
      have HF0 := Aside.mk ((Fr.refl (fun _ => False) w).alloc (.cells L.toArray 30))
      have HH1 := Aside.mk (hW.fr.heap (heap_new w (.cells L.toArray 30)) id)
      have hcv := conv_at w1 w.heap.size 0 32 30 L.toArray (0, 0) r.key 32 hr.1.symm HH1.out (by rw [hr.1]; exact HK.out)
      clear hW
      go_wp2_with fail
      refine (raw_at _ w1 g [] ⟨r.key.toArray⟩ HW1.out (by have := hr.1; simp [ByteArray.size, this])).mono ?_
      rintro e w2 ⟨rfl, hW⟩
      have HW2 := Aside.mk hW
      have HH2 := Aside.mk (hW.fr.heap (heap_new w (.cells L.toArray 30)) id)
      have hc2 := (heap_cell HH2.out 64).trans h64
      clear hW hcv
      have HLN : Aside (([] ++ (ByteArray.mk r.key.toArray).data.toList ++ gs (1 : Int).toNat 64 ++ (ByteArray.mk r.base.toArray).data.toList).length ≤ 200) := ⟨by
        have q := gs_len 1 64 (by omega); have q1 := hr.1; have q2 := hr.2; simp [q1, q2]; omega⟩
      go_wp2_with fail
      refine (count_at _ w2 g _ 1 (by omega) (by omega) HW2.out (by have q := hr.1; simp [q])).mono ?_
      rintro e w3 ⟨rfl, hW⟩
      have HW3 := Aside.mk hW
      have HH3 := Aside.mk (hW.fr.heap (heap_new w (.cells L.toArray 30)) id)
      have hcv := conv_at w3 w.heap.size 32 32 30 L.toArray (0, 0) r.base 32 hr.2.symm HH3.out (by rw [hr.2]; exact HB.out)
      clear hW hc2
      go_wp2_with fail
      refine (raw_at _ w3 g _ ⟨r.base.toArray⟩ HW3.out (by have q := gs_len 1 64 (by omega); have q1 := hr.1; have q2 := hr.2; simp [ByteArray.size, q1, q2]; omega)).mono ?_
      rintro e w4 ⟨rfl, hW⟩
      clear hcv
      have HLN2 : Aside ((ByteArray.mk (r.key ++ (gs 1 64 ++ (r.base ++ (gs r.body.length 64 ++ r.body)))).toArray).size ≤ 140737488355328) := ⟨by
        have q := gs_len 1 64 (by omega); have q1 := hr.1; have q2 := hr.2; have q3 := gs_len r.body.length 64 (by omega); simp [ByteArray.size, q1, q2]; omega⟩
      have HW4 := Aside.mk hW
      have HH4 := Aside.mk (hW.fr.heap (heap_new w (.cells L.toArray 30)) id)
      have hc4 := (heap_cell HH4.out 65).trans h65
      clear hW
      go_wp2_with fail
      refine (text_at _ w4 g _ ⟨r.body.toArray⟩ HW4.out (by have h2 := HLN.out; simp only [ByteArray.size, List.size_toArray]; omega)).mono ?_
      rintro e w5 ⟨rfl, hW⟩
      have HW5 := Aside.mk hW
      clear hW hc4
      go_wp2_with fail
      refine (bytes_at _ w5 g _ HW5.out).mono ?_
      rintro e w6 ⟨rfl, rfl⟩
      go_wp2_with fail
      refine (crcput_any w6 _ (by have h2 := HLN2.out; exact h2)).mono ?_
      rintro e w7 ⟨rfl, hf⟩
      have HFE := Aside.mk (HF0.out.trans (HW5.out.fr.trans hf (fun _ _ q => q)) (fun _ _ q => q))
      clear hf
      go_wp2
      go_ret2
      rw [HP.out, HRB.out]
      exact ⟨by simp, HFE.out⟩
    | false =>
      rw [hp] at h64
      have hz : ∀ W, (Op.equalIn 10000 23 (.agg (r.base.map byt).toArray) (.agg (zeros.map byt).toArray)).run Try.prog W = .ok (decide (r.base = zeros)) W := fun W => eq_bytes 9998 23 32 r.base zeros W Try.underlying23 hr.2 rfl
      have hzz : (zeros.map byt).toArray = #[.int .u8 0, .int .u8 0, .int .u8 0, .int .u8 0, .int .u8 0, .int .u8 0, .int .u8 0, .int .u8 0, .int .u8 0, .int .u8 0, .int .u8 0, .int .u8 0, .int .u8 0, .int .u8 0, .int .u8 0, .int .u8 0, .int .u8 0, .int .u8 0, .int .u8 0, .int .u8 0, .int .u8 0, .int .u8 0, .int .u8 0, .int .u8 0, .int .u8 0, .int .u8 0, .int .u8 0, .int .u8 0, .int .u8 0, .int .u8 0, .int .u8 0, .int .u8 0] := rfl
      rw [hzz] at hz
      by_cases hbz : r.base = zeros
      · have HP : Aside (packR r = (Crc.put (recB r), 0)) := ⟨by unfold packR; rw [if_neg h1, if_neg (by simp [hbz])]⟩
        have HRB : Aside (recB r = r.key ++ (gs 0 64 ++ (gs r.body.length 64 ++ r.body))) := ⟨by unfold recB; rw [hp]; rfl⟩
        simp only [decide_eq_true hbz] at hz
        clear hp hzz hbz
        go_enter Try.func16, Try.ntmps16
        go_wp2_with (with_reducible refine gate (.load 23 (.tmp 13)) rfl ?_; refine load_part (by simp [Region.wanted, yielded]) 23 (.tmp 13) rfl w.heap.size 32 32 rfl 30 L.toArray (0, 0) _ (heap_new w _) Try.underlying23 rfl Try.info_key (by have := HL.out; simp [this]) ?_; rw [HB.out])
        refine (new_at _).mono ?_
        rintro e w1 ⟨g, rfl, hW⟩
        clear hz
        have HW1 := Aside.mk hW
        have HF0 := Aside.mk ((Fr.refl (fun _ => False) w).alloc (.cells L.toArray 30))
        have HH1 := Aside.mk (hW.fr.heap (heap_new w (.cells L.toArray 30)) id)
        have hcv := conv_at w1 w.heap.size 0 32 30 L.toArray (0, 0) r.key 32 hr.1.symm HH1.out (by rw [hr.1]; exact HK.out)
        clear hW
        go_wp2_with fail
        refine (raw_at _ w1 g [] ⟨r.key.toArray⟩ HW1.out (by have := hr.1; simp [ByteArray.size, this])).mono ?_
        rintro e w2 ⟨rfl, hW⟩
        have HW2 := Aside.mk hW
        have HH2 := Aside.mk (hW.fr.heap (heap_new w (.cells L.toArray 30)) id)
        have hc2 := (heap_cell HH2.out 64).trans h64
        clear hW hcv
        have HLN : Aside (([] ++ (ByteArray.mk r.key.toArray).data.toList ++ gs (0 : Int).toNat 64).length ≤ 200) := ⟨by
          have q := gs_len 0 64 (by omega); have q1 := hr.1; simp [q1]; omega⟩
        have HLN2 : Aside ((ByteArray.mk (r.key ++ (gs 0 64 ++ (gs r.body.length 64 ++ r.body))).toArray).size ≤ 140737488355328) := ⟨by
          have q := gs_len 0 64 (by omega); have q1 := hr.1; have q3 := gs_len r.body.length 64 (by omega); simp [ByteArray.size, q1]; omega⟩
        go_wp2_with fail
        refine (count_at _ w2 g _ 0 (by omega) (by omega) HW2.out (by have q := hr.1; simp [q])).mono ?_
        rintro e w3 ⟨rfl, hW⟩
        clear hc2
        have HW3 := Aside.mk hW
        have HH3 := Aside.mk (hW.fr.heap (heap_new w (.cells L.toArray 30)) id)
        have hc3 := (heap_cell HH3.out 65).trans h65
        clear hW
        go_wp2_with fail
        refine (text_at _ w3 g _ ⟨r.body.toArray⟩ HW3.out (by have h2 := HLN.out; simp only [ByteArray.size, List.size_toArray]; omega)).mono ?_
        rintro e w4 ⟨rfl, hW⟩
        have HW4 := Aside.mk hW
        clear hW hc3
        go_wp2_with fail
        refine (bytes_at _ w4 g _ HW4.out).mono ?_
        rintro e w5 ⟨rfl, rfl⟩
        go_wp2_with fail
        refine (crcput_any w5 _ (by have h2 := HLN2.out; exact h2)).mono ?_
        rintro e w6 ⟨rfl, hf⟩
        have HFE := Aside.mk (HF0.out.trans (HW4.out.fr.trans hf (fun _ _ q => q)) (fun _ _ q => q))
        clear hf
        go_wp2
        go_ret2
        rw [HP.out, HRB.out]
        exact ⟨by simp, HFE.out⟩
      · have HP : Aside (packR r = ([], 1)) := ⟨by unfold packR; rw [if_neg h1, if_pos ⟨hp, hbz⟩]⟩
        simp only [decide_eq_false hbz] at hz
        clear hp hzz hbz
        go_enter Try.func16, Try.ntmps16
        go_wp2_with (with_reducible refine gate (.load 23 (.tmp 13)) rfl ?_; refine load_part (by simp [Region.wanted, yielded]) 23 (.tmp 13) rfl w.heap.size 32 32 rfl 30 L.toArray (0, 0) _ (heap_new w _) Try.underlying23 rfl Try.info_key (by have := HL.out; simp [this]) ?_; rw [HB.out])
        go_ret2
        rw [HP.out]
        exact ⟨rfl, (Fr.refl _ _).alloc _⟩

end Go.Proofs.Ytodhkdmkkjhnnaa
