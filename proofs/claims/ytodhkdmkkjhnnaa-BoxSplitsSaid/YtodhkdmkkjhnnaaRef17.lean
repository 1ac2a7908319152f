/- The walks of siloref17. -/
import Derived.Test.YtodhkdmkkjhnnaaBoxNxt
import Derived.Test.YtodhkdmkkjhnnaaRefA
import Derived.Test.YtodhkdmkkjhnnaaRef02
set_option linter.unusedVariables false
namespace Go.Proofs.Ytodhkdmkkjhnnaa
open Go.RowKit

def kcells (s : ByteArray) (k : Nat) : List Value := (s.data.toList.take k ++ zeros.drop k).map byt
theorem kcells_len (s : ByteArray) (k : Nat) (hk : k ≤ 32) (hs : 32 ≤ s.size) : (kcells s k).length = 32 := by
  have hl : s.data.toList.length = s.size := (ba_size s).symm
  simp only [kcells, List.length_map, List.length_append, List.length_take, List.length_drop, hl, zeros, List.length_replicate]; omega
theorem key_next (s : ByteArray) (k : Nat) (hk : k < 32) (hs : 32 ≤ s.size) (hks : k < s.size) :
    (kcells s k).take k ++ byt s[k] :: (kcells s k).drop (k + 1) = kcells s (k + 1) := by
  have hl : s.data.toList.length = s.size := (ba_size s).symm
  have h1 : ((s.data.toList.take k).map byt).length = k := by simp [hl]; omega
  unfold kcells
  simp only [List.map_append]
  rw [List.take_append_of_le_length (by omega), List.take_of_length_le (by omega), List.drop_append, List.drop_of_length_le (by omega), h1, List.nil_append]
  rw [List.take_succ_eq_append_getElem (by omega), List.map_append, ← List.map_drop, List.drop_drop]
  simp
  rfl

set_option maxHeartbeats 3200000 in
set_option maxRecDepth 100000 in
theorem rkey_any (w : World) (s : ByteArray) (hs : 32 ≤ s.size) (hs2 : s.size ≤ 140737488355328) :
    Calls Try.prog 97 #[.string s] w fun e w' => e = .returned (keyV (s.data.toList.take 32)) ∧ Fr (fun _ => False) w w' := by
  have HZ := Aside.mk (ba_size s)
  have h16 : (Try.prog.info? 5).map (·.size) = some 1 := by
    obtain ⟨i0, hi, hzz⟩ := Option.map_eq_some_iff.1 Try.info_u8
    simp only [Prod.mk.injEq] at hzz
    rw [hi]; simp [hzz]
  have HU8 := Aside.mk h16
  clear h16
  go_enter Try.func97, Try.ntmps97
  go_wp2
  go_loopw [4] (fun i wr => ∃ k : Nat, k ≤ 32 ∧ i = .int .i64 k ∧ Aside (wr.heap[w.heap.size + 1]? = some (.cells (kcells s k).toArray 23 (0, 0))) ∧ Aside (wr.heap[w.heap.size]? = some (.cells (zeros.map byt).toArray 23 (0, 0))) ∧ Aside (Fr (fun _ => False) w wr)) (fun i _ => 32 - (intOf i).toNat)
  case atStart => exact ⟨0, by omega, rfl, ⟨by
    have h := heap_new (w.alloc (.cells (zeros.map byt).toArray 23)) (.cells (zeros.map byt).toArray 23)
    rw [World.size_alloc] at h; exact h⟩, ⟨(Below.heap_alloc (w.alloc _) _ _ (by simp)).trans (heap_new w _)⟩, ⟨((Fr.refl _ _).alloc _).alloc _⟩⟩
  case round =>
    obtain ⟨k, hk, rfl, HB, HA, HF⟩ := hrel
    by_cases hk32 : k < 32
    · have hks : k < s.size := by omega
      have HN := Aside.mk (key_next s k hk32 hs hks)
      have HL : Aside ((kcells s k).toArray.size = 32) := ⟨by rw [List.size_toArray]; exact kcells_len s k hk hs⟩
      go_wp2_with ((with_reducible refine gate (.store 5 (.tmp 13) (.tmp 12)) rfl ?_); refine store_part rfl rfl 5 (.tmp 13) (.tmp 12) rfl (w.heap.size + 1) k (byt s[k]) rfl rfl 23 _ [byt s[k]] HB.out rfl HU8.out (by rw [HL.out]; simp; omega) (by simp [byt, Value.oneCell']) ?_)
      intro w1 hh hf
      have HB1 := Aside.mk (hh.trans (congrArg (fun z : List Value => some (Obj.cells z.toArray 23 (0, 0))) HN.out))
      have HA1 := Aside.mk (hf.heap HA.out (by omega))
      have HF1 := Aside.mk (HF.out.trans hf (fun b hb q => by have q2 : b = w.heap.size + 1 := q; omega))
      clear hh hf
      go_wp2
      go_roundw
      case rel => exact ⟨k + 1, by omega, by go_num, HB1, HA1, HF1⟩
      case measure => simp [intOf]; omega
    · have HB2 : Aside (wr.heap[w.heap.size + 1]? = some (.cells ((s.data.toList.take 32).map byt).toArray 23 (0, 0))) := ⟨by
        have h := HB.out
        obtain rfl : k = 32 := by omega
        have e : kcells s 32 = (s.data.toList.take 32).map byt := by unfold kcells; simp [zeros]
        rw [e] at h; exact h⟩
      have hkl : (s.data.toList.take 32).length = 32 := by have := HZ.out; simp; omega
      clear HB
      go_wp2_with (first | ((with_reducible refine gate (.load 23 (.tmp 3)) rfl ?_); refine load_part (by simp [Region.wanted]) 23 (.tmp 3) rfl (w.heap.size + 1) 0 32 rfl 23 _ (0, 0) _ HB2.out Try.underlying23 rfl Try.info_key (by rw [List.size_toArray, List.length_map, hkl]; exact Nat.le_refl _) ?_; rw [List.drop_zero, List.take_of_length_le (by rw [List.length_map, hkl]; exact Nat.le_refl _)]) | ((with_reducible refine gate (.store 23 (.tmp 2) (.tmp 14)) rfl ?_); refine store_part rfl rfl 23 (.tmp 2) (.tmp 14) rfl w.heap.size 0 (keyV (s.data.toList.take 32)) rfl rfl 23 _ ((s.data.toList.take 32).map byt) HA.out rfl (by rw [Try.info_key, List.length_map, hkl]) (by rw [List.length_map, hkl]; decide) (byts_one _) ?_))
      intro w1 hh hf
      have HA1 : Aside (w1.heap[w.heap.size]? = some (.cells ((s.data.toList.take 32).map byt).toArray 23 (0, 0))) := ⟨by
        rw [hh]; exact congrArg (fun z : List Value => some (Obj.cells z.toArray 23 (0, 0))) (by rw [List.map_take]; simp [zeros])⟩
      have HF1 := Aside.mk (HF.out.trans hf (fun b hb q => by have q2 : b = w.heap.size := q; omega))
      clear hh hf
      go_wp2
      refine bodyPost_ret (results_cell_row rfl _ w1 w.heap.size 23 ((s.data.toList.take 32).map byt).toArray (0, 0) _ rfl HA1.out Try.underlying23 rfl (by rw [Try.info_key, List.size_toArray, List.length_map, hkl])) rfl ⟨rfl, HF1.out⟩

end Go.Proofs.Ytodhkdmkkjhnnaa
