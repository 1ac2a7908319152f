/- The walks of package crc. -/
import Derived.Test.YtodhkdmkkjhnnaaBase
set_option linter.unusedVariables false
namespace Go.Proofs.Ytodhkdmkkjhnnaa
open Go.RowKit

theorem crc_steps_succ (n : Nat) : ∀ x, Crc.steps (n + 1) x = Crc.step (Crc.steps n x) := by
  induction n with
  | zero => intro x; rfl
  | succ n ih => intro x; exact ih (Crc.step x)
theorem crc_run_take (s : ByteArray) (i : Nat) (h : i < s.size) : Crc.run 4294967295 (s.data.toList.take (i + 1)) = Crc.byte (Crc.run 4294967295 (s.data.toList.take i)) (s[i]).toNat := by
  rw [List.take_succ_eq_append_getElem (by simpa using h), Crc.run_append]; rfl

theorem ofInt_u32 (a : Nat) (h : a < 4294967296) : (BitVec.ofInt 32 (a : Int)).toNat = a := by
  rw [BitVec.ofInt_natCast, BitVec.toNat_ofNat]; exact Nat.mod_eq_of_lt (by omega)
theorem bits_xor_u32 (a b : Nat) (ha : a < 4294967296) (hb : b < 4294967296) : bits .xor .u32 (a : Int) (b : Int) = ((a ^^^ b : Nat) : Int) := by
  have hx : a ^^^ b < 2 ^ 32 := Nat.xor_lt_two_pow (by omega) (by omega)
  show IntKind.u32.wrap ((BitVec.ofInt 32 (a : Int) ^^^ BitVec.ofInt 32 (b : Int)).toNat : Int) = _
  rw [BitVec.toNat_xor, ofInt_u32 a ha, ofInt_u32 b hb, IntKind.wrap_u32]
  omega
theorem bits_and_u32 (a b : Nat) (ha : a < 4294967296) (hb : b < 4294967296) : bits .and .u32 (a : Int) (b : Int) = ((a &&& b : Nat) : Int) := by
  have hx : a &&& b ≤ a := Nat.and_le_left
  show IntKind.u32.wrap ((BitVec.ofInt 32 (a : Int) &&& BitVec.ofInt 32 (b : Int)).toNat : Int) = _
  rw [BitVec.toNat_and, ofInt_u32 a ha, ofInt_u32 b hb, IntKind.wrap_u32]
  omega
theorem crc_step_int (y : Nat) (hy : y < 4294967296) : bits BinOp.xor IntKind.u32 ((y : Int) / 2) (bits BinOp.and IntKind.u32 2197175160 (-bits BinOp.and IntKind.u32 (y : Int) 1 % 4294967296)) = (Crc.step y : Nat) := by
  have e1 : bits BinOp.and IntKind.u32 (y : Int) 1 = ((y % 2 : Nat) : Int) := by
    have := bits_and_u32 y 1 hy (by decide)
    rw [Nat.and_one_is_mod] at this; exact this
  have e2 : ((y : Int) / 2) = ((y / 2 : Nat) : Int) := by omega
  rw [e1, e2]
  unfold Crc.step
  rcases Nat.mod_two_eq_zero_or_one y with h | h
  · rw [h]
    have e3 : bits BinOp.and IntKind.u32 2197175160 (-((0 : Nat) : Int) % 4294967296) = ((0 : Nat) : Int) := by
      have := bits_and_u32 2197175160 0 (by decide) (by decide)
      simpa using this
    rw [e3, bits_xor_u32 _ _ (by omega) (by omega)]; simp
  · rw [h]
    have e3 : bits BinOp.and IntKind.u32 2197175160 (-((1 : Nat) : Int) % 4294967296) = ((Crc.poly : Nat) : Int) := by
      have := bits_and_u32 2197175160 4294967295 (by decide) (by decide)
      have e4 : (2197175160 : Nat) &&& 4294967295 = Crc.poly := by decide
      rw [e4] at this
      exact this
    rw [e3, bits_xor_u32 _ _ (by omega) (by decide)]; simp
theorem crc_not (x : Nat) (h : x < 4294967296) : bits BinOp.xor IntKind.u32 IntKind.u32.max (x : Int) = ((4294967295 - x : Nat) : Int) := by
  show IntKind.u32.wrap ((BitVec.ofInt 32 IntKind.u32.max ^^^ BitVec.ofInt 32 (x : Int)).toNat : Int) = _
  have e : BitVec.ofInt 32 IntKind.u32.max = BitVec.allOnes 32 := by decide
  rw [e, BitVec.allOnes_xor, BitVec.toNat_not, ofInt_u32 x h, IntKind.wrap_u32]
  omega

theorem crc_xor_byte (x : Nat) (c : UInt8) (h : x < 4294967296) : bits BinOp.xor IntKind.u32 (x : Int) ((c.toNat : Int) % 4294967296) = ((x ^^^ c.toNat : Nat) : Int) := by
  have hc : c.toNat < 256 := c.toNat_lt
  have e : ((c.toNat : Int) % 4294967296) = ((c.toNat : Nat) : Int) := by omega
  rw [e]; exact bits_xor_u32 _ _ h (by omega)

set_option maxHeartbeats 1600000 in
set_option maxRecDepth 100000 in
theorem crcsum_any (w : World) (b : Nat) (s : ByteArray) (hc : w.cell? ⟨b, 0, none⟩ = some (.string s)) (hs : s.size ≤ 140737488355328) :
    Calls Try.prog 92 #[.slice (some ⟨b, 0, none⟩) 1 1] w fun e w' => e = .returned (.int .u32 (Crc.sum s.data.toList : Nat)) ∧ w' = w := by
  go_enter Try.func92, Try.ntmps92
  go_wp2
  go_loop [3, 9] (fun x i => (i = .int .i64 0 ∧ x = .int .u32 4294967295) ∨ (i = .int .i64 1 ∧ x = .int .u32 (Crc.run 4294967295 s.data.toList : Nat))) (fun _ i => 1 - (intOf i).toNat)
  case atStart => exact .inl ⟨rfl, rfl⟩
  case round =>
    rcases hrel with ⟨rfl, rfl⟩ | ⟨rfl, rfl⟩
    · go_wp2
      go_loop [3, 6] (fun x i => ∃ k : Nat, k ≤ s.size ∧ i = .int .i64 k ∧ x = .int .u32 (Crc.run 4294967295 (s.data.toList.take k) : Nat)) (fun _ i => s.size - (intOf i).toNat)
      case atStart => exact ⟨0, Nat.zero_le _, rfl, rfl⟩
      case round =>
        obtain ⟨k, hk, rfl, rfl⟩ := hrel
        have HR := Aside.mk (crc_run_take s k)
        have hlt := Crc.run_lt (s.data.toList.take k) (x := 4294967295) (by decide)
        have HT : Aside (k = s.size → Crc.run 4294967295 s.data.toList = Crc.run 4294967295 (s.data.toList.take k)) := ⟨fun e => by subst e; rw [List.take_of_length_le (by rw [Array.length_toList]; exact Nat.le_refl _)]⟩
        generalize Crc.run 4294967295 (s.data.toList.take k) = x at *
        by_cases hks : k < s.size
        · go_wp2
          have HX : Aside (bits BinOp.xor IntKind.u32 (x : Int) ((s[k].toNat : Int) % 4294967296) = ((x ^^^ s[k].toNat : Nat) : Int)) := ⟨crc_xor_byte x s[k] hlt⟩
          rw [HX.out]
          go_loop [3, 25] (fun y i => ∃ j : Nat, j ≤ 8 ∧ i = .int .i64 j ∧ y = .int .u32 (Crc.steps j (x ^^^ s[k].toNat) : Nat)) (fun _ i => 8 - (intOf i).toNat)
          case atStart => exact ⟨0, by omega, rfl, rfl⟩
          case round =>
            obtain ⟨j, hj, rfl, rfl⟩ := hrel
            have hy := Crc.steps_lt j (Nat.xor_lt_two_pow hlt (Nat.lt_of_lt_of_le (s[k]).toNat_lt (by decide)))
            have HS := Aside.mk (crc_steps_succ j (x ^^^ s[k].toNat))
            have HY : Aside (j = 8 → Crc.steps j (x ^^^ s[k].toNat) = Crc.byte x s[k].toNat) := ⟨fun e => by subst e; rfl⟩
            generalize Crc.steps j (x ^^^ s[k].toNat) = y at *
            by_cases hj8 : j < 8
            · go_wp2
              go_round
              case rel => exact ⟨j + 1, by omega, by go_num, by rw [HS.out, crc_step_int y hy]⟩
              case measure => simp [intOf]; omega
            · obtain rfl : j = 8 := by omega
              go_wp2
              go_round
              case rel => exact ⟨k + 1, by omega, by go_num, by rw [HR.out hks]; exact congrArg (Value.int .u32) (congrArg (Nat.cast (R := Int)) (HY.out rfl))⟩
              case measure => simp [intOf]; omega
        · obtain rfl : k = s.size := by omega
          go_wp2
          go_round
          case rel => exact .inr ⟨rfl, by rw [HT.out rfl]⟩
          case measure => simp [intOf]
    · go_wp2
      go_ret
      refine ⟨?_, rfl⟩
      rw [show Crc.sum s.data.toList = 4294967295 - Crc.run 4294967295 s.data.toList from rfl, ← crc_not _ (Crc.run_lt s.data.toList (by decide))]
      rfl

theorem byt_of (a : Nat) (n : Int) (h : n = ((a % 256 : Nat) : Int)) : Value.int .u8 n = byt (UInt8.ofNat a) := by
  subst h; simp [byt]

set_option maxHeartbeats 1600000 in
set_option maxRecDepth 100000 in
theorem crcput_any (w : World) (s : ByteArray) (hs : s.size ≤ 140737488355328) :
    Calls Try.prog 68 #[.string s] w fun e w' => e = .returned (.string ⟨(Crc.put s.data.toList).toArray⟩) ∧ Fr (fun _ => False) w w' := by
  go_enter Try.func68, Try.ntmps68
  go_wp2_with fail
  refine (crcsum_any _ w.heap.size s ?_ hs).mono ?_
  · simp
  rintro e w1 ⟨rfl, rfl⟩
  have hx := Crc.sum_lt s.data.toList
  have HP := Aside.mk (show Crc.put s.data.toList = s.data.toList ++ Crc.four (Crc.sum s.data.toList) from rfl)
  generalize Crc.sum s.data.toList = x at *
  have hcv := conv_new (w.alloc (.cells #[.string s] 9)) #[.int .u8 ((x : Int) / 16777216), .int .u8 ((x : Int) / 65536 % 256), .int .u8 ((x : Int) / 256 % 256), .int .u8 ((x : Int) % 256)] (Crc.four x) (w.heap.size + 1) 4 4 (by simp) rfl
    (by simp only [Crc.four, List.map_cons, List.map_nil]; rw [byt_of (x / 16777216) _ (by omega), byt_of (x / 65536) _ (by omega), byt_of (x / 256) _ (by omega), byt_of x _ (by omega)])
  have hl4 : (Crc.four x).length = 4 := rfl
  go_wp2
  go_ret
  exact ⟨congrArg (fun z => Ending.returned (Value.string z)) ((ba_append s _).trans (by rw [HP.out])), ((Fr.refl _ _).alloc _).alloc _⟩

set_option maxHeartbeats 1600000 in
set_option maxRecDepth 100000 in
theorem crctake_any (w : World) (s : ByteArray) (hs : s.size ≤ 140737488355328) :
    Calls Try.prog 74 #[.string s] w fun e w' => e = .returned (.tuple #[.string ⟨(Crc.take s.data.toList).1.toArray⟩, .int .i64 ((Crc.take s.data.toList).2 : Nat)]) ∧ Fr (fun _ => False) w w' := by
  have hsz := ba_size s
  by_cases h4 : s.size < 4
  · have HT : Aside (Crc.take s.data.toList = ([], 2)) := ⟨by unfold Crc.take; rw [if_pos (by omega)]⟩
    clear hsz
    go_enter Try.func74, Try.ntmps74
    go_wp2
    go_ret2
    rw [HT.out]
    exact ⟨rfl, Fr.refl _ _⟩
  · have HE := Aside.mk (ba_extract s 0 (s.size - 4))
    have HZ := Aside.mk hsz
    clear hsz
    go_enter Try.func74, Try.ntmps74
    go_wp2_with fail
    have hts : (s.extract 0 (s.size - 4)).size ≤ 140737488355328 := by rw [ByteArray.size_extract]; omega
    have HD : Aside ((s.extract 0 (s.size - 4)).data.toList = s.data.toList.take (s.data.toList.length - 4)) := ⟨by rw [HE.out, HZ.out]; simp⟩
    clear HE
    generalize hx : s.extract 0 (s.size - 4) = t at *
    have HX := Aside.mk hx
    clear hx
    refine (crcput_any w t hts).mono ?_
    rintro e w1 ⟨rfl, hf⟩
    have HF := Aside.mk hf
    have HL := Aside.mk (ByteArray.toList_eq s)
    clear hf
    by_cases hp : Crc.put t.data.toList = s.toList
    · have hp2 : (Crc.put t.data.toList == s.toList) = true := by simp [hp]
      have HT : Aside (Crc.take s.data.toList = (t.data.toList, 0)) := ⟨by
        have h1 := HZ.out; unfold Crc.take; rw [if_neg (by omega), ← HD.out, if_pos (by rw [hp, HL.out])]⟩
      clear hp
      go_wp2
      go_ret2
      rw [HT.out]
      refine ⟨?_, HF.out⟩
      show Ending.returned (Value.tuple #[Value.string (s.extract 0 (s.size - 4)), Value.int IntKind.i64 0]) = _
      rw [HX.out, ba_eta]; rfl
    · have hp2 : (Crc.put t.data.toList == s.toList) = false := by simp [hp]
      have HT : Aside (Crc.take s.data.toList = ([], 4)) := ⟨by
        have h1 := HZ.out; unfold Crc.take; rw [if_neg (by omega), ← HD.out, if_neg (by rw [← HL.out]; exact hp)]⟩
      clear hp
      go_wp2
      go_ret2
      rw [HT.out]
      exact ⟨rfl, HF.out⟩

end Go.Proofs.Ytodhkdmkkjhnnaa
