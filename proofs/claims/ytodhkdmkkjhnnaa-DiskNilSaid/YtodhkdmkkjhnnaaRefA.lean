/- The walks of siloref01. -/
import Derived.Test.YtodhkdmkkjhnnaaSixP
set_option linter.unusedVariables false
namespace Go.Proofs.Ytodhkdmkkjhnnaa
open Go.RowKit

theorem conv1 (W : World) (n : Int) (c : UInt8) (g : Nat) (hg : g = W.heap.size) (h : n = (c.toNat : Int)) :
    (convert 80 9 (.slice (some ⟨g, 0, none⟩) 1 1)).run Try.prog (W.alloc (.cells #[.int .u8 n] 5)) = .ok (.string ⟨[c].toArray⟩) (W.alloc (.cells #[.int .u8 n] 5)) :=
  conv_new W #[.int .u8 n] [c] g 1 1 hg rfl (by subst h; rfl)

set_option maxHeartbeats 1600000 in
set_option maxRecDepth 100000 in
theorem rgroups_any (w : World) (x mark : Nat) (hx : x < 9223372036854775808) (hm : mark ≤ 128) :
    Calls Try.prog 93 #[.int .u64 x, .int .i64 mark] w fun e w' =>
      e = .returned (.string ⟨(gs x mark).toArray⟩) ∧ Fr (fun _ => False) w w' := by
  have hb : (UInt8.ofNat (mark + x % 64)).toNat = mark + x % 64 := by simp; omega
  have HL := Aside.mk (gs_len x mark (by omega))
  have HG := Aside.mk (show gs x mark = (digs (x / 64)).map UInt8.ofNat ++ [UInt8.ofNat (mark + x % 64)] from rfl)
  generalize gs x mark = G at *
  generalize UInt8.ofNat (mark + x % 64) = c at *
  have hcv := conv1 w ((mark : Int) + (x : Int) % 64) c w.heap.size rfl (by omega)
  have HB := Aside.mk hb
  clear hb
  go_enter Try.func93, Try.ntmps93
  go_wp2
  go_loopw [0, 5] (fun y s wr => ∃ (z : Nat) (l : List UInt8), z < 9223372036854775808 ∧ y = .int .u64 z ∧ s = .string ⟨l.toArray⟩ ∧ Aside ((digs z).map UInt8.ofNat ++ l = G) ∧ Aside (Fr (fun _ => False) w wr)) (fun y _ _ => (intOf y).toNat)
  case atStart => exact ⟨x / 64, _, by omega, by go_num, rfl, ⟨HG.out.symm⟩, ⟨(Fr.refl _ _).alloc _⟩⟩
  case round =>
    obtain ⟨z, l, hz, rfl, rfl, HI, HF⟩ := hrel
    have hll : l.length ≤ 11 := by have := HL.out; rw [← HI.out] at this; simp at this; omega
    clear hcv
    by_cases h0 : 0 < z
    · have hb2 : (UInt8.ofNat (z % 64)).toNat = z % 64 := by simp; omega
      have HI2 : Aside ((digs (z / 64)).map UInt8.ofNat ++ (UInt8.ofNat (z % 64) :: l) = G) := ⟨by
        have := HI.out; rw [digs_pos h0] at this; simpa using this⟩
      generalize UInt8.ofNat (z % 64) = c2 at *
      have hcv := conv1 wr ((z : Int) % 64) c2 wr.heap.size rfl (by omega)
      clear hb2
      go_wp2
      go_roundw
      case rel => exact ⟨z / 64, c2 :: l, by omega, by go_num, congrArg Value.string (ByteArray.mk_append_mk [c2] l), HI2, ⟨HF.out.alloc _⟩⟩
      case measure => simp [intOf]; omega
    · have hz0 : z = 0 := by omega
      subst hz0
      have HI2 : Aside (l = G) := ⟨by have := HI.out; rw [digs_zero] at this; simpa using this⟩
      go_wp2
      go_ret
      exact ⟨by rw [← HI2.out]; rfl, HF.out⟩

theorem rwhole_any (w : World) (i : Int) (h0 : 0 ≤ i) (h1 : i < 9223372036854775808) :
    Calls Try.prog 70 #[.int .i64 i] w fun e w' => e = .returned (.string ⟨(gs i.toNat 64).toArray⟩) ∧ Fr (fun _ => False) w w' := by
  obtain ⟨n, rfl⟩ := Int.eq_ofNat_of_zero_le h0
  rw [Int.toNat_natCast]
  have hd : decide ((n : Int) < 0) = false := by simp
  go_enter Try.func70, Try.ntmps70
  go_wp2_with fail
  refine (rgroups_any w n 64 (by omega) (by omega)).mono ?_
  rintro e w1 ⟨rfl, hf⟩
  have HF := Aside.mk hf
  clear hf
  go_wp2
  go_ret
  exact ⟨rfl, HF.out⟩

set_option maxRecDepth 100000 in
theorem rtxt_any (w : World) (s : ByteArray) (hs : s.size ≤ 140737488355328) :
    Calls Try.prog 71 #[.string s] w fun e w' => e = .returned (.string ⟨(gs s.size 64 ++ s.data.toList).toArray⟩) ∧ Fr (fun _ => False) w w' := by
  have HL := gs_len s.size 64 (by omega)
  go_enter Try.func71, Try.ntmps71
  go_wp2_with fail
  refine (rwhole_any w s.size (by omega) (by omega)).mono ?_
  rw [Int.toNat_natCast]
  rintro e w1 ⟨rfl, hf⟩
  have HF := Aside.mk hf
  clear hf
  go_wp2
  go_ret
  refine ⟨?_, HF.out⟩
  exact congrArg (fun z => Ending.returned (Value.string z)) (by rw [← ByteArray.mk_append_mk, ba_eta])

theorem tup3 {a b c a' b' c' : Value} (h1 : a = a') (h2 : b = b') (h3 : c = c') : Ending.returned (.tuple #[a, b, c]) = .returned (.tuple #[a', b', c']) := by subst h1 h2 h3; rfl

/-- What the document reads here: a number, how many bytes it has, the error. -/
def rdWhole (l : List UInt8) : Int × Nat × Nat := if (num l).2.2.2 ≠ 0 then (0, 0, (num l).2.2.2) else (if (num l).2.1 then -1 - ((num l).1 : Int) else ((num l).1 : Int), (num l).2.2.1, 0)
def rdWholeOf (R : Nat × Bool × Nat × Nat) : Int × Nat × Nat := if R.2.2.2 ≠ 0 then (0, 0, R.2.2.2) else (if R.2.1 then -1 - (R.1 : Int) else (R.1 : Int), R.2.2.1, 0)
def ret3 (r : Int × Nat × Nat) : Ending := .returned (.tuple #[.int .i64 r.1, .int .i64 (r.2.1 : Nat), .int .i64 (r.2.2 : Nat)])

set_option maxHeartbeats 3200000 in
set_option maxRecDepth 100000 in
theorem rreadwhole_any (w : World) (s : ByteArray) (hs : s.size ≤ 140737488355328) : Calls Try.prog 105 #[.string s] w fun e w' =>
    e = ret3 (rdWhole s.data.toList) ∧ w' = w := by
  have HR := Aside.mk (show numGo s.data.toList true 0 0 = num s.data.toList from rfl)
  have HW := Aside.mk (show rdWhole s.data.toList = rdWholeOf (num s.data.toList) from rfl)
  have HZ := Aside.mk (ba_size s)
  generalize rdWhole s.data.toList = W at *
  generalize num s.data.toList = R at *
  go_enter Try.func105, Try.ntmps105
  go_wp2
  go_loop [5, 6] (fun x i => ∃ (k y : Nat), k ≤ s.size ∧ i = .int .i64 k ∧ x = .int .u64 y ∧ y < 9223372036854775808 ∧ Aside (numGo (s.data.toList.drop k) (decide (k = 0)) y k = R)) (fun _ i => s.size - (intOf i).toNat)
  case atStart => exact ⟨0, 0, by omega, rfl, rfl, by omega, ⟨HR.out⟩⟩
  case round =>
    obtain ⟨k, y, hk, rfl, rfl, hy, HN⟩ := hrel
    by_cases hks : k < s.size
    · have HN2 := HN.out
      rw [List.drop_eq_getElem_cons (by have := HZ.out; omega), show s.data.toList[k]'(by rw [← ba_size]; exact hks) = s[k] from rfl] at HN2
      unfold numGo at HN2
      have hcc : (s[k]).toNat < 256 := (s[k]).toNat_lt
      generalize hgc : s[k] = c at *
      by_cases hA : 191 < c.toNat
      · rw [if_pos (.inl hA)] at HN2
        have HN3 : Aside (W = (0, 0, 3)) := ⟨by rw [HW.out, ← HN2]; rfl⟩
        clear HN2
        go_wp2
        go_ret3
        rw [HN3.out]
        exact ⟨rfl, rfl⟩
      by_cases hC : k = 0 ∧ c.toNat = 0
      · obtain ⟨rfl, h0⟩ := hC
        rw [if_pos (.inr (.inr ⟨rfl, h0⟩))] at HN2
        have HN3 : Aside (W = (0, 0, 3)) := ⟨by rw [HW.out, ← HN2]; rfl⟩
        have h0b : ((c.toNat : Int) == 0) = true := by simp [h0]
        clear HN2 h0
        go_wp2
        go_ret3
        rw [HN3.out]
        exact ⟨rfl, rfl⟩
      by_cases hB : 144115188075855871 < y
      · rw [if_pos (.inr (.inl hB))] at HN2
        have HN3 : Aside (W = (0, 0, 3)) := ⟨by rw [HW.out, ← HN2]; rfl⟩
        clear HN2
        by_cases hk0 : k = 0
        · subst hk0
          have h0b : ((c.toNat : Int) == 0) = false := by simp; omega
          clear hC
          go_wp2
          go_ret3
          rw [HN3.out]
          exact ⟨rfl, rfl⟩
        · have h0c : ((k : Int) == 0) = false := by simp; omega
          have h0d : ((c.toNat : Int) == 0) = true ∨ ((c.toNat : Int) == 0) = false := by cases ((c.toNat : Int) == 0) <;> simp
          clear hC
          rcases h0d with h0d | h0d
          all_goals
            go_wp2
            go_ret3
            rw [HN3.out]
            exact ⟨rfl, rfl⟩
      have hN : ¬ (191 < c.toNat ∨ 144115188075855871 < y ∨ (decide (k = 0) = true ∧ c.toNat = 0)) := by
        simp only [decide_eq_true_eq]; omega
      rw [if_neg hN] at HN2
      have hy2 : 64 * y + c.toNat % 64 < 9223372036854775808 := by omega
      have hw0 : (0 : Int) ≤ 64 * (y : Int) + (c.toNat : Int) % 64 := by omega
      have hcases : (((c.toNat : Int) == 0) = false ∧ ((k : Int) == 0) = true ∧ k = 0) ∨ (((c.toNat : Int) == 0) = false ∧ ((k : Int) == 0) = false ∧ k ≠ 0) ∨ (((c.toNat : Int) == 0) = true ∧ ((k : Int) == 0) = false ∧ k ≠ 0) := by
        rcases Nat.eq_zero_or_pos c.toNat with q | q <;> rcases Nat.eq_zero_or_pos k with r | r
        · exact absurd ⟨r, q⟩ hC
        · exact .inr (.inr ⟨by simp [q], by simp; omega, by omega⟩)
        · exact .inl ⟨by simp; omega, by simp [r], r⟩
        · exact .inr (.inl ⟨by simp; omega, by simp; omega, by omega⟩)
      by_cases hD : 63 < c.toNat
      · rw [if_pos hD] at HN2
        by_cases hE : 127 < c.toNat
        · have HN3 : Aside (W = (-1 - ((64 * y + c.toNat % 64 : Nat) : Int), k + 1, 0)) := ⟨by rw [HW.out, ← HN2]; simp [rdWholeOf, hE]⟩
          clear HN2 hN hC HN HW
          rcases hcases with ⟨q1, q2, rfl⟩ | ⟨q1, q2, q3⟩ | ⟨q1, q2, q3⟩
          all_goals
            go_wp2
            go_ret3
            rw [HN3.out]
            exact ⟨tup3 (by go_num) (by first | rfl | go_num) rfl, rfl⟩
        · have HN3 : Aside (W = (((64 * y + c.toNat % 64 : Nat) : Int), k + 1, 0)) := ⟨by rw [HW.out, ← HN2]; simp [rdWholeOf, hE]⟩
          clear HN2 hN hC HN HW
          rcases hcases with ⟨q1, q2, rfl⟩ | ⟨q1, q2, q3⟩ | ⟨q1, q2, q3⟩
          all_goals
            go_wp2
            go_ret3
            rw [HN3.out]
            exact ⟨tup3 (by go_num) (by first | rfl | go_num) rfl, rfl⟩
      · rw [if_neg hD] at HN2
        have HN3 := Aside.mk HN2
        clear HN2 hN hC HN HW
        rcases hcases with ⟨q1, q2, rfl⟩ | ⟨q1, q2, q3⟩ | ⟨q1, q2, q3⟩
        all_goals
          go_wp2
          go_round
          case rel => first | exact ⟨k + 1, 64 * y + c.toNat % 64, by omega, by go_num, by go_num, hy2, ⟨by simpa using HN3.out⟩⟩ | exact ⟨1, 64 * y + c.toNat % 64, by omega, by go_num, by go_num, hy2, ⟨by simpa using HN3.out⟩⟩
          case measure => simp [intOf]; omega
    · have hk2 : k = s.size := by omega
      have HN2 := HN.out
      rw [List.drop_of_length_le (by have := HZ.out; omega)] at HN2
      unfold numGo at HN2
      have HN3 : Aside (W = (0, 0, 2)) := ⟨by rw [HW.out, ← HN2]; rfl⟩
      clear HN2
      subst hk2
      go_wp2
      go_ret3
      rw [HN3.out]
      exact ⟨rfl, rfl⟩

def retS (l : List UInt8) (k e : Nat) : Ending := .returned (.tuple #[.string ⟨l.toArray⟩, .int .i64 (k : Nat), .int .i64 (e : Nat)])

set_option maxHeartbeats 1600000 in
set_option maxRecDepth 100000 in
theorem rreadcount_any (w : World) (s : ByteArray) (hs : s.size ≤ 140737488355328) : Calls Try.prog 98 #[.string s] w fun e w' =>
    e = ret3 ((rdCount s.data.toList).1, (rdCount s.data.toList).2.1, (rdCount s.data.toList).2.2) ∧ w' = w := by
  have HN := Aside.mk (rreadwhole_any w s hs)
  have HC := Aside.mk (show rdCount s.data.toList = if (num s.data.toList).2.2.2 ≠ 0 then (0, 0, (num s.data.toList).2.2.2) else if (num s.data.toList).2.1 then (0, 0, 3) else ((num s.data.toList).1, (num s.data.toList).2.2.1, 0) from rfl)
  have HW := Aside.mk (show rdWhole s.data.toList = rdWholeOf (num s.data.toList) from rfl)
  generalize rdCount s.data.toList = C at *
  generalize rdWhole s.data.toList = W at *
  generalize num s.data.toList = R at *
  obtain ⟨R1, R2, R3, R4⟩ := R
  obtain ⟨W1, W2, W3⟩ := W
  have hWo := HW.out
  by_cases h4 : R4 = 0
  · subst h4
    cases R2 with
    | true =>
      have HC2 : Aside (C = (0, 0, 3)) := ⟨by rw [HC.out]; simp⟩
      simp [rdWholeOf] at hWo
      obtain ⟨rfl, rfl, rfl⟩ := hWo
      have hlt : decide (-1 - (R1 : Int) < 0) = true := by simp; omega
      clear HC HW
      go_enter Try.func98, Try.ntmps98
      go_wp2_with fail
      refine HN.out.mono ?_
      rintro e w1 ⟨rfl, rfl⟩
      simp only [ret3]
      go_wp2
      go_ret3
      rw [HC2.out]
      exact ⟨rfl, rfl⟩
    | false =>
      have HC2 : Aside (C = (R1, R3, 0)) := ⟨by rw [HC.out]; simp⟩
      simp [rdWholeOf] at hWo
      obtain ⟨rfl, rfl, rfl⟩ := hWo
      have hlt : decide ((R1 : Int) < 0) = false := by simp
      clear HC HW
      go_enter Try.func98, Try.ntmps98
      go_wp2_with fail
      refine HN.out.mono ?_
      rintro e w1 ⟨rfl, rfl⟩
      simp only [ret3]
      go_wp2
      go_ret3
      rw [HC2.out]
      exact ⟨rfl, rfl⟩
  · have HC2 : Aside (C = (0, 0, R4)) := ⟨by rw [HC.out]; simp [h4]⟩
    simp [rdWholeOf, h4] at hWo
    obtain ⟨rfl, rfl, rfl⟩ := hWo
    have h4b : ((W3 : Int) == 0) = false := by simp; omega
    clear HC HW
    go_enter Try.func98, Try.ntmps98
    go_wp2_with fail
    refine HN.out.mono ?_
    rintro e w1 ⟨rfl, rfl⟩
    simp only [ret3]
    go_wp2
    go_ret3
    rw [HC2.out]
    exact ⟨rfl, rfl⟩

set_option maxHeartbeats 1600000 in
set_option maxRecDepth 100000 in
theorem rreadraw_any (w : World) (s : ByteArray) (i : Int) (h0 : 0 ≤ i) (h1 : i < 9223372036854775808) (hs : s.size ≤ 140737488355328) : Calls Try.prog 100 #[.string s, .int .i64 i] w fun e w' =>
    e = retS (rdRaw s.data.toList i.toNat).1 (rdRaw s.data.toList i.toNat).2.1 (rdRaw s.data.toList i.toNat).2.2 ∧ w' = w := by
  obtain ⟨n, rfl⟩ := Int.eq_ofNat_of_zero_le h0
  rw [Int.toNat_natCast]
  have hd : decide ((n : Int) < 0) = false := by simp
  have hz := ba_size s
  by_cases hn : s.size < n
  · have HR : Aside (rdRaw s.data.toList n = ([], 0, 2)) := ⟨by unfold rdRaw; rw [if_pos (by omega)]⟩
    clear hz
    go_enter Try.func100, Try.ntmps100
    go_wp2
    go_ret3
    rw [HR.out]
    exact ⟨rfl, rfl⟩
  · have HR : Aside (rdRaw s.data.toList n = (s.data.toList.take n, n, 0)) := ⟨by unfold rdRaw; rw [if_neg (by omega)]⟩
    clear hz
    go_enter Try.func100, Try.ntmps100
    go_wp2
    go_ret3
    rw [HR.out]
    exact ⟨tup3 (congrArg Value.string (by rw [ba_extract]; simp)) rfl rfl, rfl⟩

set_option maxHeartbeats 1600000 in
set_option maxRecDepth 100000 in
theorem rreadtext_any (w : World) (s : ByteArray) (hs : s.size ≤ 140737488355328) : Calls Try.prog 85 #[.string s] w fun e w' =>
    e = retS (rdText s.data.toList).1 (rdText s.data.toList).2.1 (rdText s.data.toList).2.2 ∧ w' = w := by
  have HN := Aside.mk (rreadcount_any w s hs)
  have hk := rdCount_size s.data.toList
  have hcl := rdCount_lt s.data.toList
  rw [← ba_size] at hk
  have HT := Aside.mk (show rdText s.data.toList = if (rdCount s.data.toList).2.2 ≠ 0 then ([], 0, (rdCount s.data.toList).2.2) else if (s.data.toList.drop (rdCount s.data.toList).2.1).length < (rdCount s.data.toList).1 then ([], 0, 2) else ((s.data.toList.drop (rdCount s.data.toList).2.1).take (rdCount s.data.toList).1, (rdCount s.data.toList).2.1 + (rdCount s.data.toList).1, 0) from rfl)
  generalize rdText s.data.toList = T at *
  generalize rdCount s.data.toList = C at *
  obtain ⟨C1, C2, C3⟩ := C
  simp only at hk hcl HN HT
  by_cases h3 : C3 = 0
  · subst h3
    have hes : (s.extract C2 s.size).size ≤ 140737488355328 := by rw [ByteArray.size_extract]; omega
    have HR := Aside.mk (rreadraw_any w (s.extract C2 s.size) (C1 : Int) (by omega) (by omega) hes)
    have hel : (s.extract C2 s.size).data.toList = s.data.toList.drop C2 := by
      rw [ba_extract, ba_size]; simp; rw [List.take_of_length_le (by simp)]
    rw [Int.toNat_natCast, hel] at HR
    clear hes hel
    go_enter Try.func85, Try.ntmps85
    go_wp2_with fail
    refine HN.out.mono ?_
    rintro e w1 ⟨rfl, rfl⟩
    simp only [ret3]
    by_cases hn : (s.data.toList.drop C2).length < C1
    · have HT2 : Aside (T = ([], 0, 2)) := ⟨by rw [HT.out, if_neg (by simp), if_pos hn]⟩
      have e1 : rdRaw (s.data.toList.drop C2) C1 = ([], 0, 2) := by unfold rdRaw; rw [if_pos hn]
      rw [e1] at HR
      clear HT e1 hn
      go_wp2_with fail
      refine HR.out.mono ?_
      rintro e w2 ⟨rfl, rfl⟩
      simp only [retS]
      go_wp2
      go_ret3
      rw [HT2.out]
      exact ⟨rfl, rfl⟩
    · have HT2 : Aside (T = ((s.data.toList.drop C2).take C1, C2 + C1, 0)) := ⟨by rw [HT.out, if_neg (by simp), if_neg hn]⟩
      have e1 : rdRaw (s.data.toList.drop C2) C1 = ((s.data.toList.drop C2).take C1, C1, 0) := by unfold rdRaw; rw [if_neg hn]
      rw [e1] at HR
      have hn2 : C2 + C1 ≤ s.size := by simp only [List.length_drop, ← ba_size] at hn; omega
      clear HT e1 hn
      go_wp2_with fail
      refine HR.out.mono ?_
      rintro e w2 ⟨rfl, rfl⟩
      simp only [retS]
      go_wp2
      go_ret3
      rw [HT2.out]
      exact ⟨tup3 rfl (by go_num) rfl, rfl⟩
  · have HT2 : Aside (T = ([], 0, C3)) := ⟨by rw [HT.out]; simp [h3]⟩
    have h3b : ((C3 : Int) == 0) = false := by simp; omega
    clear HT
    go_enter Try.func85, Try.ntmps85
    go_wp2_with fail
    refine HN.out.mono ?_
    rintro e w1 ⟨rfl, rfl⟩
    simp only [ret3]
    go_wp2
    go_ret3
    rw [HT2.out]
    exact ⟨rfl, rfl⟩

end Go.Proofs.Ytodhkdmkkjhnnaa
