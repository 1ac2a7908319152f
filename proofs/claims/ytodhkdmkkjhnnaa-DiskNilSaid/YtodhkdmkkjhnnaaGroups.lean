/- The walk of six.groups. -/
import Derived.Test.YtodhkdmkkjhnnaaSixP
set_option linter.unusedVariables false
namespace Go.Proofs.Ytodhkdmkkjhnnaa
open Go.RowKit

theorem pow64 (t : Nat) : (64 : Nat) ^ t = 2 ^ (6 * t) := by rw [Nat.pow_mul]

set_option maxHeartbeats 1600000 in
set_option maxRecDepth 100000 in
theorem groups_any (v : Value) (bs : List UInt8) (x mark : Nat) (w : World) (hx : x < 9223372036854775808) (hm : mark ≤ 128) (HO : OwnB w v bs) (hl : bs.length + 20 ≤ 140737488355328) :
    Calls Try.prog 91 #[v, .int .u64 x, .int .u8 mark] w fun e w' =>
      ∃ v1, e = .returned v1 ∧ OwnB w' v1 (bs ++ gs x mark) ∧ Fr (own v) w w' ∧ Gro (own v) (own v1) w.heap.size := by
  go_enter Try.func91, Try.ntmps91
  go_wp2
  go_loop [7] (fun i => ∃ t : Nat, t ≤ 10 ∧ i = .int .i64 ((6 * t : Nat) : Int) ∧ Aside (t = 0 ∨ 63 < x / 64 ^ (t - 1))) (fun i => 100 - (intOf i).toNat)
  case atStart => exact ⟨0, by omega, rfl, ⟨.inl rfl⟩⟩
  case round =>
    obtain ⟨t, ht, rfl, HT⟩ := hrel
    go_wp2
    · have h : 63 < (x : Int) / 2 ^ (6 * t) := by assumption
      have h1 : 63 < x / 64 ^ t := by rw [pow64]; exact_mod_cast h
      have ht9 : t ≤ 9 := by
        rcases Nat.lt_or_ge t 10 with q | q
        · omega
        · have : t = 10 := by omega
          subst this
          have e : (64 : Nat) ^ 10 = 1152921504606846976 := by decide
          rw [e] at h1; omega
      go_round
      case rel => exact ⟨t + 1, by omega, by go_num, ⟨.inr h1⟩⟩
      case measure => simp [intOf]; omega
    · have h : (x : Int) / 2 ^ (6 * t) ≤ 63 := by assumption
      have h1 : x / 64 ^ t ≤ 63 := by rw [pow64]; exact_mod_cast h
      have h2 : x / 64 ^ (t + 1) = 0 := by rw [Nat.pow_succ, ← Nat.div_div_eq_div_mul]; generalize x / 64 ^ t = z at h1 ⊢; omega
      have HD : Aside (digs (x / 64 ^ (t + 1)) = []) := ⟨by rw [h2, digs_zero]⟩
      have HX : Aside (∀ j, 0 < j → j ≤ t → 0 < x / 64 ^ j) := ⟨fun j hj hjt => by
        rcases HT.out with q | q
        · omega
        · have e : x / 64 ^ t ≤ x / 64 ^ j := Nat.div_le_div_left (Nat.pow_le_pow_right (by decide) hjt) (Nat.pow_pos (by decide))
          have e2 : x / 64 ^ t = x / 64 ^ (t - 1) / 64 := by rw [Nat.div_div_eq_div_mul, ← Nat.pow_succ]; congr 2; omega
          omega⟩
      clear h h1 h2
      have HO' := Aside.mk HO
      clear HO
      go_loopw [0, 7] (fun u i wr => ∃ j : Nat, j ≤ t ∧ i = .int .i64 ((6 * j : Nat) : Int) ∧ Aside (OwnB wr u (bs ++ (digs (x / 64 ^ (j + 1))).map UInt8.ofNat)) ∧ Aside (Fr (own v) w wr) ∧ Aside (Gro (own v) (own u) w.heap.size))
        (fun _ i _ => (intOf i).toNat)
      case atStart => exact ⟨t, by omega, rfl, ⟨by rw [HD.out]; simpa using HO'.out⟩, ⟨Fr.refl _ _⟩, ⟨fun k hk => .inl hk⟩⟩
      case round =>
        obtain ⟨j, hj, rfl, HO, HF, HG⟩ := hrel
        have HL : Aside ((digs (x / 64 ^ (j + 1))).length ≤ 11) := ⟨digs_len 11 _ (Nat.lt_of_le_of_lt (Nat.div_le_self _ _) (by
            have e : (64 : Nat) ^ 11 = 73786976294838206464 := by decide
            omega))⟩
        go_wp2_with (first | (at_builtin; refine append_byte rfl (.tmp 18) (.tmp 24) rfl u0 (bs ++ (digs (x / 64 ^ (j + 1))).map UInt8.ofNat) _ (UInt8.ofNat (x / 64 ^ j % 64)) ?hn rfl rfl HO.out ?hl ?_) | (at_builtin; refine append_byte rfl (.tmp 26) (.tmp 32) rfl u0 (bs ++ (digs (x / 64 ^ (j + 1))).map UInt8.ofNat) _ (UInt8.ofNat (mark + x % 64)) ?hn2 rfl rfl HO.out ?hl2 ?_))
        case hn =>
          have e : (x : Int) / 2 ^ (6 * j) = ((x / 64 ^ j : Nat) : Int) := by rw [pow64]; exact_mod_cast rfl
          rw [e]; exact byte_of _ (Nat.lt_of_le_of_lt (Nat.div_le_self _ _) (by omega))
        case hl => have := HL.out; simp; omega
        case hn2 => rw [and63 x (by omega)]; simp
        case hl2 => have := HL.out; simp; omega
        · intro v1 w1 ho hf hg
          have hj0 : (0 : Int) < 6 * (j : Int) := by assumption
          have HO1 : Aside (OwnB w1 v1 (bs ++ (digs (x / 64 ^ (j - 1 + 1))).map UInt8.ofNat)) := ⟨by
            have e : j - 1 + 1 = j := by omega
            rw [e, digs_step x j (HX.out j (by omega) hj)]
            simpa using ho⟩
          have HF1 : Aside (Fr (own v) w w1) := ⟨HF.out.trans hf (fun b hb hk => (HG.out b hk).elim id (fun q => by omega))⟩
          have HG1 : Aside (Gro (own v) (own v1) w.heap.size) := ⟨fun k hk => (hg k hk).elim (fun q => HG.out k q) (fun q => .inr (Nat.le_trans HF.out.size q))⟩
          clear ho hf hg HO HF HG
          go_wp2
          go_roundw
          case rel => exact ⟨j - 1, by omega, by go_num, HO1, HF1, HG1⟩
          case measure => simp [intOf]; omega
        · intro v1 w1 ho hf hg
          have hj0 : 6 * (j : Int) ≤ 0 := by assumption
          obtain rfl : j = 0 := by omega
          have HO1 : Aside (OwnB w1 v1 (bs ++ gs x mark)) := ⟨by
            rw [gs_zero]; simpa using ho⟩
          have HF1 : Aside (Fr (own v) w w1) := ⟨HF.out.trans hf (fun b hb hk => (HG.out b hk).elim id (fun q => by omega))⟩
          have HG1 : Aside (Gro (own v) (own v1) w.heap.size) := ⟨fun k hk => (hg k hk).elim (fun q => HG.out k q) (fun q => .inr (Nat.le_trans HF.out.size q))⟩
          clear ho hf hg HO HF HG
          go_wp2
          go_ret
          exact ⟨_, rfl, HO1.out, HF1.out, HG1.out⟩
end Go.Proofs.Ytodhkdmkkjhnnaa
