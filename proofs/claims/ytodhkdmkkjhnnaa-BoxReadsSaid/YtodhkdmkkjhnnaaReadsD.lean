/- The walk of silolaw17.BoxReads, joined. -/
import Derived.Test.YtodhkdmkkjhnnaaReadsC
set_option linter.unusedVariables false
namespace Go.Proofs.Ytodhkdmkkjhnnaa
open Go.RowKit

theorem bits_xor_u8 (a b : Nat) (ha : a < 256) (hb : b < 256) : bits .xor .u8 (a : Int) (b : Int) = ((a ^^^ b : Nat) : Int) := by
  have h1 : (BitVec.ofInt 8 (a : Int)).toNat = a := by rw [BitVec.toNat_ofInt]; simp; omega
  have h2 : (BitVec.ofInt 8 (b : Int)).toNat = b := by rw [BitVec.toNat_ofInt]; simp; omega
  have hx : a ^^^ b < 256 := Nat.xor_lt_two_pow (n := 8) ha hb
  unfold bits
  show IntKind.u8.wrap (((BitVec.ofInt 8 (a : Int) ^^^ BitVec.ofInt 8 (b : Int)).toNat : Nat) : Int) = _
  rw [BitVec.toNat_xor, h1, h2]
  simp [IntKind.wrap, IntKind.bits, IntKind.signed]; omega

theorem packR_len {r : Rec} (hr : r.Ok) : (packR r).1.length ≤ 20000 := by
  unfold packR
  split
  · simp
  · rename_i h
    split
    · simp
    · have h1 := gs_len 1 64 (by omega)
      have h0 := gs_len 0 64 (by omega)
      have h2 := gs_len r.body.length 64 (by omega)
      have hk := hr.1
      have hb := hr.2
      rw [Crc.put_len]
      unfold recB
      split <;> simp only [List.length_append] <;> omega
theorem packR_put {r : Rec} (h : (packR r).1 ≠ []) : ∃ l, (packR r).1 = Crc.put l := by
  unfold packR at h ⊢
  split at h
  · simp at h
  · split at h
    · simp at h
    · rename_i h1 h2; rw [if_neg h1, if_neg h2]; exact ⟨_, rfl⟩

theorem oa_of (T : List UInt8) (h : T.length ≤ 1000000) : OA T (openR T).1 (openR T).2 := fun W => boxopen_any W ⟨T.toArray⟩ (by simp only [ByteArray.size, List.size_toArray]; omega)
theorem ob_of (T : List UInt8) (h : T.length ≤ 1000000) : OB T (openR T).1 (openR T).2 := fun W => refopen_any W ⟨T.toArray⟩ (by simp only [ByteArray.size, List.size_toArray]; omega)

theorem tail_of {r : Rec} (hr : r.Ok) (at_ y : Int) (hy : 0 ≤ y ∧ y ≤ 255) : Tail (packR r).1 at_ y := by
  have hl := packR_len hr
  have hp := packR_put (r := r)
  generalize (packR r).1 = P at *
  by_cases hP : P = []
  · exact .inl hP
  by_cases hy0 : y = 0
  · exact .inr (.inl ⟨hP, hy0⟩)
  obtain ⟨l, hl2⟩ := hp hP
  have hpos : 0 < P.length := List.length_pos_iff.2 hP
  obtain ⟨u, hu⟩ : ∃ u : Nat, IntKind.u64.wrap at_ = (u : Int) := by
    refine ⟨(IntKind.u64.wrap at_).toNat, ?_⟩
    have : 0 ≤ IntKind.u64.wrap at_ := by simp [IntKind.wrap, IntKind.bits, IntKind.signed]; omega
    omega
  have hi : u % P.length < P.length := Nat.mod_lt _ hpos
  generalize hiv : u % P.length = i at *
  have hc : P[i]? = some P[i] := List.getElem?_eq_getElem hi
  generalize P[i] = c at *
  obtain ⟨z, rfl⟩ : ∃ z : Nat, y = (z : Int) := ⟨y.toNat, by omega⟩
  have hz : z < 256 := by omega
  have hdn : (UInt8.ofNat (c.toNat ^^^ z)).toNat = c.toNat ^^^ z := by
    have hx : c.toNat ^^^ z < 256 := Nat.xor_lt_two_pow (n := 8) (by have := c.toNat_lt; omega) hz
    simp only [UInt8.toNat_ofNat']; omega
  refine .inr (.inr ⟨i, c, UInt8.ofNat (c.toNat ^^^ z), hP, hy0, hi, hc, ?_, ?_, ?_⟩)
  · rw [hu, Int.tmod_eq_emod_of_nonneg (by omega), ← hiv]; rfl
  · rw [hdn]; exact bits_xor_u8 _ _ (by have := c.toNat_lt; omega) hz
  · have hne : c ≠ UInt8.ofNat (c.toNat ^^^ z) := by
      intro q
      have q2 := congrArg UInt8.toNat q
      rw [hdn] at q2
      have q3 := congrArg (fun t => c.toNat ^^^ t) q2
      simp only [Nat.xor_self, ← Nat.xor_assoc, Nat.zero_xor] at q3
      omega
    have hset : P.set i (UInt8.ofNat (c.toNat ^^^ z)) = P.take i ++ UInt8.ofNat (c.toNat ^^^ z) :: P.drop (i + 1) := by
      rw [List.set_eq_take_append_cons_drop, if_pos hi]
    have hsp : Crc.put l = P.take i ++ c :: P.drop (i + 1) := by
      rw [← hl2]
      conv => lhs; rw [← List.take_append_drop i P]
      congr 1
      rw [List.drop_eq_getElem_cons hi]
      congr 1
      have := List.getElem?_eq_getElem hi
      rw [hc] at this; exact (Option.some.inj this).symm
    have ho := oa_of (P.set i (UInt8.ofNat (c.toNat ^^^ z))) (by rw [List.length_set]; omega)
    rw [hset, openR_turned l _ _ _ _ hne hsp] at ho
    rw [hset]; exact ho

theorem reads_any (w : World) (r : Rec) (hr : r.Ok) (s : ByteArray) (n a k at_ y : Int) (hy : 0 ≤ y ∧ y ≤ 255) : RdCall w r s n a k at_ y := by
  by_cases hb : 30000 < r.body.length
  · exact reads_long w r hr s n a k at_ y (.inl hb)
  by_cases hs : 30000 < s.size
  · exact reads_long w r hr s n a k at_ y (.inr hs)
  have hss : s = ⟨s.data.toList.toArray⟩ := by rw [Array.toArray_toList]
  have hsl := ba_size s
  have HP : PK r (packR r).1 (packR r).2 := fun W => refpack_any W r hr (by omega)
  have hT := tail_of hr at_ y hy
  have hl := packR_len hr
  generalize packR r = Q at *
  obtain ⟨P, pf⟩ := Q
  simp only at HP hT hl
  generalize s.data.toList = S at *
  rw [hss]
  by_cases hn : n = 1
  · subst hn
    by_cases hbad : a < 0 ∨ k < 0 ∨ (P.length + S.length : Int) < a ∨ (P.length + S.length : Int) - a < k
    · exact reads_bad w r hr S P a k at_ y pf hb (by omega) hl HP hbad hT
    · obtain ⟨A, rfl⟩ : ∃ A : Nat, a = (A : Int) := ⟨a.toNat, by omega⟩
      obtain ⟨K, rfl⟩ : ∃ K : Nat, k = (K : Int) := ⟨k.toNat, by omega⟩
      have hTl : (((P ++ S).drop A).take K).length ≤ 1000000 := by simp; omega
      exact reads_ok w r hr S P A K at_ y pf hb (by omega) hl HP (by omega) _ (openR_ok _) _ (oa_of _ hTl) (ob_of _ hTl) hT
  · exact reads_none w r hr S P n a k at_ y pf hb (by omega) hl HP hn hT
end Go.Proofs.Ytodhkdmkkjhnnaa
