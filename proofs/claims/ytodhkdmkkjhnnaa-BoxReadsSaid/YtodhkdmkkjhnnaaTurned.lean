/- A byte turned of a text with its sum: plain words. -/
import Derived.Test.YtodhkdmkkjhnnaaPure17
set_option linter.unusedVariables false
namespace Go.Proofs.Ytodhkdmkkjhnnaa

theorem four_inj {x y : Nat} (hx : x < 4294967296) (hy : y < 4294967296) (h : Crc.four x = Crc.four y) : x = y := by
  unfold Crc.four at h
  simp only [List.cons.injEq, and_true] at h
  obtain ⟨h1, h2, h3, h4⟩ := h
  have k1 := congrArg UInt8.toNat h1
  have k2 := congrArg UInt8.toNat h2
  have k3 := congrArg UInt8.toNat h3
  have k4 := congrArg UInt8.toNat h4
  simp only [UInt8.toNat_ofNat'] at k1 k2 k3 k4
  omega

theorem take_turned (l A B : List UInt8) (c d : UInt8) (h : c ≠ d) (e : Crc.put l = A ++ c :: B) : Crc.take (A ++ d :: B) = ([], 4) := by
  have hl := Crc.put_len l
  rw [e] at hl
  have hl2 : (A ++ d :: B).length = l.length + 4 := by rw [← hl]; simp
  unfold Crc.take
  rw [if_neg (by omega), hl2, show l.length + 4 - 4 = l.length by omega]
  rw [if_neg ?_]
  intro q
  have e1 : (A ++ c :: B).take l.length = l := by rw [← e]; unfold Crc.put; rw [List.take_left']; rfl
  have e2 : (A ++ c :: B).drop l.length = Crc.four (Crc.sum l) := by rw [← e]; unfold Crc.put; rw [List.drop_left']; rfl
  by_cases hA : A.length < l.length
  · obtain ⟨j, hj⟩ : ∃ j, l.length - A.length = j + 1 := ⟨l.length - A.length - 1, by omega⟩
    have t1 : ∀ z : UInt8, (A ++ z :: B).take l.length = A ++ z :: B.take j := fun z => by
      rw [List.take_append, List.take_of_length_le (by omega), hj, List.take_succ_cons]
    have t2 : ∀ z : UInt8, (A ++ z :: B).drop l.length = B.drop j := fun z => by
      rw [List.drop_append, List.drop_of_length_le (by omega), hj, List.drop_succ_cons, List.nil_append]
    rw [t1] at e1 q
    rw [t2] at e2
    have hX : (A ++ d :: B.take j).length = l.length := by rw [← e1]; simp
    have q2 : Crc.four (Crc.sum (A ++ d :: B.take j)) = B.drop j := by
      have := congrArg (List.drop l.length) q
      unfold Crc.put at this
      rw [← hX, List.drop_left' rfl, hX, t2] at this
      exact this
    rw [e2] at q2
    have := four_inj (Crc.sum_lt _) (Crc.sum_lt _) q2
    rw [← e1] at this
    exact Crc.sum_turned A (B.take j) c d h this.symm
  · have t1 : ∀ z : UInt8, (A ++ z :: B).take l.length = A.take l.length := fun z => by
      rw [List.take_append, show l.length - A.length = 0 by omega]; simp
    rw [t1] at e1 q
    rw [e1, e] at q
    simp at q
    exact h q

theorem openR_turned (l A B : List UInt8) (c d : UInt8) (h : c ≠ d) (e : Crc.put l = A ++ c :: B) : openR (A ++ d :: B) = (Rec.zero, 4) := by
  unfold openR
  rw [take_turned l A B c d h e]
  rfl
end Go.Proofs.Ytodhkdmkkjhnnaa
