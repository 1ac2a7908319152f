/- The frames at the beginning of a log: plain words. -/
import Derived.Test.YtodhkdmkkjhnnaaWalS
import Derived.Test.YtodhkdmkkjhnnaaPure17
set_option linter.unusedVariables false
namespace Go.Proofs.Ytodhkdmkkjhnnaa

/-- Does a whole frame stand here? -/
def stepW (l : List UInt8) : Bool := decide ((rdText l).2.2 = 0) && decide ((rdText l).2.1 + 4 ≤ l.length) && decide (frameB (rdText l).1 = l.take ((rdText l).2.1 + 4))

theorem stepW_true {l : List UInt8} (h : stepW l = true) : (rdText l).2.2 = 0 ∧ (rdText l).2.1 + 4 ≤ l.length ∧ frameB (rdText l).1 = l.take ((rdText l).2.1 + 4) := by
  unfold stepW at h
  simp only [Bool.and_eq_true, decide_eq_true_eq] at h
  exact ⟨h.1.1, h.1.2, h.2⟩
theorem stepW_of {l : List UInt8} (h1 : (rdText l).2.2 = 0) (h2 : (rdText l).2.1 + 4 ≤ l.length) (h3 : frameB (rdText l).1 = l.take ((rdText l).2.1 + 4)) : stepW l = true := by
  unfold stepW
  rw [decide_eq_true h1, decide_eq_true h2, decide_eq_true h3]; rfl
theorem stepW_no {l : List UInt8} (h : ¬ ((rdText l).2.2 = 0 ∧ (rdText l).2.1 + 4 ≤ l.length ∧ frameB (rdText l).1 = l.take ((rdText l).2.1 + 4))) : stepW l = false := by
  cases q : stepW l with
  | false => rfl
  | true => exact absurd (stepW_true q) h

/-- The records of the whole frames at the beginning, and how many bytes these have. -/
def splitW (l : List UInt8) : List ByteArray × Nat :=
  if h : stepW l = true then
    (⟨(rdText l).1.toArray⟩ :: (splitW (l.drop ((rdText l).2.1 + 4))).1, (rdText l).2.1 + 4 + (splitW (l.drop ((rdText l).2.1 + 4))).2)
  else ([], 0)
termination_by l.length
decreasing_by all_goals (have := (stepW_true h).2.1; simp only [List.length_drop]; omega)

theorem splitW_stop {l : List UInt8} (h : stepW l = false) : splitW l = ([], 0) := by
  rw [splitW, dif_neg (by simp [h])]
theorem splitW_go {l : List UInt8} (h : stepW l = true) : splitW l = (⟨(rdText l).1.toArray⟩ :: (splitW (l.drop ((rdText l).2.1 + 4))).1, (rdText l).2.1 + 4 + (splitW (l.drop ((rdText l).2.1 + 4))).2) := by
  rw [splitW, dif_pos h]

theorem splitW_few (l : List UInt8) : 4 * (splitW l).1.length ≤ l.length := by
  generalize hn : l.length = n
  induction n using Nat.strongRecOn generalizing l with
  | _ n ih =>
    cases h : stepW l with
    | false => rw [splitW_stop h]; simp
    | true =>
      have hq := stepW_true h
      rw [splitW_go h]
      have hi := ih (l.drop ((rdText l).2.1 + 4)).length (by simp only [List.length_drop]; omega) _ rfl
      simp only [List.length_cons, List.length_drop] at hi ⊢
      omega

/-- So far these records were told, and so many bytes are gone over. -/
structure SplitAt (s : List UInt8) (acc : List ByteArray) (at_ : Nat) : Prop where
  eq : splitW s = (acc ++ (splitW (s.drop at_)).1, at_ + (splitW (s.drop at_)).2)
  le : at_ ≤ s.length
  few : 4 * acc.length ≤ at_

theorem SplitAt.start (s : List UInt8) : SplitAt s [] 0 := ⟨by simp, by omega, by simp⟩
theorem SplitAt.stop {s : List UInt8} {acc : List ByteArray} {at_ : Nat} (H : SplitAt s acc at_) (h : stepW (s.drop at_) = false) : splitW s = (acc, at_) := by
  rw [H.eq, splitW_stop h]; simp
theorem SplitAt.step {s : List UInt8} {acc : List ByteArray} {at_ m e : Nat} {t : List UInt8} (H : SplitAt s acc at_) (hr : rdText (s.drop at_) = (t, m, e)) (h : stepW (s.drop at_) = true) : SplitAt s (acc ++ [⟨t.toArray⟩]) (at_ + (m + 4)) := by
  have hq := stepW_true h
  have h1 := H.eq
  rw [splitW_go h, hr] at h1
  rw [hr] at hq
  simp only [List.drop_drop, List.length_drop] at h1 hq
  have := H.le
  have := H.few
  refine ⟨?_, by omega, ?_⟩
  · rw [h1]; simp only [List.append_assoc, List.singleton_append, Nat.add_assoc]
  · simp only [List.length_append, List.length_singleton]; omega

theorem take_frame {l t : List UInt8} {m : Nat} (h : rdText l = (t, m, 0)) (hl : m + 4 ≤ l.length) : ((Crc.take (l.take (m + 4))).2 = 0) = (frameB t = l.take (m + 4)) := by
  have hg := rdText_gs h
  unfold frameB
  rw [hg]
  unfold Crc.take
  have hn : (l.take (m + 4)).length = m + 4 := by simp; omega
  rw [hn, if_neg (by omega), show m + 4 - 4 = m by omega, List.take_take, Nat.min_eq_left (by omega)]
  by_cases hq : Crc.put (l.take m) = l.take (m + 4)
  · rw [if_pos hq]; simp [hq]
  · rw [if_neg hq]; simp [hq]

end Go.Proofs.Ytodhkdmkkjhnnaa
