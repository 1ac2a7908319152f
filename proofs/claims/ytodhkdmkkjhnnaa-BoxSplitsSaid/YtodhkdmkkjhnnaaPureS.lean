/- The records at the beginning of bytes: plain words. -/
import Derived.Test.YtodhkdmkkjhnnaaPure17
set_option linter.unusedVariables false
namespace Go.Proofs.Ytodhkdmkkjhnnaa

theorem rdRec_size (l : List UInt8) : (rdRec l).2.1 ≤ l.length := by
  have hb : ∀ k b p m n, n + m.length ≤ l.length → (rdBody k b p m n).2.1 ≤ l.length := by
    intro k b p m n h
    have := rdText_size m
    unfold rdBody
    split
    · simp
    · split
      · simp
      · simp only; omega
  unfold rdRec
  split
  · simp
  · rename_i h
    have hc := rdCount_size (l.drop 32)
    simp only [List.length_drop] at hc
    unfold rdKind
    split
    · simp
    · split
      · simp
      · split
        · split
          · simp
          · rename_i h4
            simp only [List.length_drop] at h4
            exact hb _ _ _ _ _ (by simp only [List.length_drop]; omega)
        · exact hb _ _ _ _ _ (by simp only [List.length_drop]; omega)

/-- Where a record stands, how many bytes it has, and the record. -/
structure It where
  at_ : Nat
  len : Nat
  r : Rec

def itemOf (a : Nat) (l : List UInt8) : It := ⟨a, (rdRec l).2.1 + 4, (openR (l.take ((rdRec l).2.1 + 4))).1⟩

/-- Does a whole record stand here? -/
def stepR (l : List UInt8) : Bool := decide ((rdRec l).2.2 = 0) && decide ((rdRec l).2.1 + 4 ≤ l.length) && decide ((openR (l.take ((rdRec l).2.1 + 4))).2 = 0)

theorem stepR_true {l : List UInt8} (h : stepR l = true) : (rdRec l).2.2 = 0 ∧ (rdRec l).2.1 + 4 ≤ l.length ∧ (openR (l.take ((rdRec l).2.1 + 4))).2 = 0 := by
  unfold stepR at h
  simp only [Bool.and_eq_true, decide_eq_true_eq] at h
  exact ⟨h.1.1, h.1.2, h.2⟩
theorem stepR_of {l : List UInt8} (h1 : (rdRec l).2.2 = 0) (h2 : (rdRec l).2.1 + 4 ≤ l.length) (h3 : (openR (l.take ((rdRec l).2.1 + 4))).2 = 0) : stepR l = true := by
  unfold stepR
  rw [decide_eq_true h1, decide_eq_true h2, decide_eq_true h3]; rfl
theorem stepR_no {l : List UInt8} (h : ¬ ((rdRec l).2.2 = 0 ∧ (rdRec l).2.1 + 4 ≤ l.length ∧ (openR (l.take ((rdRec l).2.1 + 4))).2 = 0)) : stepR l = false := by
  cases q : stepR l with
  | false => rfl
  | true => exact absurd (stepR_true q) h

/-- The records at the beginning, the first one at a; and where they end. -/
def splitR (a : Nat) (l : List UInt8) : List It × Nat :=
  if h : stepR l = true then
    (itemOf a l :: (splitR (a + ((rdRec l).2.1 + 4)) (l.drop ((rdRec l).2.1 + 4))).1, (splitR (a + ((rdRec l).2.1 + 4)) (l.drop ((rdRec l).2.1 + 4))).2)
  else ([], a)
termination_by l.length
decreasing_by all_goals (have := (stepR_true h).2.1; simp only [List.length_drop]; omega)

theorem splitR_stop {a : Nat} {l : List UInt8} (h : stepR l = false) : splitR a l = ([], a) := by
  rw [splitR, dif_neg (by simp [h])]
theorem splitR_go {a : Nat} {l : List UInt8} (h : stepR l = true) : splitR a l = (itemOf a l :: (splitR (a + ((rdRec l).2.1 + 4)) (l.drop ((rdRec l).2.1 + 4))).1, (splitR (a + ((rdRec l).2.1 + 4)) (l.drop ((rdRec l).2.1 + 4))).2) := by
  rw [splitR, dif_pos h]

/-- Each begins where the one ahead ends. -/
def Chain : Nat → List It → Prop
  | _, [] => True
  | a, x :: xs => x.at_ = a ∧ Chain (a + x.len) xs
def endAt : Nat → List It → Nat → Nat
  | a, _, 0 => a
  | a, [], _ + 1 => a
  | a, x :: xs, i + 1 => endAt (a + x.len) xs i
theorem endAt_zero (a : Nat) (xs : List It) : endAt a xs 0 = a := by cases xs <;> rfl
theorem Chain.get : ∀ {a : Nat} {xs : List It} (h : Chain a xs) (i : Nat) (hi : i < xs.length), xs[i].at_ = endAt a xs i ∧ endAt a xs (i + 1) = xs[i].at_ + xs[i].len := by
  intro a xs
  induction xs generalizing a with
  | nil => intro _ i hi; simp at hi
  | cons x xs ih =>
    intro h i hi
    obtain ⟨h1, h2⟩ := h
    cases i with
    | zero => exact ⟨h1, by simp only [endAt, endAt_zero, List.getElem_cons_zero]; rw [h1]⟩
    | succ i => exact ih h2 i (by simpa using hi)

theorem splitR_all (l : List UInt8) : ∀ a, Chain a (splitR a l).1 ∧ (∀ x ∈ (splitR a l).1, x.r.Ok ∧ x.at_ + x.len ≤ a + l.length) ∧ 4 * (splitR a l).1.length ≤ l.length := by
  generalize hn : l.length = n
  induction n using Nat.strongRecOn generalizing l with
  | _ n ih =>
    intro a
    cases h : stepR l with
    | false => rw [splitR_stop h]; exact ⟨trivial, by simp, by simp⟩
    | true =>
      have hq := stepR_true h
      rw [splitR_go h]
      obtain ⟨h1, h2, h3⟩ := ih (l.drop ((rdRec l).2.1 + 4)).length (by simp only [List.length_drop]; omega) _ rfl (a + ((rdRec l).2.1 + 4))
      refine ⟨⟨rfl, h1⟩, ?_, ?_⟩
      · intro x hx
        rcases List.mem_cons.1 hx with rfl | hx
        · exact ⟨openR_ok _, by show a + ((rdRec l).2.1 + 4) ≤ a + n; omega⟩
        · have := h2 x hx
          simp only [List.length_drop] at this
          exact ⟨this.1, by omega⟩
      · simp only [List.length_cons, List.length_drop] at h3 ⊢
        omega

/-- So far these records were told, and so many bytes are gone over. -/
structure SplitRAt (s : List UInt8) (acc : List It) (at_ : Nat) : Prop where
  eq : splitR 0 s = (acc ++ (splitR at_ (s.drop at_)).1, (splitR at_ (s.drop at_)).2)
  le : at_ ≤ s.length
  few : 4 * acc.length ≤ at_
  ok : ∀ x ∈ acc, x.r.Ok

theorem SplitRAt.start (s : List UInt8) : SplitRAt s [] 0 := ⟨by simp, by omega, by simp, by simp⟩
theorem SplitRAt.stop {s : List UInt8} {acc : List It} {at_ : Nat} (H : SplitRAt s acc at_) (h : stepR (s.drop at_) = false) : splitR 0 s = (acc, at_) := by
  rw [H.eq, splitR_stop h]; simp
theorem SplitRAt.step {s : List UInt8} {acc : List It} {at_ n e : Nat} {r0 r : Rec} (H : SplitRAt s acc at_) (hr : rdRec (s.drop at_) = (r0, n, e)) (hO : openR ((s.drop at_).take (n + 4)) = (r, 0)) (h : stepR (s.drop at_) = true) : SplitRAt s (acc ++ [⟨at_, n + 4, r⟩]) (at_ + (n + 4)) := by
  have hq := stepR_true h
  have h1 := H.eq
  rw [splitR_go h] at h1
  unfold itemOf at h1
  rw [hr] at hq h1
  simp only at hq h1
  rw [hO] at h1
  simp only [List.drop_drop, List.length_drop] at h1 hq
  have h2 := H.le
  have h3 := H.few
  refine ⟨?_, by omega, ?_, ?_⟩
  · rw [h1]; simp only [List.append_assoc, List.singleton_append]
  · simp only [List.length_append, List.length_singleton]; omega
  · intro x hx
    rcases List.mem_append.1 hx with hx | hx
    · exact H.ok x hx
    · simp only [List.mem_singleton] at hx
      subst hx
      have := openR_ok ((s.drop at_).take (n + 4))
      rw [hO] at this; exact this

end Go.Proofs.Ytodhkdmkkjhnnaa
