/- A parameter of records opened. -/
import Derived.Test.YtodhkdmkkjhnnaaRow
import Derived.Test.YtodhkdmkkjhnnaaFewR
import Derived.Lib.SmallJoins
set_option linter.unusedVariables false
namespace Go.Proofs.Ytodhkdmkkjhnnaa
open Go.ChangeShapes Go.WideShapes Go.ChangeAt Go.RowKit
variable {H : Type} {enc : TypeId × Value → H}

set_option maxRecDepth 100000 in
theorem rec_of_trod {W : World} {base : Nat} {sp : Nat → Bool} {hd : Bool} {fuel : Nat} {cs : List Value} {x : DataW H × List MemPlace}
    (hf : DataW.trod enc Try.prog W base sp hd fuel 25 cs = some x) : ∃ r : Rec, r.Ok ∧ cs = recL r := by
  obtain ⟨y0, y1, y2, y3, n, _, hl, h0, h1, h2, h3⟩ := Go.Joins.trod_struct4 Try.underlying25 hf
  have c66 : Try.prog.cellsOf 25 = 66 := by kernel_rfl
  have c32 : Try.prog.cellsOf 23 = 32 := by kernel_rfl
  have cb : Try.prog.cellsOf 4 = 1 := by kernel_rfl
  have cst : Try.prog.cellsOf 9 = 1 := by kernel_rfl
  rw [c66] at hl
  simp only [c32, cb, cst] at h0 h1 h2 h3
  obtain ⟨k, hk, e0⟩ := open_key Try.underlying23 c32 h0
  obtain ⟨b, hb, e1⟩ := open_key Try.underlying23 c32 h1
  obtain ⟨pt, e2, _⟩ := DataW.trod_bool Try.underlying4 h2
  obtain ⟨s, e3, _, _⟩ := DataW.trod_string Try.underlying9 h3
  refine ⟨⟨k, b, pt, s.data.toList⟩, ⟨hk, hb⟩, ?_⟩
  have hA : cs = (cs.drop 0).take 32 ++ ((cs.drop 32).take 32 ++ ((cs.drop 64).take 1 ++ (cs.drop 65).take 1)) := by
    have q1 : (cs.drop 65).take 1 = cs.drop 65 := List.take_of_length_le (by simp only [List.length_drop]; omega)
    rw [q1]
    have q2 : (cs.drop 64).take 1 ++ cs.drop 65 = cs.drop 64 := by
      rw [show cs.drop 65 = (cs.drop 64).drop 1 by rw [List.drop_drop]]; exact List.take_append_drop 1 _
    rw [q2]
    have q3 : (cs.drop 32).take 32 ++ cs.drop 64 = cs.drop 32 := by
      rw [show cs.drop 64 = (cs.drop 32).drop 32 by rw [List.drop_drop]]; exact List.take_append_drop 32 _
    rw [q3, List.drop_zero, List.take_append_drop]
  rw [hA, e0, e1, e2, e3]
  rfl

theorem list_of {α : Type} {p : Nat → α → Prop} : ∀ (n : Nat), (∀ i, i < n → ∃ x, p i x) → ∃ l : List α, l.length = n ∧ ∀ i x, l[i]? = some x → p i x := by
  intro n
  induction n with
  | zero => intro _; exact ⟨[], rfl, fun i x h => by simp at h⟩
  | succ n ih =>
    intro h
    obtain ⟨l, hl, hp⟩ := ih (fun i hi => h i (by omega))
    obtain ⟨x, hx⟩ := h n (by omega)
    refine ⟨l ++ [x], by simp [hl], fun i y hy => ?_⟩
    by_cases hi : i < n
    · rw [List.getElem?_append_left (by omega)] at hy; exact hp i y hy
    · have hin : i = n := by
        have := (List.getElem?_eq_some_iff.1 hy).1
        simp [hl] at this; omega
      subst hin
      rw [List.getElem?_append_right (by omega), hl] at hy
      simp at hy; rw [← hy]; exact hx

set_option maxRecDepth 100000 in
theorem open_recs {W : World} {base : Nat} {sp : Nat → Bool} {hd : Bool} {rc : Reach} {b0 : Nat} {v : Value} {d : DataW H} {p : List MemPlace}
    (hv : Value.okWide Try.prog W rc b0 54 v) (h : DataW.Trod enc Try.prog W base sp hd 54 v d p) : ∃ rs, isRs W v rs ∧ rs.length ≤ 9223372036854775807 := by
  obtain ⟨a, len, cap, rfl⟩ := okWide_slice Try.underlying54 hv
  obtain ⟨fuel, hf⟩ := h
  have c66 : Try.prog.cellsOf 25 = 66 := by kernel_rfl
  rcases Go.Deep.open_slice Try.underlying54 (by simpa [Value.cells] using hf) with ⟨hcs, hx⟩ | ⟨a', len', cap', m, n, D, Pl, hcs, hb, hl, hm, hmm, hx, hel⟩
  · simp at hcs
    obtain ⟨rfl, rfl, rfl⟩ := hcs
    exact ⟨[], ⟨by simp, none, 0, rfl, fun q => absurd rfl q⟩, by simp⟩
  · simp at hcs
    obtain ⟨rfl, rfl, rfl⟩ := hcs
    rw [c66] at hel
    have hlm : len ≤ m := by rw [hmm]; split <;> omega
    obtain ⟨rs, hrl, hrs⟩ := list_of (p := fun i (r : Rec) => r.Ok ∧ ∀ j u, (recL r)[j]? = some u → W.cell? ((a'.add (i * 66)).add j) = some u) len (fun i hi => by
      obtain ⟨cs', h1, h2⟩ := hel i (by omega)
      obtain ⟨r, hr, rfl⟩ := rec_of_trod h2
      obtain ⟨_, h3, h4⟩ := World.cells?_some h1
      refine ⟨r, hr, fun j u hu => ?_⟩
      have hj := (List.getElem?_eq_some_iff.1 hu).1
      rw [h4 j (by omega)]; exact hu)
    have hmx : len ≤ 9223372036854775807 := by
      have := hm; simp only [maxLen] at this; omega
    refine ⟨rs, ⟨fun r hr => ?_, some a', cap, by rw [hrl], fun hne => ?_⟩, by omega⟩
    · obtain ⟨i, hi⟩ := List.getElem?_of_mem hr
      exact (hrs i r hi).1
    · obtain ⟨r0, hr0⟩ : ∃ r0, rs[0]? = some r0 := ⟨rs[0]'(List.length_pos_iff.2 hne), List.getElem?_eq_getElem _⟩
      obtain ⟨b, off, spot⟩ := a'
      have hl0 := recL_len (hrs 0 r0 hr0).1
      have q := (hrs 0 r0 hr0).2 0 _ (List.getElem?_eq_getElem (by omega))
      have hspot : spot = none := by simpa [Addr.add] using World.cell?_spot q
      subst hspot
      refine ⟨b, off, rfl, fun i r hi j u hu => ?_⟩
      have q2 := (hrs i r hi).2 j u hu
      rw [addr_add, addr_add] at q2; exact q2
end Go.Proofs.Ytodhkdmkkjhnnaa
