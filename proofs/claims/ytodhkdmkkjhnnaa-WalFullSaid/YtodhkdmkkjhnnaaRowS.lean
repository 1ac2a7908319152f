/- A parameter of strings opened. -/
import Derived.Test.YtodhkdmkkjhnnaaRow
import Derived.Test.YtodhkdmkkjhnnaaFew12
import Derived.SliceStrings
set_option linter.unusedVariables false
namespace Go.Proofs.Ytodhkdmkkjhnnaa
open Go.ChangeShapes Go.WideShapes Go.ChangeAt Go.RowKit
variable {H : Type} {enc : TypeId × Value → H}

set_option maxRecDepth 100000 in
theorem open_ss {W : World} {base : Nat} {sp : Nat → Bool} {hd : Bool} {rc : Reach} {b0 : Nat} {v : Value} {d : DataW H} {p : List MemPlace}
    (hv : Value.okWide Try.prog W rc b0 47 v) (h : DataW.Trod enc Try.prog W base sp hd 47 v d p) : ∃ ss, isSs W v ss ∧ ss.length ≤ 9223372036854775807 := by
  obtain ⟨a, len, cap, rfl⟩ := okWide_slice Try.underlying47 hv
  obtain ⟨fuel, hf⟩ := h
  have c1 : Try.prog.cellsOf 9 = 1 := by kernel_rfl
  rcases Go.ChangeShapes.open_strings Try.underlying47 Try.underlying9 c1 (by simpa [Value.cells] using hf) with ⟨hcs, hx⟩ | ⟨a', len', cap', ss, hcs, hb, hl, hm, hsl, hx, hel, _⟩
  · simp at hcs
    obtain ⟨rfl, rfl, rfl⟩ := hcs
    exact ⟨[], ⟨none, 0, rfl, fun q => absurd rfl q⟩, by simp⟩
  · simp at hcs
    obtain ⟨rfl, rfl, rfl⟩ := hcs
    have hlm : len ≤ ss.length := by rw [hsl]; split <;> omega
    have hmx : len ≤ 9223372036854775807 := by
      have := hm; simp only [maxLen] at this; omega
    have hlt : (ss.take len).length = len := by simp; omega
    refine ⟨ss.take len, ⟨some a', cap, by rw [hlt], fun hne => ?_⟩, by omega⟩
    have h0 : 0 < len := by
      rcases Nat.eq_zero_or_pos len with q | q
      · subst q; simp at hne
      · exact q
    obtain ⟨b, off, spot⟩ := a'
    have q := hel 0 (by omega)
    have hspot : spot = none := by simpa [Addr.add] using World.cell?_spot q
    subst hspot
    refine ⟨b, off, rfl, fun i s hi => ?_⟩
    have hil := (List.getElem?_eq_some_iff.1 hi).1
    rw [hlt] at hil
    have q2 := hel i (by omega)
    rw [addr_add] at q2
    rw [q2]
    rw [List.getElem?_take_of_lt hil] at hi
    simp [List.getD, hi]
end Go.Proofs.Ytodhkdmkkjhnnaa
