/- Numbers in groups of six bits: the plain words. -/
import Derived.Test.YtodhkdmkkjhnnaaBase
set_option linter.unusedVariables false
namespace Go.Proofs.Ytodhkdmkkjhnnaa

/-- A number's digits to the base 64, the highest first. -/
def digs (x : Nat) : List Nat := if h : x = 0 then [] else digs (x / 64) ++ [x % 64]
termination_by x
decreasing_by omega
theorem digs_zero : digs 0 = [] := by rw [digs]; simp
theorem digs_pos {x : Nat} (h : 0 < x) : digs x = digs (x / 64) ++ [x % 64] := by rw [digs]; simp [Nat.pos_iff_ne_zero.1 h]
/-- A number's groups, the last one with its mark. -/
def gs (x mark : Nat) : List UInt8 := (digs (x / 64)).map UInt8.ofNat ++ [UInt8.ofNat (mark + x % 64)]

theorem digs_len (n : Nat) : ∀ x, x < 64 ^ n → (digs x).length ≤ n := by
  induction n with
  | zero => intro x h; have : x = 0 := by omega
            subst this; simp [digs_zero]
  | succ n ih =>
    intro x h
    rcases Nat.eq_zero_or_pos x with h0 | h0
    · subst h0; simp [digs_zero]
    · rw [digs_pos h0, List.length_append]
      have := ih (x / 64) (by rw [Nat.pow_succ] at h; omega)
      simp; omega
theorem gs_len (x mark : Nat) (h : x < 18446744073709551616) : (gs x mark).length ≤ 11 := by
  have := digs_len 10 (x / 64) (by
    have : (64 : Nat) ^ 10 = 1152921504606846976 := by decide
    omega)
  simp [gs]; omega
theorem digs_step (x t : Nat) (h : 0 < x / 64 ^ t) : digs (x / 64 ^ t) = digs (x / 64 ^ (t + 1)) ++ [x / 64 ^ t % 64] := by
  rw [digs_pos h, Nat.div_div_eq_div_mul, Nat.pow_succ]

theorem gs_zero (x mark : Nat) : gs x mark = (digs (x / 64 ^ 1)).map UInt8.ofNat ++ [UInt8.ofNat (mark + x % 64)] := by simp [gs]

theorem wrap_u64 (n : Int) (h0 : 0 ≤ n) (h1 : n < 2 ^ 64) : IntKind.u64.wrap n = n := by
  simp [IntKind.wrap, IntKind.bits, IntKind.signed]; omega
theorem and63 (a : Nat) (h : a < 18446744073709551616) : bits .and .u64 (a : Int) 63 = ((a % 64 : Nat) : Int) := by
  have := bits_mask .u64 64 (by decide) wrap_u64 6 (by decide) (a : Int) (by omega) (by omega)
  simpa using this
theorem byte_of (a : Nat) (h : a < 18446744073709551616) : bits .and .u64 (a : Int) 63 % 256 = ((UInt8.ofNat (a % 64)).toNat : Int) := by
  rw [and63 a h]; simp

/-! ### Reading -/
/-- What stands here: the number, whether it is below 0, how many bytes it has, the error. -/
def numGo : List UInt8 → Bool → Nat → Nat → Nat × Bool × Nat × Nat
  | [], _, _, _ => (0, false, 0, 2)
  | c :: l, first, x, i =>
    if 191 < c.toNat ∨ 144115188075855871 < x ∨ (first = true ∧ c.toNat = 0) then (0, false, 0, 3)
    else if 63 < c.toNat then (64 * x + c.toNat % 64, decide (127 < c.toNat), i + 1, 0)
    else numGo l false (64 * x + c.toNat % 64) (i + 1)
def num (l : List UInt8) : Nat × Bool × Nat × Nat := numGo l true 0 0
/-- A number from 0 on: the number, its bytes, the error. -/
def rdCount (l : List UInt8) : Nat × Nat × Nat :=
  if (num l).2.2.2 ≠ 0 then (0, 0, (num l).2.2.2) else if (num l).2.1 then (0, 0, 3) else ((num l).1, (num l).2.2.1, 0)
/-- So many bytes. -/
def rdRaw (l : List UInt8) (n : Nat) : List UInt8 × Nat × Nat := if l.length < n then ([], 0, 2) else (l.take n, n, 0)
/-- A text behind its length. -/
def rdText (l : List UInt8) : List UInt8 × Nat × Nat :=
  if (rdCount l).2.2 ≠ 0 then ([], 0, (rdCount l).2.2)
  else if (l.drop (rdCount l).2.1).length < (rdCount l).1 then ([], 0, 2)
  else ((l.drop (rdCount l).2.1).take (rdCount l).1, (rdCount l).2.1 + (rdCount l).1, 0)

theorem numGo_size (l : List UInt8) : ∀ f x i, (numGo l f x i).2.2.1 ≤ i + l.length := by
  induction l with
  | nil => intro f x i; simp [numGo]
  | cons c l ih =>
    intro f x i
    unfold numGo
    split
    · simp
    · split
      · simp only [List.length_cons]; omega
      · have := ih false (64 * x + c.toNat % 64) (i + 1); simp only [List.length_cons]; omega
theorem num_size (l : List UInt8) : (num l).2.2.1 ≤ l.length := by have := numGo_size l true 0 0; unfold num; omega
theorem numGo_lt (l : List UInt8) : ∀ f x i, (numGo l f x i).1 < 9223372036854775808 := by
  induction l with
  | nil => intro f x i; simp [numGo]
  | cons c l ih =>
    intro f x i
    unfold numGo
    split
    · simp
    · rename_i h
      have hx : x ≤ 144115188075855871 := by
        rcases Nat.lt_or_ge 144115188075855871 x with q | q
        · exact absurd (.inr (.inl q)) h
        · exact q
      split
      · show 64 * x + c.toNat % 64 < _; omega
      · exact ih _ _ _
theorem num_lt (l : List UInt8) : (num l).1 < 9223372036854775808 := numGo_lt l true 0 0
theorem rdCount_size (l : List UInt8) : (rdCount l).2.1 ≤ l.length := by
  have := num_size l; unfold rdCount; split
  · simp
  · split
    · simp
    · exact this
theorem rdCount_lt (l : List UInt8) : (rdCount l).1 < 9223372036854775808 := by
  have := num_lt l; unfold rdCount; split
  · simp
  · split
    · simp
    · exact this
theorem rdText_size (l : List UInt8) : (rdText l).2.1 ≤ l.length := by
  unfold rdText; split
  · simp
  · split
    · simp
    · rename_i h; have := rdCount_size l; simp at h; simp; omega

end Go.Proofs.Ytodhkdmkkjhnnaa
