namespace Go.Proofs.Ytodhkdmkkjhnnaa.Crc

def poly : Nat := 0x82f63b78

/-- one round of the program's sum, over the numbers below 2^32 -/
def step (x : Nat) : Nat := if x % 2 = 1 then (x / 2) ^^^ poly else x / 2

theorem poly_lt : poly < 2 ^ 32 := by decide
theorem poly_bit : poly.testBit 31 = true := by decide

theorem step_lt {x : Nat} (h : x < 2 ^ 32) : step x < 2 ^ 32 := by
  unfold step
  split
  · exact Nat.xor_lt_two_pow (by omega) poly_lt
  · omega

theorem half_bit {x : Nat} (h : x < 2 ^ 32) : (x / 2).testBit 31 = false := Nat.testBit_lt_two_pow (by omega)

theorem step_bit {x : Nat} (h : x < 2 ^ 32) : (step x).testBit 31 = decide (x % 2 = 1) := by
  unfold step
  split
  · rename_i h1; rw [Nat.testBit_xor, half_bit h, poly_bit]; simp [h1]
  · rename_i h1; rw [half_bit h]; simp [h1]

theorem xor_cancel {a b c : Nat} (h : a ^^^ c = b ^^^ c) : a = b := by
  have := congrArg (· ^^^ c) h
  simpa [Nat.xor_assoc] using this

theorem step_inj {x y : Nat} (hx : x < 2 ^ 32) (hy : y < 2 ^ 32) (h : step x = step y) : x = y := by
  have hb := step_bit hx
  rw [h, step_bit hy] at hb
  have hm : (y % 2 = 1) ↔ (x % 2 = 1) := by simpa using hb
  unfold step at h
  by_cases h1 : x % 2 = 1
  · rw [if_pos h1, if_pos (hm.2 h1)] at h
    have := xor_cancel h
    have := hm.2 h1
    omega
  · rw [if_neg h1, if_neg (fun q => h1 (hm.1 q))] at h
    have : ¬ y % 2 = 1 := fun q => h1 (hm.1 q)
    omega

theorem xor_half (a b : Nat) : (a ^^^ b) / 2 = a / 2 ^^^ b / 2 := by
  have := Nat.shiftRight_xor_distrib (a := a) (b := b) (i := 1)
  simpa [Nat.shiftRight_eq_div_pow] using this

theorem xor_par (a b : Nat) : (a ^^^ b) % 2 = (a % 2 + b % 2) % 2 := by
  have h := Nat.xor_mod_two_pow (a := a) (b := b) (n := 1)
  simp at h
  rw [h]
  rcases Nat.mod_two_eq_zero_or_one a with ha | ha <;> rcases Nat.mod_two_eq_zero_or_one b with hb | hb <;> simp [ha, hb]

/-- a byte's low bit goes in, the rest waits -/
theorem step_xor (x b : Nat) : step (x ^^^ b) = step (x ^^^ (b % 2)) ^^^ (b / 2) := by
  unfold step
  have p : (x ^^^ b) % 2 = (x ^^^ (b % 2)) % 2 := by rw [xor_par, xor_par]; simp
  have q : (x ^^^ b) / 2 = ((x ^^^ (b % 2)) / 2) ^^^ (b / 2) := by rw [xor_half, xor_half]; simp [show b % 2 / 2 = 0 by omega]
  rw [p, q]
  split
  · simp only [Nat.xor_assoc]; rw [Nat.xor_comm (b / 2)]
  · rfl

def steps : Nat → Nat → Nat
  | 0, x => x
  | n + 1, x => steps n (step x)

/-- the same, bit by bit -/
def bits : Nat → Nat → Nat → Nat
  | 0, x, _ => x
  | n + 1, x, b => bits n (step (x ^^^ (b % 2))) (b / 2)

theorem steps_bits (n : Nat) : ∀ x b, b < 2 ^ n → steps n (x ^^^ b) = bits n x b := by
  induction n with
  | zero => intro x b h; have : b = 0 := by omega
            subst this; simp [steps, bits]
  | succ n ih =>
    intro x b h
    simp only [steps, bits]
    rw [step_xor, ih _ _ (by rw [Nat.pow_succ] at h; omega)]

/-- a byte -/
def byte (x c : Nat) : Nat := steps 8 (x ^^^ c)

theorem steps_lt (n : Nat) : ∀ {x}, x < 2 ^ 32 → steps n x < 2 ^ 32 := by
  induction n with
  | zero => intro x h; exact h
  | succ n ih => intro x h; exact ih (step_lt h)
theorem steps_inj (n : Nat) : ∀ {x y}, x < 2 ^ 32 → y < 2 ^ 32 → steps n x = steps n y → x = y := by
  induction n with
  | zero => intro x y _ _ h; exact h
  | succ n ih => intro x y hx hy h; exact step_inj hx hy (ih (step_lt hx) (step_lt hy) h)
theorem byte_lt {x c : Nat} (hx : x < 2 ^ 32) (hc : c < 256) : byte x c < 2 ^ 32 := steps_lt 8 (Nat.xor_lt_two_pow hx (by omega))
theorem byte_inj {x y c : Nat} (hx : x < 2 ^ 32) (hy : y < 2 ^ 32) (hc : c < 256) (h : byte x c = byte y c) : x = y :=
  xor_cancel (steps_inj 8 (Nat.xor_lt_two_pow hx (by omega)) (Nat.xor_lt_two_pow hy (by omega)) h)
theorem byte_inj2 {x c d : Nat} (hx : x < 2 ^ 32) (hc : c < 256) (hd : d < 256) (h : byte x c = byte x d) : c = d := by
  have := steps_inj 8 (Nat.xor_lt_two_pow hx (by omega : c < 2 ^ 32)) (Nat.xor_lt_two_pow hx (by omega : d < 2 ^ 32)) h
  rw [Nat.xor_comm x c, Nat.xor_comm x d] at this
  exact xor_cancel this

/-- the state behind bytes -/
def run (x : Nat) (l : List UInt8) : Nat := l.foldl (fun x c => byte x c.toNat) x
theorem run_lt (l : List UInt8) : ∀ {x}, x < 2 ^ 32 → run x l < 2 ^ 32 := by
  induction l with
  | nil => intro x h; exact h
  | cons c l ih => intro x h; exact ih (byte_lt h c.toNat_lt)
theorem run_inj (l : List UInt8) : ∀ {x y}, x < 2 ^ 32 → y < 2 ^ 32 → run x l = run y l → x = y := by
  induction l with
  | nil => intro x y _ _ h; exact h
  | cons c l ih => intro x y hx hy h; exact byte_inj hx hy c.toNat_lt (ih (byte_lt hx c.toNat_lt) (byte_lt hy c.toNat_lt) h)
theorem run_append (x : Nat) (l m : List UInt8) : run x (l ++ m) = run (run x l) m := by simp [run]

/-- the sum -/
def sum (l : List UInt8) : Nat := 4294967295 - run 4294967295 l
theorem sum_lt (l : List UInt8) : sum l < 4294967296 := by unfold sum; omega
/-- one byte turned: another sum -/
theorem sum_turned (a b : List UInt8) (c d : UInt8) (h : c ≠ d) : sum (a ++ c :: b) ≠ sum (a ++ d :: b) := by
  intro e
  have hr : ∀ l, run 4294967295 l < 2 ^ 32 := fun l => run_lt l (by decide)
  have e1 : run 4294967295 (a ++ c :: b) = run 4294967295 (a ++ d :: b) := by
    have h1 := hr (a ++ c :: b); have h2 := hr (a ++ d :: b)
    unfold sum at e; omega
  rw [run_append, run_append] at e1
  have hx := hr a
  have e2 := run_inj b (byte_lt hx c.toNat_lt) (byte_lt hx d.toNat_lt) e1
  exact h (UInt8.toNat_inj.1 (byte_inj2 hx c.toNat_lt d.toNat_lt e2))

/-- the four bytes of a sum -/
def four (x : Nat) : List UInt8 := [UInt8.ofNat (x / 16777216), UInt8.ofNat (x / 65536), UInt8.ofNat (x / 256), UInt8.ofNat x]
def put (l : List UInt8) : List UInt8 := l ++ four (sum l)

theorem four_len (x : Nat) : (four x).length = 4 := rfl
theorem put_len (l : List UInt8) : (put l).length = l.length + 4 := by simp [put, four_len]
/-- the text without its sum, and the error -/
def take (l : List UInt8) : List UInt8 × Nat :=
  if l.length < 4 then ([], 2) else if put (l.take (l.length - 4)) = l then (l.take (l.length - 4), 0) else ([], 4)

end Go.Proofs.Ytodhkdmkkjhnnaa.Crc
