/- The walks of siloref02. -/
import Derived.Test.YtodhkdmkkjhnnaaCrcW
import Derived.Deep.RegionWith
set_option linter.unusedVariables false
namespace Go.Proofs.Ytodhkdmkkjhnnaa
open Go.RowKit

/-- The register at block g: bit m is f m. -/
def isReg (w : World) (g : Nat) (f : Nat → Bool) : Prop := w.heap[g]? = some (.cells ((List.range 32).map (fun m => Value.bool (f m))).toArray 159 (0, 0))

theorem isReg.cell {w : World} {g : Nat} {f : Nat → Bool} (h : isReg w g f) (j : Nat) (hj : j < 32) : w.cell? ⟨g, j, none⟩ = some (.bool (f j)) := by
  rw [heap_cell h]; simp [hj]
theorem isReg.free {w : World} {g : Nat} {f : Nat → Bool} (h : isReg w g f) (j : Nat) : w.frozen? ⟨g, j, none⟩ = false := heap_frozen h j
theorem isReg.set {w : World} {g : Nat} {f : Nat → Bool} (h : isReg w g f) (j : Nat) (hj : j < 32) (b : Bool) : isReg (w.setCell ⟨g, j, none⟩ (.bool b)) g (fun m => if m = j then b else f m) := by
  unfold isReg
  rw [heap_set h j (.bool b)]
  congr 2
  apply Array.ext
  · simp
  · intro i h1 h2
    simp only [List.setIfInBounds_toArray, List.getElem_toArray, List.getElem_set, List.getElem_map, List.getElem_range]
    by_cases e : j = i
    · subst e; simp
    · rw [if_neg e, if_neg (Ne.symm e)]

theorem isReg.congr {w : World} {g : Nat} {f f' : Nat → Bool} (h : isReg w g f) (e : ∀ m, m < 32 → f m = f' m) : isReg w g f' := by
  unfold isReg at *
  rw [h]
  congr 3
  apply List.map_congr_left
  intro m hm
  rw [e m (by simpa using hm)]
theorem isReg.next {w : World} {g : Nat} {f f' : Nat → Bool} (h : isReg w g f) (j : Nat) (hj : j < 32) (b : Bool) (e : ∀ m, m < 32 → (if m = j then b else f m) = f' m) : isReg (w.setCell ⟨g, j, none⟩ (.bool b)) g f' :=
  (h.set j hj b).congr e
theorem isReg.fresh (w : World) (o : Obj) (h : o = .cells ((List.range 32).map (fun _ => Value.bool false)).toArray 159) : isReg (w.alloc o) w.heap.size (fun m => decide (m < 0)) := by
  subst h; exact heap_new _ _

theorem reg_step (y b : Nat) (hy : y < 4294967296) (out : Bool) (ho : out = (y.testBit 0 != decide (b % 2 = 1))) (m : Nat) (hm : m < 32) :
    (Crc.step (y ^^^ (b % 2))).testBit m = if out then ((y / 2).testBit m != Crc.poly.testBit m) else (y / 2).testBit m := by
  have h2 : (y ^^^ (b % 2)) / 2 = y / 2 := by rw [Crc.xor_half]; simp [show b % 2 / 2 = 0 by omega]
  have hp : (y ^^^ (b % 2)) % 2 = 1 ↔ out = true := by
    rw [Crc.xor_par, ho, Nat.testBit_zero]
    rcases Nat.mod_two_eq_zero_or_one y with p | p <;> rcases Nat.mod_two_eq_zero_or_one b with q | q <;> simp [p, q]
  unfold Crc.step
  rw [h2]
  cases out with
  | true => rw [if_pos (hp.2 rfl), if_pos rfl, Nat.testBit_xor]
  | false => rw [if_neg (fun q => by simpa using hp.1 q)]; rfl

theorem u8_shift (j P : Nat) (hj : j < 8) (hP : P = 2 ^ j) : IntKind.u8.wrap (2 ^ j) = (P : Int) := by
  subst hP
  have : j = 0 ∨ j = 1 ∨ j = 2 ∨ j = 3 ∨ j = 4 ∨ j = 5 ∨ j = 6 ∨ j = 7 := by omega
  rcases this with rfl | rfl | rfl | rfl | rfl | rfl | rfl | rfl <;> decide
theorem u32_shift (j P : Nat) (hj : j < 32) (hP : P = 2 ^ j) : IntKind.u32.wrap (2 ^ j) = (P : Int) := by
  subst hP
  rw [IntKind.wrap_u32]
  have h : (2 : Nat) ^ j < 2 ^ 32 := Nat.pow_lt_pow_right (by decide) hj
  have e : ((2 : Int) ^ j) = ((2 ^ j : Nat) : Int) := (Int.natCast_pow 2 j).symm
  rw [e]
  generalize 2 ^ j = q at *
  omega
theorem quot_bit (c P : Nat) : (((c : Int) / (P : Int) % 2) == 1) = decide (c / P % 2 = 1) := by
  have e : ((c : Int) / (P : Int) % 2) = ((c / P % 2 : Nat) : Int) := by rw [Int.natCast_emod, Int.natCast_ediv]; rfl
  rw [e]
  rcases Nat.mod_two_eq_zero_or_one (c / P) with p | p <;> simp [p]

theorem poly_int (j : Nat) (hj : j < 32) (P : Int) (hP : P = 2 ^ j) : ((2197175160 : Int) / P % 2 == 1) = Crc.poly.testBit j := by
  subst hP
  rw [Nat.testBit_eq_decide_div_mod_eq]
  have e : ((2197175160 : Int) / 2 ^ j % 2) = ((Crc.poly / 2 ^ j % 2 : Nat) : Int) := by rw [Int.natCast_emod, Int.natCast_ediv, Int.natCast_pow]; rfl
  rw [e]
  rcases Nat.mod_two_eq_zero_or_one (Crc.poly / 2 ^ j) with p | p <;> simp [p]

theorem not_step (X n : Nat) (hX : X < 4294967296) (hn : n < 32) : (4294967295 - X) / 2 ^ n = 2 * ((4294967295 - X) / 2 ^ (n + 1)) + (if X.testBit n then 0 else 1) := by
  have h := Nat.testBit_two_pow_sub_succ (x := X) (n := 32) (by omega) n
  have e : 2 ^ 32 - (X + 1) = 4294967295 - X := by omega
  rw [e, Nat.testBit_eq_decide_div_mod_eq] at h
  rw [Nat.pow_succ, ← Nat.div_div_eq_div_mul]
  generalize (4294967295 - X) / 2 ^ n = z at *
  cases hb : X.testBit n
  · simp [hb, hn] at h; simp; omega
  · simp [hb] at h; simp; omega

set_option maxHeartbeats 6400000 in
set_option maxRecDepth 100000 in
theorem rsum_any (w : World) (s : ByteArray) (hs : s.size ≤ 140737488355328) :
    Calls Try.prog 73 #[.string s] w fun e w' => e = .returned (.int .u32 (Crc.sum s.data.toList : Nat)) ∧ Fr (fun _ => False) w w' := by
  go_enter Try.func73, Try.ntmps73
  go_wp2
  obtain ⟨g, hg⟩ : ∃ g, g = w.heap.size := ⟨_, rfl⟩
  have HG := Aside.mk hg
  rw [← hg]
  clear hg
  go_loopw [4] (fun i wr => ∃ k : Nat, k ≤ 32 ∧ i = .int .i64 k ∧ Aside (isReg wr g (fun m => decide (m < k))) ∧ Aside (Fr (fun _ => False) w wr)) (fun i _ => 32 - (intOf i).toNat)
  case atStart => exact ⟨0, by omega, rfl, ⟨by rw [HG.out]; exact isReg.fresh w _ rfl⟩, ⟨(Fr.refl _ _).alloc _⟩⟩
  case round =>
    obtain ⟨k, hk, rfl, HI, HF⟩ := hrel
    by_cases hk32 : k < 32
    · have hc := HI.out.cell k hk32
      have hf := HI.out.free k
      go_wp2
      go_roundw
      case rel => exact ⟨k + 1, by omega, by go_num, ⟨HI.out.next k hk32 true (fun m hm => by by_cases e : m = k <;> simp [e] <;> omega)⟩, ⟨HF.out.setCell (fun q => by have := HG.out; have q2 : g < _ := q; omega) _⟩⟩
      case measure => simp [intOf]; omega
    · have HK32 : Aside (k = 32) := ⟨by omega⟩
      have HI2 : Aside (isReg wr g (fun m => (Crc.run 4294967295 (s.data.toList.take 0)).testBit m)) := ⟨HI.out.congr (fun m hm => by
        have : (4294967295 : Nat).testBit m = true := by
          have h := Nat.testBit_two_pow_sub_succ (x := 0) (n := 32) (by omega) m
          simpa [hm] using h
        simp [Crc.run, hm, this, HK32.out])⟩
      clear HI
      go_wp2
      go_loopw [5] (fun i wr => ∃ k : Nat, k ≤ s.size ∧ i = .int .i64 k ∧ Aside (isReg wr g (fun m => (Crc.run 4294967295 (s.data.toList.take k)).testBit m)) ∧ Aside (Fr (fun _ => False) w wr)) (fun i _ => s.size - (intOf i).toNat)
      case atStart => exact ⟨0, by omega, rfl, HI2, HF⟩
      case round =>
        clear HI2 HF
        obtain ⟨k, hk, rfl, HI, HF⟩ := hrel
        have hxl := Crc.run_lt (s.data.toList.take k) (x := 4294967295) (by decide)
        by_cases hks : k < s.size
        · have HR := Aside.mk (crc_run_take s k hks)
          have hcc : (s[k]).toNat < 256 := (s[k]).toNat_lt
          generalize hgc : s[k] = c at *
          generalize Crc.run 4294967295 (s.data.toList.take k) = x at *
          go_wp2
          go_loopw [6] (fun i wr => ∃ (j y : Nat), j ≤ 8 ∧ i = .int .i64 j ∧ y < 4294967296 ∧ Aside (isReg wr g (fun m => y.testBit m)) ∧ Aside (Crc.bits (8 - j) y (c.toNat / 2 ^ j) = Crc.byte x c.toNat) ∧ Aside (Fr (fun _ => False) w wr)) (fun i _ => 8 - (intOf i).toNat)
          case atStart => exact ⟨0, x, by omega, rfl, by omega, HI, ⟨by simpa [Crc.byte] using (Crc.steps_bits 8 x c.toNat (by omega)).symm⟩, HF⟩
          case round =>
            clear HI HF
            obtain ⟨j, y, hj, rfl, hy, HI, HB, HF⟩ := hrel
            by_cases hj8 : j < 8
            · have hc0 := HI.out.cell 0 (by omega)
              obtain ⟨bit, hbit⟩ : ∃ bit, bit = decide (c.toNat / 2 ^ j % 2 = 1) := ⟨_, rfl⟩
              have HBT := Aside.mk hbit
              obtain ⟨P, hP⟩ : ∃ P : Nat, P = 2 ^ j := ⟨_, rfl⟩
              have hP0 : 0 < P := by rw [hP]; exact Nat.pow_pos (by decide)
              have hsh : IntKind.u8.wrap (2 ^ j) = (P : Int) := u8_shift j P hj8 hP
              obtain ⟨q, hqq⟩ : ∃ q : Nat, q = c.toNat / P := ⟨_, rfl⟩
              have hq1 : ((c.toNat : Int) / (P : Int) % 256) = (q : Int) := by
                have : c.toNat / P ≤ c.toNat := Nat.div_le_self _ _
                rw [hqq]; rw [show ((c.toNat : Int) / (P : Int)) = ((c.toNat / P : Nat) : Int) from rfl]; omega
              have hq : (((q : Int) % 2) == 1) = bit := by
                have := quot_bit c.toNat P
                rw [hbit, ← hP, ← this, hqq]; rfl
              have hdj : decide ((j : Int) < 8) = true := by simp; omega
              clear hqq
              have HP := Aside.mk hP
              clear hbit hP
              obtain ⟨b0, hb0⟩ : ∃ b0, b0 = y.testBit 0 := ⟨_, rfl⟩
              rw [← hb0] at hc0
              obtain ⟨out, hout⟩ : ∃ out, (!(b0 == bit)) = out := ⟨_, rfl⟩
              have HO : Aside (out = (y.testBit 0 != decide (c.toNat / 2 ^ j % 2 = 1))) := ⟨by rw [← hout, hb0, HBT.out]; rfl⟩
              clear hb0
              cases out with
              | true =>
                go_wp2
                go_quiet (fail)
                go_wp2
                clear hc0 hout hq hq1 hsh
                go_loopw [9] (fun i wr => ∃ n : Nat, n ≤ 31 ∧ i = .int .i64 n ∧ Aside (isReg wr g (fun m => if m < n then y.testBit (m + 1) else y.testBit m)) ∧ Aside (Fr (fun _ => False) w wr)) (fun i _ => 31 - (intOf i).toNat)
                case atStart => exact ⟨0, by omega, rfl, ⟨(show isReg (wr.drewN nq) g _ from HI.out).congr (fun m _ => by simp)⟩, ⟨HF.out.drewN _⟩⟩
                case round =>
                  clear HI HF
                  obtain ⟨n, hn, rfl, HI, HF⟩ := hrel
                  by_cases hn31 : n < 31
                  · have hc1 := HI.out.cell (n + 1) (by omega)
                    have hc2 := HI.out.cell n (by omega)
                    have hf2 := HI.out.free n
                    simp only [show ¬ (n + 1 < n) by omega, if_false] at hc1
                    simp only [Nat.lt_irrefl, if_false] at hc2
                    generalize hz : y.testBit (n + 1) = z at *
                    have HZ := Aside.mk hz
                    clear hz
                    go_wp2
                    go_roundw
                    case rel => exact ⟨n + 1, by omega, by go_num, ⟨HI.out.next n (by omega) z (fun m hm => by
                      by_cases e : m = n
                      · subst e; simp [HZ.out]
                      · rw [if_neg e]; by_cases e2 : m < n
                        · rw [if_pos e2, if_pos (by omega)]
                        · rw [if_neg e2, if_neg (by omega)])⟩, ⟨HF.out.setCell (fun q => by have := HG.out; have q2 : g < _ := q; omega) _⟩⟩
                    case measure => simp [intOf]; omega
                  · have HN31 : Aside (n = 31) := ⟨by omega⟩
                    have hc1 := HI.out.cell 31 (by omega)
                    have hf1 := HI.out.free 31
                    rw [if_neg (by omega)] at hc1
                    generalize y.testBit 31 = z31 at hc1
                    go_wp2
                    clear hc1 hf1
                    go_loopw [10] (fun i wr => ∃ n : Nat, n ≤ 32 ∧ i = .int .i64 n ∧ Aside (true = false → n = 0) ∧ Aside (isReg wr g (fun m => if m < n then ((y / 2).testBit m != Crc.poly.testBit m) else (y / 2).testBit m)) ∧ Aside (Fr (fun _ => False) w wr)) (fun i _ => 32 - (intOf i).toNat)
                    case atStart => exact ⟨0, by omega, rfl, ⟨fun q => by cases q⟩, ⟨HI.out.next 31 (by omega) false (fun m hm => by
                      by_cases e : m = 31
                      · subst e; simp; exact Crc.half_bit hy
                      · rw [if_neg e, if_pos (by have := HN31.out; omega)]; simp [Nat.testBit_div_two])⟩, ⟨HF.out.setCell (fun q => by have := HG.out; have q2 : g < _ := q; omega) _⟩⟩
                    case round =>
                      clear HI HF
                      obtain ⟨n, hn, rfl, HN, HI, HF⟩ := hrel
                      by_cases hn32 : n < 32
                      · have hc1 := HI.out.cell n hn32
                        have hf1 := HI.out.free n
                        simp only [Nat.lt_irrefl, if_false] at hc1
                        generalize hz : (y / 2).testBit n = z at hc1
                        have HZ := Aside.mk hz
                        obtain ⟨P2, hP2⟩ : ∃ P2 : Nat, P2 = 2 ^ n := ⟨_, rfl⟩
                        have hP20 : 0 < P2 := by rw [hP2]; exact Nat.pow_pos (by decide)
                        have hsh : IntKind.u32.wrap (2 ^ n) = (P2 : Int) := u32_shift n P2 hn32 hP2
                        obtain ⟨pb, hpb⟩ : ∃ pb, pb = Crc.poly.testBit n := ⟨_, rfl⟩
                        have hq : ((((2197175160 : Int) / (P2 : Int)).tmod 2) == 1) = pb := by rw [hpb, Int.tmod_eq_emod_of_nonneg (Int.ediv_nonneg (by decide) (by omega))]; exact poly_int n hn32 _ (by rw [hP2]; exact Int.natCast_pow 2 n)
                        have HPB := Aside.mk hpb
                        clear hz hP2 hpb HP HBT
                        cases pb with
                        | true =>
                          go_wp2
                          go_roundw
                          case rel => exact ⟨n + 1, by omega, by go_num, ⟨fun q => by cases q⟩, ⟨HI.out.next n hn32 (!z) (fun m hm => by
                            by_cases e : m = n
                            · subst e; rw [if_pos rfl, if_pos (by omega), HZ.out, ← HPB.out]; cases z <;> rfl
                            · rw [if_neg e]; by_cases e2 : m < n
                              · rw [if_pos e2, if_pos (by omega)]
                              · rw [if_neg e2, if_neg (by omega)])⟩, ⟨HF.out.setCell (fun q => by have := HG.out; have q2 : g < _ := q; omega) _⟩⟩
                          case measure => simp [intOf]; omega
                        | false =>
                          go_wp2
                          go_roundw
                          case rel => exact ⟨n + 1, by omega, by go_num, ⟨fun q => by cases q⟩, ⟨HI.out.congr (fun m hm => by
                            by_cases e : m = n
                            · subst e; rw [if_neg (by omega), if_pos (by omega), ← HPB.out]; simp
                            · by_cases e2 : m < n
                              · rw [if_pos e2, if_pos (by omega)]
                              · rw [if_neg e2, if_neg (by omega)])⟩, HF⟩
                          case measure => simp [intOf]; omega
                      · have HI2 : Aside (isReg wr g (fun m => (Crc.step (y ^^^ (c.toNat / 2 ^ j % 2))).testBit m)) := ⟨HI.out.congr (fun m hm => by
                          rw [reg_step y (c.toNat / 2 ^ j) hy true HO.out m hm, if_pos (by omega)]; rfl)⟩
                        have HB2 : Aside (Crc.bits (8 - (j + 1)) (Crc.step (y ^^^ (c.toNat / 2 ^ j % 2))) (c.toNat / 2 ^ (j + 1)) = Crc.byte x c.toNat) := ⟨by
                          have h := HB.out
                          rw [show 8 - j = (8 - (j + 1)) + 1 by omega] at h
                          rw [Nat.pow_succ, ← Nat.div_div_eq_div_mul]
                          exact h⟩
                        have hyl : Crc.step (y ^^^ (c.toNat / 2 ^ j % 2)) < 4294967296 := Crc.step_lt (Nat.xor_lt_two_pow hy (by omega))
                        generalize Crc.step (y ^^^ (c.toNat / 2 ^ j % 2)) = y2 at *
                        clear HI HO HN HB HBT HP
                        obtain rfl : n = 32 := by omega
                        clear hn32
                        go_wp2
                        go_roundw
                        case rel => exact ⟨j + 1, y2, by omega, by go_num, hyl, HI2, HB2, HF⟩
                        case measure => simp [intOf]; omega
              | false =>
                go_wp2
                go_quiet (fail)
                go_wp2
                clear hc0 hout hq hq1 hsh
                go_loopw [9] (fun i wr => ∃ n : Nat, n ≤ 31 ∧ i = .int .i64 n ∧ Aside (isReg wr g (fun m => if m < n then y.testBit (m + 1) else y.testBit m)) ∧ Aside (Fr (fun _ => False) w wr)) (fun i _ => 31 - (intOf i).toNat)
                case atStart => exact ⟨0, by omega, rfl, ⟨(show isReg (wr.drewN nq) g _ from HI.out).congr (fun m _ => by simp)⟩, ⟨HF.out.drewN _⟩⟩
                case round =>
                  clear HI HF
                  obtain ⟨n, hn, rfl, HI, HF⟩ := hrel
                  by_cases hn31 : n < 31
                  · have hc1 := HI.out.cell (n + 1) (by omega)
                    have hc2 := HI.out.cell n (by omega)
                    have hf2 := HI.out.free n
                    simp only [show ¬ (n + 1 < n) by omega, if_false] at hc1
                    simp only [Nat.lt_irrefl, if_false] at hc2
                    generalize hz : y.testBit (n + 1) = z at *
                    have HZ := Aside.mk hz
                    clear hz
                    go_wp2
                    go_roundw
                    case rel => exact ⟨n + 1, by omega, by go_num, ⟨HI.out.next n (by omega) z (fun m hm => by
                      by_cases e : m = n
                      · subst e; simp [HZ.out]
                      · rw [if_neg e]; by_cases e2 : m < n
                        · rw [if_pos e2, if_pos (by omega)]
                        · rw [if_neg e2, if_neg (by omega)])⟩, ⟨HF.out.setCell (fun q => by have := HG.out; have q2 : g < _ := q; omega) _⟩⟩
                    case measure => simp [intOf]; omega
                  · have HN31 : Aside (n = 31) := ⟨by omega⟩
                    have hc1 := HI.out.cell 31 (by omega)
                    have hf1 := HI.out.free 31
                    rw [if_neg (by omega)] at hc1
                    generalize y.testBit 31 = z31 at hc1
                    go_wp2
                    clear hc1 hf1
                    go_loopw [10] (fun i wr => ∃ n : Nat, n ≤ 32 ∧ i = .int .i64 n ∧ Aside (false = false → n = 0) ∧ Aside (isReg wr g (fun m => if m < n then ((y / 2).testBit m != Crc.poly.testBit m) else (y / 2).testBit m)) ∧ Aside (Fr (fun _ => False) w wr)) (fun i _ => 32 - (intOf i).toNat)
                    case atStart => exact ⟨0, by omega, rfl, ⟨fun _ => rfl⟩, ⟨HI.out.next 31 (by omega) false (fun m hm => by
                      by_cases e : m = 31
                      · subst e; simp; exact Crc.half_bit hy
                      · rw [if_neg e, if_pos (by have := HN31.out; omega)]; simp [Nat.testBit_div_two])⟩, ⟨HF.out.setCell (fun q => by have := HG.out; have q2 : g < _ := q; omega) _⟩⟩
                    case round =>
                      clear HI HF
                      obtain ⟨n, hn, rfl, HN, HI, HF⟩ := hrel
                      have HI2 : Aside (isReg wr g (fun m => (Crc.step (y ^^^ (c.toNat / 2 ^ j % 2))).testBit m)) := ⟨HI.out.congr (fun m hm => by
                          rw [reg_step y (c.toNat / 2 ^ j) hy false HO.out m hm, HN.out rfl]; simp)⟩
                      have HB2 : Aside (Crc.bits (8 - (j + 1)) (Crc.step (y ^^^ (c.toNat / 2 ^ j % 2))) (c.toNat / 2 ^ (j + 1)) = Crc.byte x c.toNat) := ⟨by
                        have h := HB.out
                        rw [show 8 - j = (8 - (j + 1)) + 1 by omega] at h
                        rw [Nat.pow_succ, ← Nat.div_div_eq_div_mul]
                        exact h⟩
                      have hyl : Crc.step (y ^^^ (c.toNat / 2 ^ j % 2)) < 4294967296 := Crc.step_lt (Nat.xor_lt_two_pow hy (by omega))
                      generalize Crc.step (y ^^^ (c.toNat / 2 ^ j % 2)) = y2 at *
                      obtain rfl : n = 0 := HN.out rfl
                      clear HI HO HN HB HBT HP
                      go_wp2
                      go_roundw
                      case rel => exact ⟨j + 1, y2, by omega, by go_num, hyl, HI2, HB2, HF⟩
                      case measure => simp [intOf]; omega
            · obtain rfl : j = 8 := by omega
              have HB2 : Aside (y = Crc.run 4294967295 (s.data.toList.take (k + 1))) := ⟨by rw [HR.out, ← HB.out]; rfl⟩
              have HI2 : Aside (isReg wr g (fun m => (Crc.run 4294967295 (s.data.toList.take (k + 1))).testBit m)) := ⟨by rw [← HB2.out]; exact HI.out⟩
              clear HI HB HB2
              go_wp2
              go_roundw
              case rel => exact ⟨k + 1, by omega, by go_num, HI2, HF⟩
              case measure => simp [intOf]; omega
        · obtain rfl : k = s.size := by omega
          have HT : Aside (Crc.sum s.data.toList = 4294967295 - Crc.run 4294967295 (s.data.toList.take s.size)) := ⟨by
            rw [List.take_of_length_le (by rw [← ba_size]; exact Nat.le_refl _)]; rfl⟩
          generalize Crc.run 4294967295 (s.data.toList.take s.size) = x at *
          go_wp2
          go_loopw [11, 12] (fun v i wr => ∃ n : Nat, n ≤ 32 ∧ i = .int .i64 ((n : Int) - 1) ∧ v = .int .u32 ((4294967295 - x) / 2 ^ n : Nat) ∧ Aside (isReg wr g (fun m => x.testBit m)) ∧ Aside (Fr (fun _ => False) w wr)) (fun _ i _ => ((intOf i) + 1).toNat)
          case atStart => exact ⟨32, by omega, rfl, by rw [show (4294967295 - x) / 2 ^ 32 = 0 by omega]; rfl, HI, HF⟩
          case round =>
            clear HI HF
            obtain ⟨n, hn, rfl, rfl, HI, HF⟩ := hrel
            by_cases hn0 : 0 < n
            · obtain ⟨m, rfl⟩ : ∃ m, n = m + 1 := ⟨n - 1, by omega⟩
              have hc1 := HI.out.cell m (by omega)
              have HZ := Aside.mk (not_step x m hxl (by omega))
              have hlt : (4294967295 - x) / 2 ^ (m + 1) < 2147483648 := by
                rw [Nat.pow_succ, Nat.mul_comm, ← Nat.div_div_eq_div_mul]
                exact Nat.lt_of_le_of_lt (Nat.div_le_self _ _) (by omega)
              have he : (((m + 1 : Nat) : Int) - 1) = (m : Int) := by omega
              rw [he]
              clear he
              generalize (4294967295 - x) / 2 ^ (m + 1) = v at *
              generalize hb : x.testBit m = b at *
              have HBB := Aside.mk hb
              clear hb
              cases b with
              | true =>
                go_wp2
                go_roundw
                case rel => exact ⟨m, by omega, rfl, by rw [HZ.out]; go_num, HI, HF⟩
                case measure => simp [intOf]
              | false =>
                go_wp2
                go_roundw
                case rel => exact ⟨m, by omega, rfl, by rw [HZ.out]; go_num, HI, HF⟩
                case measure => simp [intOf]
            · obtain rfl : n = 0 := by omega
              go_wp2
              go_ret
              refine ⟨?_, HF.out⟩
              rw [HT.out]; simp

theorem rfour_any (w : World) (x : Nat) (hx : x < 4294967296) :
    Calls Try.prog 72 #[.int .u32 x] w fun e w' => e = .returned (.string ⟨(Crc.four x).toArray⟩) ∧ Fr (fun _ => False) w w' := by
  have hcv := conv_new w #[.int .u8 ((x : Int) / 16777216), .int .u8 ((x : Int) / 65536 % 256), .int .u8 ((x : Int) / 256 % 256), .int .u8 ((x : Int) % 256)] (Crc.four x) w.heap.size 4 4 rfl rfl
    (by simp only [Crc.four, List.map_cons, List.map_nil]; rw [byt_of (x / 16777216) _ (by omega), byt_of (x / 65536) _ (by omega), byt_of (x / 256) _ (by omega), byt_of x _ (by omega)])
  go_enter Try.func72, Try.ntmps72
  go_wp2
  go_ret
  exact ⟨rfl, (Fr.refl _ _).alloc _⟩

set_option maxRecDepth 100000 in
theorem rput_any (w : World) (s : ByteArray) (hs : s.size ≤ 140737488355328) :
    Calls Try.prog 19 #[.string s] w fun e w' => e = .returned (.string ⟨(Crc.put s.data.toList).toArray⟩) ∧ Fr (fun _ => False) w w' := by
  go_enter Try.func19, Try.ntmps19
  go_wp2_with fail
  refine (rsum_any w s hs).mono ?_
  have hx := Crc.sum_lt s.data.toList
  have HP := Aside.mk (show Crc.put s.data.toList = s.data.toList ++ Crc.four (Crc.sum s.data.toList) from rfl)
  generalize Crc.sum s.data.toList = x at *
  rintro e w1 ⟨rfl, hf⟩
  have HF := Aside.mk hf
  clear hf
  go_wp2_with fail
  refine (rfour_any w1 x hx).mono ?_
  rintro e w2 ⟨rfl, hf⟩
  have HF2 := Aside.mk (HF.out.trans hf (fun _ _ q => q))
  clear hf HF
  have hl4 : (Crc.four x).length = 4 := rfl
  go_wp2
  go_ret
  exact ⟨congrArg (fun z => Ending.returned (Value.string z)) ((ba_append s _).trans (by rw [HP.out])), HF2.out⟩

set_option maxHeartbeats 1600000 in
set_option maxRecDepth 100000 in
theorem rtake_any (w : World) (s : ByteArray) (hs : s.size ≤ 140737488355328) :
    Calls Try.prog 78 #[.string s] w fun e w' => e = .returned (.tuple #[.string ⟨(Crc.take s.data.toList).1.toArray⟩, .int .i64 ((Crc.take s.data.toList).2 : Nat)]) ∧ Fr (fun _ => False) w w' := by
  have hsz := ba_size s
  by_cases h4 : s.size < 4
  · have HT : Aside (Crc.take s.data.toList = ([], 2)) := ⟨by unfold Crc.take; rw [if_pos (by omega)]⟩
    clear hsz
    go_enter Try.func78, Try.ntmps78
    go_wp2
    go_ret2
    rw [HT.out]
    exact ⟨rfl, Fr.refl _ _⟩
  · have HE := Aside.mk (ba_extract s 0 (s.size - 4))
    have HZ := Aside.mk hsz
    clear hsz
    have hts : (s.extract 0 (s.size - 4)).size ≤ 140737488355328 := by rw [ByteArray.size_extract]; omega
    have HD : Aside ((s.extract 0 (s.size - 4)).data.toList = s.data.toList.take (s.data.toList.length - 4)) := ⟨by rw [HE.out, HZ.out]; simp⟩
    have HTL : Aside ((s.extract (s.size - 4) s.size).toList = s.data.toList.drop (s.data.toList.length - 4)) := ⟨by
      rw [ByteArray.toList_eq, ba_extract, HZ.out]; simp; rw [List.take_of_length_le (by simp)]⟩
    clear HE
    generalize hx : s.extract 0 (s.size - 4) = t at *
    have HX := Aside.mk hx
    have HSUM := Aside.mk (rsum_any w.drew t hts)
    have hxl := Crc.sum_lt t.data.toList
    have HP := Aside.mk (show Crc.put t.data.toList = t.data.toList ++ Crc.four (Crc.sum t.data.toList) from rfl)
    generalize Crc.sum t.data.toList = x at *
    go_enter Try.func78, Try.ntmps78
    go_wp2_with fail
    have hw1 : IntKind.i64.wrap ((s.size : Int) - 4) = (s.size : Int) - 4 := by rw [IntKind.wrap_i64]; omega
    have hw2 : 0 ≤ (s.size : Int) - 4 := by omega
    have hw3 : (s.size : Int) - 4 ≤ (s.size : Int) := by omega
    have hw4 : ((s.size : Int) - 4).toNat = s.size - 4 := by omega
    go_region_with (first | (go_at_call 73; refine HSUM.out.mono ?_; rintro e w1 ⟨rfl, hf⟩; have HF1 := Aside.mk hf; clear hf) | (go_at_call 72; refine (rfour_any _ x hxl).mono ?_; rintro e w2 ⟨rfl, hf⟩; have HF2 := Aside.mk (HF1.out.trans hf (fun _ _ q => q)); clear hf))
    have HF3 : Aside (Fr (fun _ => False) w w2) := ⟨((Fr.refl _ w).drew).trans HF2.out (fun _ _ q => q)⟩
    clear hw1 hw2 hw3 hw4 HF1 HF2 HSUM
    generalize s.extract (s.size - 4) s.size = u at *
    have hput : (Crc.put (s.data.toList.take (s.data.toList.length - 4)) = s.data.toList) ↔ (s.data.toList.drop (s.data.toList.length - 4) = Crc.four x) := by
      rw [← HD.out, HP.out, HD.out]
      conv => lhs; rhs; rw [← List.take_append_drop (s.data.toList.length - 4) s.data.toList]
      rw [List.append_cancel_left_eq]
      exact eq_comm
    by_cases hp : s.data.toList.drop (s.data.toList.length - 4) = Crc.four x
    · have HT : Aside (Crc.take s.data.toList = (t.data.toList, 0)) := ⟨by
        have h1 := HZ.out; unfold Crc.take; rw [if_neg (by omega), if_pos (hput.2 hp), ← HD.out]⟩
      have hp2 : (u.toList == Crc.four x) = true := by rw [HTL.out, hp]; simp
      have hl4 : (Crc.four x).length = 4 := rfl
      clear hp hput hx
      simp only [hp2, Bool.not_true]
      go_wp2
      go_ret2
      rw [HT.out]
      refine ⟨?_, HF3.out⟩
      show Ending.returned (Value.tuple #[Value.string (s.extract 0 (s.size - 4)), Value.int IntKind.i64 0]) = _
      rw [HX.out, ba_eta]; rfl
    · have HT : Aside (Crc.take s.data.toList = ([], 4)) := ⟨by
        have h1 := HZ.out; unfold Crc.take; rw [if_neg (by omega), if_neg (fun q => hp (hput.1 q))]⟩
      have hp2 : (u.toList == Crc.four x) = false := by rw [HTL.out]; exact beq_eq_false_iff_ne.2 hp
      clear hp hput hx
      simp only [hp2, Bool.not_false]
      go_wp2
      go_ret2
      rw [HT.out]
      exact ⟨rfl, HF3.out⟩

end Go.Proofs.Ytodhkdmkkjhnnaa
