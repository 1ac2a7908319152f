/- The walks of six.Reader. -/
import Derived.Test.YtodhkdmkkjhnnaaSixP
set_option linter.unusedVariables false
namespace Go.Proofs.Ytodhkdmkkjhnnaa
open Go.RowKit

/-- A reader at block g with these bytes left. -/
def isR (w : World) (g : Nat) (l : List UInt8) : Prop := w.heap[g]? = some (.cells #[.string ⟨l.toArray⟩] 161 (0, 0))

theorem isR.keep {w w1 : World} {T : Nat → Prop} {g : Nat} {l : List UInt8} (h : isR w g l) (hf : Fr T w w1) (hn : ¬ T g) : isR w1 g l := hf.heap h hn

theorem over_any (w : World) (s : ByteArray) : Calls Try.prog 75 #[.string s] w fun e w' =>
    e = .returned (.pointer (some ⟨w.heap.size, 0, none⟩)) ∧ isR w' w.heap.size s.data.toList ∧ Fr (fun _ => False) w w' := by
  go_enter Try.func75, Try.ntmps75
  go_wp2
  go_ret
  refine ⟨rfl, ?_, (Fr.refl _ _).alloc _⟩
  unfold isR; rw [ba_eta]; exact heap_new _ _

theorem rest_any (w : World) (g : Nat) (l : List UInt8) (h : isR w g l) : Calls Try.prog 86 #[.pointer (some ⟨g, 0, none⟩)] w fun e w' =>
    e = .returned (.string ⟨l.toArray⟩) ∧ w' = w := by
  have hc := (heap_cell h 0).trans rfl
  go_enter Try.func86, Try.ntmps86
  go_wp2
  go_ret
  exact ⟨rfl, rfl⟩

theorem end_any (w : World) (g : Nat) (l : List UInt8) (h : isR w g l) : Calls Try.prog 77 #[.pointer (some ⟨g, 0, none⟩)] w fun e w' =>
    e = .returned (.int .i64 (if l = [] then 0 else 5)) ∧ w' = w := by
  have hc := (heap_cell h 0).trans rfl
  clear h
  by_cases hl : l = []
  · subst hl
    go_enter Try.func77, Try.ntmps77
    go_wp2
    go_ret
    exact ⟨rfl, rfl⟩
  · have hl2 : l.isEmpty = false := by simpa using hl
    go_enter Try.func77, Try.ntmps77
    go_wp2
    go_ret
    exact ⟨rfl, rfl⟩

theorem or_add (y : Nat) (c : Nat) (hy : y ≤ 144115188075855871) : bits BinOp.or IntKind.u64 ((y : Int) * 64) ((c : Int) % 64) = ((64 * y + c % 64 : Nat) : Int) := by
  have h := bits_join .u64 64 (by decide) wrap_u64 6 ((y : Int) * 64) ((c : Int) % 64) (by omega) (by omega) (by omega) (by omega) (by omega) (by omega)
  rw [h]; omega

theorem ba_get (s : ByteArray) (k : Nat) (hk : k < s.size) : s.data.toList[k]'(by rw [← ba_size]; exact hk) = s[k] := rfl
theorem tup4 {a b c d a' b' c' d' : Value} (h1 : a = a') (h2 : b = b') (h3 : c = c') (h4 : d = d') : Ending.returned (.tuple #[a, b, c, d]) = .returned (.tuple #[a', b', c', d']) := by subst h1 h2 h3 h4; rfl

set_option maxHeartbeats 3200000 in
set_option maxRecDepth 100000 in
theorem number_s (w : World) (g : Nat) (s : ByteArray) (hc : w.cell? ⟨g, 0, none⟩ = some (.string s)) (hs : s.size ≤ 140737488355328) : Calls Try.prog 104 #[.pointer (some ⟨g, 0, none⟩)] w fun e w' =>
    e = .returned (.tuple #[.int .i64 ((num s.data.toList).1 : Nat), .bool (num s.data.toList).2.1, .int .i64 ((num s.data.toList).2.2.1 : Nat), .int .i64 ((num s.data.toList).2.2.2 : Nat)]) ∧ w' = w := by
  have HR := Aside.mk (show numGo s.data.toList true 0 0 = num s.data.toList from rfl)
  have HZ := Aside.mk (ba_size s)
  generalize num s.data.toList = R at *
  go_enter Try.func104, Try.ntmps104
  go_wp2
  go_loop [6, 7] (fun x i => ∃ (k y : Nat), k ≤ s.size ∧ i = .int .i64 k ∧ x = .int .u64 y ∧ y < 9223372036854775808 ∧ Aside (numGo (s.data.toList.drop k) (decide (k = 0)) y k = R)) (fun _ i => s.size - (intOf i).toNat)
  case atStart => exact ⟨0, 0, by omega, rfl, rfl, by omega, ⟨HR.out⟩⟩
  case round =>
    obtain ⟨k, y, hk, rfl, rfl, hy, HN⟩ := hrel
    by_cases hks : k < s.size
    · have HN2 := HN.out
      rw [List.drop_eq_getElem_cons (by have := HZ.out; omega), ba_get s k hks] at HN2
      unfold numGo at HN2
      have hcc : (s[k]).toNat < 256 := (s[k]).toNat_lt
      generalize hgc : s[k] = c at *
      by_cases hA : 191 < c.toNat
      · rw [if_pos (.inl hA)] at HN2
        have HN3 := Aside.mk HN2
        clear HN2
        go_wp2
        refine bodyPost_ret (results_tmp4 rfl _ _ _) rfl ⟨?_, rfl⟩
        rw [← HN3.out]
        rfl
      by_cases hB : 144115188075855871 < y
      · rw [if_pos (.inr (.inl hB))] at HN2
        have HN3 := Aside.mk HN2
        clear HN2
        go_wp2
        refine bodyPost_ret (results_tmp4 rfl _ _ _) rfl ⟨?_, rfl⟩
        rw [← HN3.out]
        rfl
      by_cases hC : k = 0 ∧ c.toNat = 0
      · obtain ⟨rfl, h0⟩ := hC
        rw [if_pos (.inr (.inr ⟨rfl, h0⟩))] at HN2
        have HN3 := Aside.mk HN2
        have h0b : ((c.toNat : Int) == 0) = true := by simp [h0]
        clear HN2 h0
        go_wp2
        refine bodyPost_ret (results_tmp4 rfl _ _ _) rfl ⟨?_, rfl⟩
        rw [← HN3.out]
        rfl
      have hN : ¬ (191 < c.toNat ∨ 144115188075855871 < y ∨ (decide (k = 0) = true ∧ c.toNat = 0)) := by
        simp only [decide_eq_true_eq]; omega
      rw [if_neg hN] at HN2
      have HOR : Aside (bits BinOp.or IntKind.u64 ((y : Int) * 64) ((c.toNat : Int) % 64) = ((64 * y + c.toNat % 64 : Nat) : Int)) := ⟨or_add y c.toNat (by omega)⟩
      have hy2 : 64 * y + c.toNat % 64 < 9223372036854775808 := by omega
      by_cases hD : 63 < c.toNat
      · rw [if_pos hD] at HN2
        have HN3 := Aside.mk HN2
        clear HN2 hN
        by_cases hk0 : k = 0
        · subst hk0
          have h0b : ((c.toNat : Int) == 0) = false := by simp; omega
          clear hC
          go_wp2
          refine bodyPost_ret (results_tmp4 rfl _ _ _) rfl ⟨?_, rfl⟩
          rw [← HN3.out]
          refine tup4 (a := .int .i64 (wrap64 (bits BinOp.or IntKind.u64 ((y : Int) * 64) ((c.toNat : Int) % 64)))) ?_ (congrArg Value.bool (decide_eq_decide.2 (by omega))) (by first | rfl | go_num) rfl
          rw [HOR.out]; exact congrArg (Value.int .i64) (by unfold wrap64; omega)
        · have h0b : ((k : Int) == 0) = false := by simp; omega
          clear hC
          go_wp2
          refine bodyPost_ret (results_tmp4 rfl _ _ _) rfl ⟨?_, rfl⟩
          rw [← HN3.out]
          refine tup4 (a := .int .i64 (wrap64 (bits BinOp.or IntKind.u64 ((y : Int) * 64) ((c.toNat : Int) % 64)))) ?_ (congrArg Value.bool (decide_eq_decide.2 (by omega))) (by first | rfl | go_num) rfl
          rw [HOR.out]; exact congrArg (Value.int .i64) (by unfold wrap64; omega)
      · rw [if_neg hD] at HN2
        have HN3 := Aside.mk HN2
        clear HN2 hN
        by_cases hk0 : k = 0
        · subst hk0
          have h0b : ((c.toNat : Int) == 0) = false := by simp; omega
          clear hC
          go_wp2
          go_round
          case rel => exact ⟨1, 64 * y + c.toNat % 64, by omega, by go_num, by rw [HOR.out], hy2, ⟨HN3.out⟩⟩
          case measure => simp [intOf]; omega
        · have h0b : ((k : Int) == 0) = false := by simp; omega
          clear hC
          go_wp2
          go_round
          case rel => exact ⟨k + 1, 64 * y + c.toNat % 64, by omega, by go_num, by rw [HOR.out], hy2, ⟨by simpa using HN3.out⟩⟩
          case measure => simp [intOf]; omega
    · have hk2 : k = s.size := by omega
      have HN2 := HN.out
      rw [List.drop_of_length_le (by have := HZ.out; omega)] at HN2
      unfold numGo at HN2
      have HN3 := Aside.mk HN2
      clear HN2
      subst hk2
      go_wp2
      refine bodyPost_ret (results_tmp4 rfl _ _ _) rfl ⟨?_, rfl⟩
      rw [← HN3.out]
      rfl

theorem number_any (w : World) (g : Nat) (l : List UInt8) (h : isR w g l) (hl : l.length ≤ 140737488355328) : Calls Try.prog 104 #[.pointer (some ⟨g, 0, none⟩)] w fun e w' =>
    e = .returned (.tuple #[.int .i64 ((num l).1 : Nat), .bool (num l).2.1, .int .i64 ((num l).2.2.1 : Nat), .int .i64 ((num l).2.2.2 : Nat)]) ∧ w' = w :=
  number_s w g ⟨l.toArray⟩ ((heap_cell h 0).trans rfl) hl

theorem ba_from (l : List UInt8) (k : Nat) : (ByteArray.mk l.toArray).extract k l.length = ⟨(l.drop k).toArray⟩ := by
  rw [ByteArray.extract_mk, List.take_of_length_le (by simp)]
theorem ba_to (l : List UInt8) (k : Nat) : (ByteArray.mk l.toArray).extract 0 k = ⟨(l.take k).toArray⟩ := by
  rw [ByteArray.extract_mk]; simp
/-- Behind the store of what is left. -/
theorem isR_store {w : World} {g : Nat} {l l' : List UInt8} (h : isR w g l) (s : ByteArray) (hs : s = ⟨l'.toArray⟩) : isR (w.setCell ⟨g, 0, none⟩ (.string s)) g l' ∧ Fr (fun k => k = g) w (w.setCell ⟨g, 0, none⟩ (.string s)) := by
  subst hs
  exact ⟨heap_set h 0 _, (Fr.refl (fun k => k = g) _).setCell (fun _ => rfl) _⟩

set_option maxHeartbeats 1600000 in
set_option maxRecDepth 100000 in
theorem rcount_any (w : World) (g : Nat) (l : List UInt8) (h : isR w g l) (hl : l.length ≤ 140737488355328) : Calls Try.prog 95 #[.pointer (some ⟨g, 0, none⟩)] w fun e w' =>
    e = .returned (.tuple #[.int .i64 ((rdCount l).1 : Nat), .int .i64 ((rdCount l).2.2 : Nat)]) ∧ isR w' g (l.drop (rdCount l).2.1) ∧ Fr (fun k => k = g) w w' := by
  have hc := (heap_cell h 0).trans rfl
  have hf := heap_frozen h 0
  have HI := Aside.mk h
  have hk := num_size l
  have HN := Aside.mk (number_any w g l h hl)
  have HC := Aside.mk (show rdCount l = if (num l).2.2.2 ≠ 0 then (0, 0, (num l).2.2.2) else if (num l).2.1 then (0, 0, 3) else ((num l).1, (num l).2.2.1, 0) from rfl)
  generalize rdCount l = C at *
  generalize num l = R at *
  obtain ⟨R1, R2, R3, R4⟩ := R
  simp only at hk HN HC
  clear h
  by_cases h4 : R4 = 0
  · subst h4
    cases R2 with
    | true =>
      have HC2 : Aside (C = (0, 0, 3)) := ⟨by rw [HC.out]; simp⟩
      clear HC
      go_enter Try.func95, Try.ntmps95
      go_wp2_with fail
      refine HN.out.mono ?_
      rintro e w1 ⟨rfl, rfl⟩
      go_wp2
      go_ret2
      rw [HC2.out]
      exact ⟨rfl, HI.out, Fr.refl _ _⟩
    | false =>
      have HC2 : Aside (C = (R1, R3, 0)) := ⟨by rw [HC.out]; simp⟩
      clear HC
      go_enter Try.func95, Try.ntmps95
      go_wp2_with fail
      refine HN.out.mono ?_
      rintro e w1 ⟨rfl, rfl⟩
      go_wp2
      go_ret2
      rw [HC2.out]
      exact ⟨rfl, isR_store HI.out _ (ba_from l R3)⟩
  · have HC2 : Aside (C = (0, 0, R4)) := ⟨by rw [HC.out]; simp [h4]⟩
    clear HC
    have h4b : ((R4 : Int) == 0) = false := by simp; omega
    go_enter Try.func95, Try.ntmps95
    go_wp2_with fail
    refine HN.out.mono ?_
    rintro e w1 ⟨rfl, rfl⟩
    go_wp2
    go_ret2
    rw [HC2.out]
    exact ⟨rfl, HI.out, Fr.refl _ _⟩

set_option maxHeartbeats 1600000 in
set_option maxRecDepth 100000 in
theorem rraw_any (w : World) (g : Nat) (l : List UInt8) (i : Int) (h0 : 0 ≤ i) (h1 : i < 9223372036854775808) (h : isR w g l) (hl : l.length ≤ 140737488355328) : Calls Try.prog 99 #[.pointer (some ⟨g, 0, none⟩), .int .i64 i] w fun e w' =>
    e = .returned (.tuple #[.string ⟨(rdRaw l i.toNat).1.toArray⟩, .int .i64 ((rdRaw l i.toNat).2.2 : Nat)]) ∧ isR w' g (l.drop (rdRaw l i.toNat).2.1) ∧ Fr (fun k => k = g) w w' := by
  obtain ⟨n, rfl⟩ := Int.eq_ofNat_of_zero_le h0
  rw [Int.toNat_natCast]
  have hc := (heap_cell h 0).trans rfl
  have hf := heap_frozen h 0
  have HI := Aside.mk h
  have hd : decide ((n : Int) < 0) = false := by simp
  clear h
  by_cases hn : l.length < n
  · have HR : Aside (rdRaw l n = ([], 0, 2)) := ⟨by unfold rdRaw; rw [if_pos hn]⟩
    go_enter Try.func99, Try.ntmps99
    go_wp2
    go_ret2
    rw [HR.out]
    exact ⟨rfl, HI.out, Fr.refl _ _⟩
  · have HR : Aside (rdRaw l n = (l.take n, n, 0)) := ⟨by unfold rdRaw; rw [if_neg hn]⟩
    go_enter Try.func99, Try.ntmps99
    go_wp2
    go_ret2
    rw [HR.out]
    exact ⟨congrArg (fun z => Ending.returned (.tuple #[.string z, .int .i64 0])) (ba_to l n), isR_store HI.out _ (ba_from l n)⟩

set_option maxHeartbeats 1600000 in
set_option maxRecDepth 100000 in
theorem rtext_any (w : World) (g : Nat) (l : List UInt8) (h : isR w g l) (hl : l.length ≤ 140737488355328) : Calls Try.prog 96 #[.pointer (some ⟨g, 0, none⟩)] w fun e w' =>
    e = .returned (.tuple #[.string ⟨(rdText l).1.toArray⟩, .int .i64 ((rdText l).2.2 : Nat)]) ∧ isR w' g (l.drop (rdText l).2.1) ∧ Fr (fun k => k = g) w w' := by
  have hc := (heap_cell h 0).trans rfl
  have hf := heap_frozen h 0
  have hk := rdCount_size l
  have hcl := rdCount_lt l
  have HN := Aside.mk (rcount_any w g l h hl)
  have HT := Aside.mk (show rdText l = if (rdCount l).2.2 ≠ 0 then ([], 0, (rdCount l).2.2) else if (l.drop (rdCount l).2.1).length < (rdCount l).1 then ([], 0, 2) else ((l.drop (rdCount l).2.1).take (rdCount l).1, (rdCount l).2.1 + (rdCount l).1, 0) from rfl)
  have HE : Aside ((rdCount l).2.2 ≠ 0 → (rdCount l).2.1 = 0) := ⟨by
    unfold rdCount; split
    · simp
    · split <;> simp⟩
  generalize rdText l = T at *
  generalize rdCount l = C at *
  obtain ⟨C1, C2, C3⟩ := C
  simp only at hk hcl HN HT HE
  clear h
  by_cases h3 : C3 = 0
  · subst h3
    go_enter Try.func96, Try.ntmps96
    go_wp2_with fail
    refine HN.out.mono ?_
    rintro e w1 ⟨rfl, h1, hf1⟩
    have HI1 := Aside.mk h1
    have HF1 := Aside.mk hf1
    have hc1 := (heap_cell h1 0).trans rfl
    have hfr1 := heap_frozen h1 0
    clear h1 hf1
    have HR := Aside.mk (rraw_any w1 g (l.drop C2) (C1 : Int) (by omega) (by omega) HI1.out (by simp; omega))
    rw [Int.toNat_natCast] at HR
    by_cases hn : (l.drop C2).length < C1
    · have HT2 : Aside (T = ([], 0, 2)) := ⟨by rw [HT.out, if_neg (by simp), if_pos hn]⟩
      have e1 : rdRaw (l.drop C2) C1 = ([], 0, 2) := by unfold rdRaw; rw [if_pos hn]
      rw [e1] at HR
      clear HT e1 hn
      go_wp2_with fail
      refine HR.out.mono ?_
      rintro e w2 ⟨rfl, h2, hf2⟩
      have HI2 := Aside.mk h2
      have HF2 := Aside.mk (HF1.out.trans hf2 (fun b _ q => q))
      have hc2 := (heap_cell h2 0).trans rfl
      have hfr2 := heap_frozen h2 0
      clear h2 hf2
      go_wp2
      go_ret2
      rw [HT2.out]
      exact ⟨rfl, heap_set HI2.out 0 _, HF2.out.setCell (fun _ => rfl) _⟩
    · have HT2 : Aside (T = ((l.drop C2).take C1, C2 + C1, 0)) := ⟨by rw [HT.out, if_neg (by simp), if_neg hn]⟩
      have e1 : rdRaw (l.drop C2) C1 = ((l.drop C2).take C1, C1, 0) := by unfold rdRaw; rw [if_neg hn]
      rw [e1] at HR
      clear HT e1 hn
      go_wp2_with fail
      refine HR.out.mono ?_
      rintro e w2 ⟨rfl, h2, hf2⟩
      have HI2 := Aside.mk h2
      have HF2 := Aside.mk (HF1.out.trans hf2 (fun b _ q => q))
      have hc2 := (heap_cell h2 0).trans rfl
      have hfr2 := heap_frozen h2 0
      clear h2 hf2
      go_wp2
      go_ret2
      rw [HT2.out]
      exact ⟨rfl, by simpa [List.drop_drop] using HI2.out, HF2.out⟩
  · have HT2 : Aside (T = ([], 0, C3)) := ⟨by rw [HT.out]; simp [h3]⟩
    have h2e := HE.out h3
    subst h2e
    have h3b : ((C3 : Int) == 0) = false := by simp; omega
    clear HT HE
    go_enter Try.func96, Try.ntmps96
    go_wp2_with fail
    refine HN.out.mono ?_
    rintro e w1 ⟨rfl, h1, hf1⟩
    have HI1 := Aside.mk h1
    have HF1 := Aside.mk hf1
    clear h1 hf1
    go_wp2
    go_ret2
    rw [HT2.out]
    exact ⟨rfl, HI1.out, HF1.out⟩

/-! ### A reader that was made in the world wB -/
def AtR (wB w : World) (g : Nat) (l : List UInt8) : Prop := isR w g l ∧ wB.heap.size ≤ g ∧ Fr (fun _ => False) wB w
theorem AtR.pass {wB w w1 : World} {g : Nat} {l : List UInt8} (h : AtR wB w g l) (hf : Fr (fun _ => False) w w1) : AtR wB w1 g l :=
  ⟨h.1.keep hf id, h.2.1, h.2.2.trans hf (fun _ _ q => q)⟩
theorem AtR.step {wB w w1 : World} {g : Nat} {l l' : List UInt8} (h : AtR wB w g l) (hr : isR w1 g l') (hf : Fr (fun k => k = g) w w1) : AtR wB w1 g l' :=
  ⟨hr, h.2.1, h.2.2.trans hf (fun b hb q => by have := h.2.1; have e : b = g := q; omega)⟩
theorem over_at (w : World) (s : ByteArray) : Calls Try.prog 75 #[.string s] w fun e w' => ∃ g, e = .returned (.pointer (some ⟨g, 0, none⟩)) ∧ AtR w w' g s.data.toList :=
  (over_any w s).mono fun e w' ⟨he, h1, h2⟩ => ⟨_, he, h1, Nat.le_refl _, h2⟩
theorem rcount_at (wB w : World) (g : Nat) (l : List UInt8) (h : AtR wB w g l) (hl : l.length ≤ 140737488355328) : Calls Try.prog 95 #[.pointer (some ⟨g, 0, none⟩)] w fun e w' =>
    e = .returned (.tuple #[.int .i64 ((rdCount l).1 : Nat), .int .i64 ((rdCount l).2.2 : Nat)]) ∧ AtR wB w' g (l.drop (rdCount l).2.1) :=
  (rcount_any w g l h.1 hl).mono fun e w' ⟨he, h1, h2⟩ => ⟨he, h.step h1 h2⟩
theorem rraw_at (wB w : World) (g : Nat) (l : List UInt8) (i : Int) (h0 : 0 ≤ i) (h1 : i < 9223372036854775808) (h : AtR wB w g l) (hl : l.length ≤ 140737488355328) : Calls Try.prog 99 #[.pointer (some ⟨g, 0, none⟩), .int .i64 i] w fun e w' =>
    e = .returned (.tuple #[.string ⟨(rdRaw l i.toNat).1.toArray⟩, .int .i64 ((rdRaw l i.toNat).2.2 : Nat)]) ∧ AtR wB w' g (l.drop (rdRaw l i.toNat).2.1) :=
  (rraw_any w g l i h0 h1 h.1 hl).mono fun e w' ⟨he, q1, q2⟩ => ⟨he, h.step q1 q2⟩
theorem rtext_at (wB w : World) (g : Nat) (l : List UInt8) (h : AtR wB w g l) (hl : l.length ≤ 140737488355328) : Calls Try.prog 96 #[.pointer (some ⟨g, 0, none⟩)] w fun e w' =>
    e = .returned (.tuple #[.string ⟨(rdText l).1.toArray⟩, .int .i64 ((rdText l).2.2 : Nat)]) ∧ AtR wB w' g (l.drop (rdText l).2.1) :=
  (rtext_any w g l h.1 hl).mono fun e w' ⟨he, q1, q2⟩ => ⟨he, h.step q1 q2⟩

end Go.Proofs.Ytodhkdmkkjhnnaa
