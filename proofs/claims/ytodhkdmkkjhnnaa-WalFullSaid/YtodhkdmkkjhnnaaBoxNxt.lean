/- box.next: all cases together. -/
import Derived.Test.YtodhkdmkkjhnnaaBoxNext
set_option linter.unusedVariables false
namespace Go.Proofs.Ytodhkdmkkjhnnaa
open Go.RowKit

theorem rk_of (g : Nat) (l : List UInt8) (hl : l.length ≤ 140737488355328) : RK g l (rdKey l) (l.drop (rdRaw l 32).2.1) (rdRaw l 32).2.2 := fun W hW => key_any W g l hW hl
theorem rc_of (g : Nat) (l : List UInt8) (hl : l.length ≤ 140737488355328) : RC g l (l.drop (rdCount l).2.1) (rdCount l).1 (rdCount l).2.2 := fun W hW => rcount_any W g l hW hl
theorem rt_of (g : Nat) (l : List UInt8) (hl : l.length ≤ 140737488355328) : RT g l (l.drop (rdText l).2.1) (rdText l).1 (rdText l).2.2 := fun W hW => rtext_any W g l hW hl
theorem rdRaw_ok {l : List UInt8} (h : ¬ l.length < 32) : rdRaw l 32 = (l.take 32, 32, 0) := by unfold rdRaw; rw [if_neg h]
theorem rdRaw_no {l : List UInt8} (h : l.length < 32) : rdRaw l 32 = ([], 0, 2) := by unfold rdRaw; rw [if_pos h]
theorem rdKey_ok {l : List UInt8} (h : ¬ l.length < 32) : rdKey l = l.take 32 := by unfold rdKey; rw [if_neg h]
theorem rdText_len (l : List UInt8) : (rdText l).1.length ≤ l.length := by
  unfold rdText; split
  · simp
  · split
    · simp
    · simp; omega

theorem next_any (w : World) (g : Nat) (l : List UInt8) (h : isR w g l) (hl : l.length ≤ 140737488355328) :
    Calls Try.prog 76 #[.pointer (some ⟨g, 0, none⟩)] w (NextPost w g l (rdRec l)) := by
  have hgl := lt_of_heap h
  have K := rk_of g l hl
  by_cases hA : l.length < 32
  · have e : rdRec l = (Rec.zero, 0, 2) := by unfold rdRec; rw [if_pos hA]
    rw [rdRaw_no hA] at K
    rw [e]
    exact next_short w g l _ _ h hgl (rdKey_len l) K
  have e0 : rdRec l = rdKind (l.take 32) (l.drop 32) := by unfold rdRec; rw [if_neg hA]
  rw [rdRaw_ok hA] at K
  have hKL := rdKey_len l
  rw [rdKey_ok hA] at K hKL
  rw [e0]
  have hl1 : (l.drop 32).length ≤ 140737488355328 := by simp; omega
  have C := rc_of g (l.drop 32) hl1
  have hcl := rdCount_lt (l.drop 32)
  have hcs := rdCount_size (l.drop 32)
  unfold rdKind
  simp only [List.drop_drop]
  rw [List.drop_drop] at C
  generalize rdCount (l.drop 32) = R at *
  obtain ⟨n, k, e⟩ := R
  simp only at C hcl hcs ⊢
  by_cases he : e = 0
  rotate_left
  · rw [if_pos he]
    exact next_count w g l _ _ h hgl hKL K _ n e he C
  subst he
  rw [if_neg (by simp)]
  by_cases hn : 1 < n
  · rw [if_pos hn]
    exact next_kind w g l _ _ h hgl hKL K _ n hn hcl C
  rw [if_neg hn]
  by_cases hn1 : n = 1
  · subst hn1
    rw [if_pos rfl]
    have hl2 : (l.drop (32 + k)).length ≤ 140737488355328 := by simp; omega
    have K2 := rk_of g (l.drop (32 + k)) hl2
    have hBL := rdKey_len (l.drop (32 + k))
    by_cases hs : (l.drop (32 + k)).length < 32
    · rw [if_pos hs]
      rw [rdRaw_no hs] at K2
      exact next_patch_short w g l _ _ h hgl hKL K _ C _ _ hBL K2
    rw [if_neg hs]
    rw [rdRaw_ok hs, List.drop_drop] at K2
    rw [rdKey_ok hs] at K2 hBL
    have hl3 : (l.drop (32 + k + 32)).length ≤ 140737488355328 := by simp; omega
    have T := rt_of g (l.drop (32 + k + 32)) hl3
    have htl := rdText_len (l.drop (32 + k + 32))
    unfold rdBody
    rw [List.drop_drop] at T
    generalize rdText (l.drop (32 + k + 32)) = Q at *
    obtain ⟨t, m, e⟩ := Q
    simp only at T htl ⊢
    by_cases he : e = 0
    rotate_left
    · rw [if_pos he]
      exact next_patch_text w g l _ _ h hgl hKL K _ C _ _ hBL K2 _ t e he T
    subst he
    rw [if_neg (by simp)]
    by_cases hlong : 8192 < t.length
    · rw [if_pos hlong]
      exact next_patch_long w g l _ _ h hgl hKL K _ C _ _ hBL K2 _ t hlong (by omega) T
    · rw [if_neg hlong]
      exact next_patch_ok w g l _ _ h hgl hKL K _ C _ _ hBL K2 _ t hlong _ rfl T
  · have hn0 : n = 0 := by omega
    subst hn0
    rw [if_neg (by simp)]
    have hl2 : (l.drop (32 + k)).length ≤ 140737488355328 := by simp; omega
    have T := rt_of g (l.drop (32 + k)) hl2
    have htl := rdText_len (l.drop (32 + k))
    unfold rdBody
    rw [List.drop_drop] at T
    generalize rdText (l.drop (32 + k)) = Q at *
    obtain ⟨t, m, e⟩ := Q
    simp only at T htl ⊢
    by_cases he : e = 0
    rotate_left
    · rw [if_pos he]
      exact next_plain_text w g l _ _ h hgl hKL K _ C _ t e he T
    subst he
    rw [if_neg (by simp)]
    by_cases hlong : 8192 < t.length
    · rw [if_pos hlong]
      exact next_plain_long w g l _ _ h hgl hKL K _ C _ t hlong (by omega) T
    · rw [if_neg hlong]
      exact next_plain_ok w g l _ _ h hgl hKL K _ C _ t hlong _ rfl T

/-! ### box.Open -/
def openR (l : List UInt8) : Rec × Nat :=
  if (Crc.take l).2 ≠ 0 then (Rec.zero, (Crc.take l).2)
  else if (rdRec (Crc.take l).1).2.2 ≠ 0 then (Rec.zero, (rdRec (Crc.take l).1).2.2)
  else if (Crc.take l).1.drop (rdRec (Crc.take l).1).2.1 = [] then ((rdRec (Crc.take l).1).1, 0) else (Rec.zero, 5)

end Go.Proofs.Ytodhkdmkkjhnnaa
