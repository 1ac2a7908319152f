/- The walk of siloref17.Open. -/
import Derived.Test.YtodhkdmkkjhnnaaBegin
import Derived.Test.YtodhkdmkkjhnnaaBoxOpen
set_option linter.unusedVariables false
namespace Go.Proofs.Ytodhkdmkkjhnnaa
open Go.RowKit

def TK2 (s : ByteArray) (t : List UInt8) (e : Nat) : Prop := ∀ W, Calls Try.prog 78 #[.string s] W fun e1 w' => e1 = .returned (.tuple #[.string ⟨t.toArray⟩, .int .i64 (e : Nat)]) ∧ Fr (fun _ => False) W w'
def BG (t : List UInt8) (R : Rec × Nat × Nat) : Prop := ∀ W, Calls Try.prog 79 #[.string ⟨t.toArray⟩] W (BPost W R)

set_option maxHeartbeats 3200000 in
set_option maxRecDepth 100000 in
theorem ropen_take (w : World) (s : ByteArray) (t : List UInt8) (e : Nat) (he : ¬ e = 0) (HT : TK2 s t e) :
    Calls Try.prog 21 #[.string s] w fun e1 w' => e1 = .returned (.tuple #[recV Rec.zero, .int .i64 (e : Nat)]) ∧ Fr (fun _ => False) w w' := by
  have HFR := Aside.mk (isRec.fresh 25 w (.cells recLit 25) rfl)
  have HL2 : Aside ((Value.agg recLit).cells = (recL Rec.zero).toArray) := ⟨rfl⟩
  have heb : ((e : Int) == 0) = false := by simp; omega
  go_enter Try.func21, Try.ntmps21
  go_wp2_with fail
  refine (HT _).mono ?_
  rintro e1 w1 ⟨rfl, hf⟩
  have HF1 := Aside.mk (((Fr.refl (fun _ => False) w).alloc (.cells recLit 25)).trans hf (fun _ _ q => q))
  have HX1 := Aside.mk (HFR.out.keep hf id)
  clear hf
  go_wp2_with ((with_reducible refine gate (.store 25 (.tmp 2) (.tmp 14)) rfl ?_); refine st_all recT_ref rfl rfl (.tmp 2) (.tmp 14) rfl w.heap.size _ Rec.zero (.agg recLit) rfl rfl HL2.out Rec.zero_ok HX1.out ?_)
  intro w2 hx hf
  have HX2 := Aside.mk hx
  have HF2 := Aside.mk (HF1.out.trans hf (fun b hb q => by have q2 : b = w.heap.size := q; omega))
  clear hx hf
  go_wp2
  exact bodyPost_ret (HX2.out.results recT_ref rfl _ rfl) rfl ⟨rfl, HF2.out⟩

set_option maxHeartbeats 3200000 in
set_option maxRecDepth 100000 in
theorem ropen_begin (w : World) (s : ByteArray) (t : List UInt8) (r : Rec) (n e : Nat) (hr : r.Ok) (he : ¬ e = 0) (HT : TK2 s t 0) (HB : BG t (r, n, e)) :
    Calls Try.prog 21 #[.string s] w fun e1 w' => e1 = .returned (.tuple #[recV Rec.zero, .int .i64 (e : Nat)]) ∧ Fr (fun _ => False) w w' := by
  have HFR := Aside.mk (isRec.fresh 25 w (.cells recLit 25) rfl)
  have HL2 : Aside ((Value.agg recLit).cells = (recL Rec.zero).toArray) := ⟨rfl⟩
  have heb : ((e : Int) == 0) = false := by simp; omega
  go_enter Try.func21, Try.ntmps21
  go_wp2_with fail
  refine (HT _).mono ?_
  rintro e1 w1 ⟨rfl, hf⟩
  have HF1 := Aside.mk (((Fr.refl (fun _ => False) w).alloc (.cells recLit 25)).trans hf (fun _ _ q => q))
  have HX1 := Aside.mk (HFR.out.keep hf id)
  clear hf
  go_wp2_with fail
  refine (HB _).mono ?_
  rintro e3 w3 ⟨rfl, hf⟩
  have HF3 := Aside.mk (HF1.out.trans hf (fun _ _ q => q))
  have HX3 : Aside (isRec 25 w3 w.heap.size _) := ⟨HX1.out.keep hf id⟩
  have HZ3 := Aside.mk (isRec.fresh 25 w3 (.cells recLit 25) rfl)
  have HY3 : Aside (isRec 25 (w3.alloc (.cells recLit 25)) w.heap.size _) := ⟨HX3.out.keep ((Fr.refl (fun _ => False) _).alloc _) id⟩
  have HW3 := Aside.mk (HF3.out.alloc (.cells recLit 25))
  have hlt := lt_of_heap HX3.out.1
  clear hf
  go_wp2_with ((with_reducible refine gate (.store 25 (.tmp 5) (.tmp 19)) rfl ?_); refine st_all recT_ref rfl rfl (.tmp 5) (.tmp 19) rfl w3.heap.size _ r (recV r) rfl rfl rfl hr HZ3.out ?_)
  intro w4 hx hf
  have HX4 := Aside.mk (HY3.out.keep hf (by omega))
  have HF4 := Aside.mk (HW3.out.trans hf (fun b hb q => by have q2 : b = w3.heap.size := q; omega))
  have HZ4 := Aside.mk hx
  clear hx hf
  go_wp2_with ((with_reducible refine gate (.store 25 (.tmp 2) (.tmp 24)) rfl ?_); refine st_all recT_ref rfl rfl (.tmp 2) (.tmp 24) rfl w.heap.size _ Rec.zero (.agg recLit) rfl rfl HL2.out Rec.zero_ok HX4.out ?_)
  intro w5 hx hf
  have HX5 := Aside.mk hx
  have HF5 := Aside.mk (HF4.out.trans hf (fun b hb q => by have q2 : b = w.heap.size := q; omega))
  clear hx hf
  go_wp2
  exact bodyPost_ret (HX5.out.results recT_ref rfl _ rfl) rfl ⟨rfl, HF5.out⟩

set_option maxHeartbeats 3200000 in
set_option maxRecDepth 100000 in
theorem ropen_end (w : World) (s : ByteArray) (t : List UInt8) (r : Rec) (n : Nat) (hr : r.Ok) (ht : n < t.length) (HT : TK2 s t 0) (HB : BG t (r, n, 0)) :
    Calls Try.prog 21 #[.string s] w fun e1 w' => e1 = .returned (.tuple #[recV Rec.zero, .int .i64 5]) ∧ Fr (fun _ => False) w w' := by
  have HFR := Aside.mk (isRec.fresh 25 w (.cells recLit 25) rfl)
  have HL2 : Aside ((Value.agg recLit).cells = (recL Rec.zero).toArray) := ⟨rfl⟩
  have hts : (ByteArray.mk t.toArray).size = t.length := by simp [ByteArray.size]
  have hlb : decide ((n : Int) < (t.length : Int)) = true := by simp; omega
  go_enter Try.func21, Try.ntmps21
  go_wp2_with fail
  refine (HT _).mono ?_
  rintro e1 w1 ⟨rfl, hf⟩
  have HF1 := Aside.mk (((Fr.refl (fun _ => False) w).alloc (.cells recLit 25)).trans hf (fun _ _ q => q))
  have HX1 := Aside.mk (HFR.out.keep hf id)
  clear hf
  go_wp2_with fail
  refine (HB _).mono ?_
  rintro e3 w3 ⟨rfl, hf⟩
  have HF3 := Aside.mk (HF1.out.trans hf (fun _ _ q => q))
  have HX3 : Aside (isRec 25 w3 w.heap.size _) := ⟨HX1.out.keep hf id⟩
  have HZ3 := Aside.mk (isRec.fresh 25 w3 (.cells recLit 25) rfl)
  have HY3 : Aside (isRec 25 (w3.alloc (.cells recLit 25)) w.heap.size _) := ⟨HX3.out.keep ((Fr.refl (fun _ => False) _).alloc _) id⟩
  have HW3 := Aside.mk (HF3.out.alloc (.cells recLit 25))
  have hlt := lt_of_heap HX3.out.1
  clear hf
  go_wp2_with ((with_reducible refine gate (.store 25 (.tmp 5) (.tmp 19)) rfl ?_); refine st_all recT_ref rfl rfl (.tmp 5) (.tmp 19) rfl w3.heap.size _ r (recV r) rfl rfl rfl hr HZ3.out ?_)
  intro w4 hx hf
  have HX4 := Aside.mk (HY3.out.keep hf (by omega))
  have HF4 := Aside.mk (HW3.out.trans hf (fun b hb q => by have q2 : b = w3.heap.size := q; omega))
  have HZ4 := Aside.mk hx
  clear hx hf
  go_wp2_with ((with_reducible refine gate (.store 25 (.tmp 2) (.tmp 30)) rfl ?_); refine st_all recT_ref rfl rfl (.tmp 2) (.tmp 30) rfl w.heap.size _ Rec.zero (.agg recLit) rfl rfl HL2.out Rec.zero_ok HX4.out ?_)
  intro w5 hx hf
  have HX5 := Aside.mk hx
  have HF5 := Aside.mk (HF4.out.trans hf (fun b hb q => by have q2 : b = w.heap.size := q; omega))
  clear hx hf
  go_wp2
  exact bodyPost_ret (HX5.out.results recT_ref rfl _ rfl) rfl ⟨rfl, HF5.out⟩

set_option maxHeartbeats 3200000 in
set_option maxRecDepth 100000 in
theorem ropen_ok (w : World) (s : ByteArray) (t : List UInt8) (r : Rec) (n : Nat) (hr : r.Ok) (ht : ¬ n < t.length) (HT : TK2 s t 0) (HB : BG t (r, n, 0)) :
    Calls Try.prog 21 #[.string s] w fun e1 w' => e1 = .returned (.tuple #[recV r, .int .i64 0]) ∧ Fr (fun _ => False) w w' := by
  have HFR := Aside.mk (isRec.fresh 25 w (.cells recLit 25) rfl)
  have HL2 : Aside ((Value.agg recLit).cells = (recL Rec.zero).toArray) := ⟨rfl⟩
  have hts : (ByteArray.mk t.toArray).size = t.length := by simp [ByteArray.size]
  have hlb : decide ((n : Int) < (t.length : Int)) = false := by simp; omega
  go_enter Try.func21, Try.ntmps21
  go_wp2_with fail
  refine (HT _).mono ?_
  rintro e1 w1 ⟨rfl, hf⟩
  have HF1 := Aside.mk (((Fr.refl (fun _ => False) w).alloc (.cells recLit 25)).trans hf (fun _ _ q => q))
  have HX1 := Aside.mk (HFR.out.keep hf id)
  clear hf
  go_wp2_with fail
  refine (HB _).mono ?_
  rintro e3 w3 ⟨rfl, hf⟩
  have HF3 := Aside.mk (HF1.out.trans hf (fun _ _ q => q))
  have HX3 : Aside (isRec 25 w3 w.heap.size _) := ⟨HX1.out.keep hf id⟩
  have HZ3 := Aside.mk (isRec.fresh 25 w3 (.cells recLit 25) rfl)
  have HY3 : Aside (isRec 25 (w3.alloc (.cells recLit 25)) w.heap.size _) := ⟨HX3.out.keep ((Fr.refl (fun _ => False) _).alloc _) id⟩
  have HW3 := Aside.mk (HF3.out.alloc (.cells recLit 25))
  have hlt := lt_of_heap HX3.out.1
  clear hf
  go_wp2_with ((with_reducible refine gate (.store 25 (.tmp 5) (.tmp 19)) rfl ?_); refine st_all recT_ref rfl rfl (.tmp 5) (.tmp 19) rfl w3.heap.size _ r (recV r) rfl rfl rfl hr HZ3.out ?_)
  intro w4 hx hf
  have HX4 := Aside.mk (HY3.out.keep hf (by omega))
  have HF4 := Aside.mk (HW3.out.trans hf (fun b hb q => by have q2 : b = w3.heap.size := q; omega))
  have HZ4 := Aside.mk hx
  clear hx hf
  go_wp2_with (first | ((with_reducible refine gate (.load 25 (.tmp 5)) rfl ?_); refine ld_all recT_ref (by simp [Region.wanted]) (.tmp 5) rfl w3.heap.size r rfl HZ4.out ?_) | ((with_reducible refine gate (.store 25 (.tmp 2) (.tmp 31)) rfl ?_); refine st_all recT_ref rfl rfl (.tmp 2) (.tmp 31) rfl w.heap.size _ r (recV r) rfl rfl rfl hr HX4.out ?_))
  intro w5 hx hf
  have HX5 := Aside.mk hx
  have HF5 := Aside.mk (HF4.out.trans hf (fun b hb q => by have q2 : b = w.heap.size := q; omega))
  clear hx hf
  go_wp2
  exact bodyPost_ret (HX5.out.results recT_ref rfl _ rfl) rfl ⟨rfl, HF5.out⟩

theorem refopen_any (w : World) (s : ByteArray) (hs : s.size ≤ 140737488355328) :
    Calls Try.prog 21 #[.string s] w fun e1 w' => e1 = .returned (.tuple #[recV (openR s.data.toList).1, .int .i64 ((openR s.data.toList).2 : Nat)]) ∧ Fr (fun _ => False) w w' := by
  have T : TK2 s (Crc.take s.data.toList).1 (Crc.take s.data.toList).2 := fun W => rtake_any W s hs
  have htl := take_len s.data.toList
  rw [← ba_size] at htl
  unfold openR
  generalize Crc.take s.data.toList = Q at *
  obtain ⟨t, e⟩ := Q
  simp only at T htl ⊢
  by_cases he : e = 0
  rotate_left
  · rw [if_pos he]; exact ropen_take w s t e he T
  subst he
  rw [if_neg (by simp)]
  have N : BG t (rdRec t) := fun W => begin_any W ⟨t.toArray⟩ (by simp only [ByteArray.size, List.size_toArray]; omega)
  have hr := rdRec_ok t
  generalize rdRec t = R at *
  obtain ⟨r, n, e⟩ := R
  simp only at N hr ⊢
  by_cases he : e = 0
  rotate_left
  · rw [if_pos he]; exact ropen_begin w s t r n e hr he T N
  subst he
  rw [if_neg (by simp)]
  by_cases ht : t.drop n = []
  · rw [if_pos ht]; exact ropen_ok w s t r n hr (by simp at ht; omega) T N
  · rw [if_neg ht]; exact ropen_end w s t r n hr (by simp at ht; omega) T N

end Go.Proofs.Ytodhkdmkkjhnnaa
