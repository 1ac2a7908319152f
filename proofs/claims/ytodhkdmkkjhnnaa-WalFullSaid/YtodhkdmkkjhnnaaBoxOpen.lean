/- The walk of box.Open. -/
import Derived.Test.YtodhkdmkkjhnnaaBoxNxt
import Derived.Test.YtodhkdmkkjhnnaaCrcW
set_option linter.unusedVariables false
namespace Go.Proofs.Ytodhkdmkkjhnnaa
open Go.RowKit

def TK (s : ByteArray) (t : List UInt8) (e : Nat) : Prop := ∀ W, Calls Try.prog 74 #[.string s] W fun e1 w' => e1 = .returned (.tuple #[.string ⟨t.toArray⟩, .int .i64 (e : Nat)]) ∧ Fr (fun _ => False) W w'
def OV (t : List UInt8) : Prop := ∀ W, Calls Try.prog 75 #[.string ⟨t.toArray⟩] W fun e w' => ∃ g, e = .returned (.pointer (some ⟨g, 0, none⟩)) ∧ isR w' g t ∧ W.heap.size ≤ g ∧ Fr (fun _ => False) W w'
theorem ov_of (t : List UInt8) : OV t := fun W => (over_any W ⟨t.toArray⟩).mono fun e w' ⟨he, h1, h2⟩ => ⟨_, he, h1, Nat.le_refl _, h2⟩
def NX (t : List UInt8) (R : Rec × Nat × Nat) : Prop := ∀ W g, isR W g t → Calls Try.prog 76 #[.pointer (some ⟨g, 0, none⟩)] W (NextPost W g t R)

set_option maxHeartbeats 3200000 in
set_option maxRecDepth 100000 in
theorem open_take (w : World) (s : ByteArray) (t : List UInt8) (e : Nat) (he : ¬ e = 0) (HT : TK s t e) :
    Calls Try.prog 20 #[.string s] w fun e1 w' => e1 = .returned (.tuple #[recV Rec.zero, .int .i64 (e : Nat)]) ∧ Fr (fun _ => False) w w' := by
  have HFR := Aside.mk (isRec.fresh 30 w (.cells recLit 30) rfl)
  have HL2 : Aside ((Value.agg recLit).cells = (recL Rec.zero).toArray) := ⟨rfl⟩
  have heb : ((e : Int) == 0) = false := by simp; omega
  go_enter Try.func20, Try.ntmps20
  go_wp2_with fail
  refine (HT _).mono ?_
  rintro e1 w1 ⟨rfl, hf⟩
  have HF1 := Aside.mk (((Fr.refl (fun _ => False) w).alloc (.cells recLit 30)).trans hf (fun _ _ q => q))
  have HX1 := Aside.mk (HFR.out.keep hf id)
  clear hf
  go_wp2_with ((with_reducible refine gate (.store 30 (.tmp 2) (.tmp 14)) rfl ?_); refine st_all recT_box rfl rfl (.tmp 2) (.tmp 14) rfl w.heap.size _ Rec.zero (.agg recLit) rfl rfl HL2.out Rec.zero_ok HX1.out ?_)
  intro w2 hx hf
  have HX2 := Aside.mk hx
  have HF2 := Aside.mk (HF1.out.trans hf (fun b hb q => by have q2 : b = w.heap.size := q; omega))
  clear hx hf
  go_wp2
  exact bodyPost_ret (HX2.out.results recT_box rfl _ rfl) rfl ⟨rfl, HF2.out⟩

set_option maxHeartbeats 3200000 in
set_option maxRecDepth 100000 in
theorem open_next (w : World) (s : ByteArray) (t : List UInt8) (r : Rec) (n e : Nat) (hr : r.Ok) (he : ¬ e = 0) (HT : TK s t 0) (HO : OV t) (HN : NX t (r, n, e)) :
    Calls Try.prog 20 #[.string s] w fun e1 w' => e1 = .returned (.tuple #[recV Rec.zero, .int .i64 (e : Nat)]) ∧ Fr (fun _ => False) w w' := by
  have HFR := Aside.mk (isRec.fresh 30 w (.cells recLit 30) rfl)
  have HL2 : Aside ((Value.agg recLit).cells = (recL Rec.zero).toArray) := ⟨rfl⟩
  have heb : ((e : Int) == 0) = false := by simp; omega
  go_enter Try.func20, Try.ntmps20
  go_wp2_with fail
  refine (HT _).mono ?_
  rintro e1 w1 ⟨rfl, hf⟩
  have HF1 := Aside.mk (((Fr.refl (fun _ => False) w).alloc (.cells recLit 30)).trans hf (fun _ _ q => q))
  have HX1 := Aside.mk (HFR.out.keep hf id)
  clear hf
  go_wp2_with fail
  refine (HO _).mono ?_
  rintro e2 w2 ⟨g, rfl, hr2, hg, hf⟩
  have hgw : w.heap.size < g := by have := lt_of_heap HX1.out.1; omega
  have HF2 := Aside.mk (HF1.out.trans hf (fun _ _ q => q))
  have HX2 := Aside.mk (HX1.out.keep hf id)
  have HR2 := Aside.mk hr2
  clear hf hr2 hg
  go_wp2_with fail
  refine (HN _ g HR2.out).mono ?_
  rintro e3 w3 ⟨rfl, ⟨l', hr3, -⟩, hf⟩
  have HF3 := Aside.mk (HF2.out.trans hf (fun b hb q => by have q2 : b = g := q; omega))
  have HX3 : Aside (isRec 30 w3 w.heap.size _) := ⟨HX2.out.keep hf (by omega)⟩
  have HZ3 := Aside.mk (isRec.fresh 30 w3 (.cells recLit 30) rfl)
  have HY3 : Aside (isRec 30 (w3.alloc (.cells recLit 30)) w.heap.size _) := ⟨HX3.out.keep ((Fr.refl (fun _ => False) _).alloc _) id⟩
  have HW3 := Aside.mk (HF3.out.alloc (.cells recLit 30))
  have hlt := lt_of_heap HX3.out.1
  clear hf hr3
  go_wp2_with ((with_reducible refine gate (.store 30 (.tmp 6) (.tmp 21)) rfl ?_); refine st_all recT_box rfl rfl (.tmp 6) (.tmp 21) rfl w3.heap.size _ r (recV r) rfl rfl rfl hr HZ3.out ?_)
  intro w4 hx hf
  have HX4 := Aside.mk (HY3.out.keep hf (by omega))
  have HF4 := Aside.mk (HW3.out.trans hf (fun b hb q => by have q2 : b = w3.heap.size := q; omega))
  clear hx hf
  go_wp2_with ((with_reducible refine gate (.store 30 (.tmp 2) (.tmp 29)) rfl ?_); refine st_all recT_box rfl rfl (.tmp 2) (.tmp 29) rfl w.heap.size _ Rec.zero (.agg recLit) rfl rfl HL2.out Rec.zero_ok HX4.out ?_)
  intro w5 hx hf
  have HX5 := Aside.mk hx
  have HF5 := Aside.mk (HF4.out.trans hf (fun b hb q => by have q2 : b = w.heap.size := q; omega))
  clear hx hf
  go_wp2
  exact bodyPost_ret (HX5.out.results recT_box rfl _ rfl) rfl ⟨rfl, HF5.out⟩

set_option maxHeartbeats 3200000 in
set_option maxRecDepth 100000 in
theorem open_end (w : World) (s : ByteArray) (t : List UInt8) (r : Rec) (n : Nat) (hr : r.Ok) (ht : ¬ t.drop n = []) (HT : TK s t 0) (HO : OV t) (HN : NX t (r, n, 0)) :
    Calls Try.prog 20 #[.string s] w fun e1 w' => e1 = .returned (.tuple #[recV Rec.zero, .int .i64 5]) ∧ Fr (fun _ => False) w w' := by
  have HFR := Aside.mk (isRec.fresh 30 w (.cells recLit 30) rfl)
  have HL2 : Aside ((Value.agg recLit).cells = (recL Rec.zero).toArray) := ⟨rfl⟩
  go_enter Try.func20, Try.ntmps20
  go_wp2_with fail
  refine (HT _).mono ?_
  rintro e1 w1 ⟨rfl, hf⟩
  have HF1 := Aside.mk (((Fr.refl (fun _ => False) w).alloc (.cells recLit 30)).trans hf (fun _ _ q => q))
  have HX1 := Aside.mk (HFR.out.keep hf id)
  clear hf
  go_wp2_with fail
  refine (HO _).mono ?_
  rintro e2 w2 ⟨g, rfl, hr2, hg, hf⟩
  have hgw : w.heap.size < g := by have := lt_of_heap HX1.out.1; omega
  have HF2 := Aside.mk (HF1.out.trans hf (fun _ _ q => q))
  have HX2 := Aside.mk (HX1.out.keep hf id)
  have HR2 := Aside.mk hr2
  clear hf hr2 hg
  go_wp2_with fail
  refine (HN _ g HR2.out).mono ?_
  rintro e3 w3 ⟨rfl, ⟨l', hr3, hl'⟩, hf⟩
  obtain rfl := hl' rfl
  have HR3 := Aside.mk hr3
  have hg3 := lt_of_heap hr3
  clear hl'
  have HF3 := Aside.mk (HF2.out.trans hf (fun b hb q => by have q2 : b = g := q; omega))
  have HX3 : Aside (isRec 30 w3 w.heap.size _) := ⟨HX2.out.keep hf (by omega)⟩
  have HZ3 := Aside.mk (isRec.fresh 30 w3 (.cells recLit 30) rfl)
  have HY3 : Aside (isRec 30 (w3.alloc (.cells recLit 30)) w.heap.size _) := ⟨HX3.out.keep ((Fr.refl (fun _ => False) _).alloc _) id⟩
  have HW3 := Aside.mk (HF3.out.alloc (.cells recLit 30))
  have hlt := lt_of_heap HX3.out.1
  clear hf hr3
  go_wp2_with ((with_reducible refine gate (.store 30 (.tmp 6) (.tmp 21)) rfl ?_); refine st_all recT_box rfl rfl (.tmp 6) (.tmp 21) rfl w3.heap.size _ r (recV r) rfl rfl rfl hr HZ3.out ?_)
  intro w4 hx hf
  have HX4 := Aside.mk (HY3.out.keep hf (by omega))
  have HF4 := Aside.mk (HW3.out.trans hf (fun b hb q => by have q2 : b = w3.heap.size := q; omega))
  have HR4 := Aside.mk ((HR3.out.keep ((Fr.refl (fun _ => False) _).alloc (.cells recLit 30)) id).keep hf (by omega))
  have HZ4 := Aside.mk hx
  clear hx hf
  go_wp2_with fail
  refine (end_any w4 g _ HR4.out).mono ?_
  rintro e4 w5 ⟨rfl, rfl⟩
  rw [if_neg ht]
  go_wp2_with ((with_reducible refine gate (.store 30 (.tmp 2) (.tmp 29)) rfl ?_); refine st_all recT_box rfl rfl (.tmp 2) (.tmp 29) rfl w.heap.size _ Rec.zero (.agg recLit) rfl rfl HL2.out Rec.zero_ok HX4.out ?_)
  intro w6 hx hf
  have HX6 := Aside.mk hx
  have HF6 := Aside.mk (HF4.out.trans hf (fun b hb q => by have q2 : b = w.heap.size := q; omega))
  clear hx hf
  go_wp2
  exact bodyPost_ret (HX6.out.results recT_box rfl _ rfl) rfl ⟨rfl, HF6.out⟩

set_option maxHeartbeats 3200000 in
set_option maxRecDepth 100000 in
theorem open_ok (w : World) (s : ByteArray) (t : List UInt8) (r : Rec) (n : Nat) (hr : r.Ok) (ht : t.drop n = []) (HT : TK s t 0) (HO : OV t) (HN : NX t (r, n, 0)) :
    Calls Try.prog 20 #[.string s] w fun e1 w' => e1 = .returned (.tuple #[recV r, .int .i64 0]) ∧ Fr (fun _ => False) w w' := by
  have HFR := Aside.mk (isRec.fresh 30 w (.cells recLit 30) rfl)
  have HL2 : Aside ((Value.agg recLit).cells = (recL Rec.zero).toArray) := ⟨rfl⟩
  go_enter Try.func20, Try.ntmps20
  go_wp2_with fail
  refine (HT _).mono ?_
  rintro e1 w1 ⟨rfl, hf⟩
  have HF1 := Aside.mk (((Fr.refl (fun _ => False) w).alloc (.cells recLit 30)).trans hf (fun _ _ q => q))
  have HX1 := Aside.mk (HFR.out.keep hf id)
  clear hf
  go_wp2_with fail
  refine (HO _).mono ?_
  rintro e2 w2 ⟨g, rfl, hr2, hg, hf⟩
  have hgw : w.heap.size < g := by have := lt_of_heap HX1.out.1; omega
  have HF2 := Aside.mk (HF1.out.trans hf (fun _ _ q => q))
  have HX2 := Aside.mk (HX1.out.keep hf id)
  have HR2 := Aside.mk hr2
  clear hf hr2 hg
  go_wp2_with fail
  refine (HN _ g HR2.out).mono ?_
  rintro e3 w3 ⟨rfl, ⟨l', hr3, hl'⟩, hf⟩
  obtain rfl := hl' rfl
  have HR3 := Aside.mk hr3
  have hg3 := lt_of_heap hr3
  clear hl'
  have HF3 := Aside.mk (HF2.out.trans hf (fun b hb q => by have q2 : b = g := q; omega))
  have HX3 : Aside (isRec 30 w3 w.heap.size _) := ⟨HX2.out.keep hf (by omega)⟩
  have HZ3 := Aside.mk (isRec.fresh 30 w3 (.cells recLit 30) rfl)
  have HY3 : Aside (isRec 30 (w3.alloc (.cells recLit 30)) w.heap.size _) := ⟨HX3.out.keep ((Fr.refl (fun _ => False) _).alloc _) id⟩
  have HW3 := Aside.mk (HF3.out.alloc (.cells recLit 30))
  have hlt := lt_of_heap HX3.out.1
  clear hf hr3
  go_wp2_with ((with_reducible refine gate (.store 30 (.tmp 6) (.tmp 21)) rfl ?_); refine st_all recT_box rfl rfl (.tmp 6) (.tmp 21) rfl w3.heap.size _ r (recV r) rfl rfl rfl hr HZ3.out ?_)
  intro w4 hx hf
  have HX4 := Aside.mk (HY3.out.keep hf (by omega))
  have HF4 := Aside.mk (HW3.out.trans hf (fun b hb q => by have q2 : b = w3.heap.size := q; omega))
  have HR4 := Aside.mk ((HR3.out.keep ((Fr.refl (fun _ => False) _).alloc (.cells recLit 30)) id).keep hf (by omega))
  have HZ4 := Aside.mk hx
  clear hx hf
  go_wp2_with fail
  refine (end_any w4 g _ HR4.out).mono ?_
  rintro e4 w5 ⟨rfl, rfl⟩
  rw [if_pos ht]
  go_wp2_with (first | ((with_reducible refine gate (.load 30 (.tmp 6)) rfl ?_); refine ld_all recT_box (by simp [Region.wanted]) (.tmp 6) rfl w3.heap.size r rfl HZ4.out ?_) | ((with_reducible refine gate (.store 30 (.tmp 2) (.tmp 31)) rfl ?_); refine st_all recT_box rfl rfl (.tmp 2) (.tmp 31) rfl w.heap.size _ r (recV r) rfl rfl rfl hr HX4.out ?_))
  intro w6 hx hf
  have HX6 := Aside.mk hx
  have HF6 := Aside.mk (HF4.out.trans hf (fun b hb q => by have q2 : b = w.heap.size := q; omega))
  clear hx hf
  go_wp2
  exact bodyPost_ret (HX6.out.results recT_box rfl _ rfl) rfl ⟨rfl, HF6.out⟩

theorem rdBody_ok {k b : List UInt8} (hk : k.length = 32) (hb : b.length = 32) (p : Bool) (l : List UInt8) (n : Nat) : (rdBody k b p l n).1.Ok := by
  unfold rdBody; split
  · exact Rec.zero_ok
  · split
    · exact Rec.zero_ok
    · exact ⟨hk, hb⟩
theorem rdRec_ok (l : List UInt8) : (rdRec l).1.Ok := by
  unfold rdRec; split
  · exact Rec.zero_ok
  · rename_i h
    have hk : (l.take 32).length = 32 := by simp; omega
    unfold rdKind; split
    · exact Rec.zero_ok
    · split
      · exact Rec.zero_ok
      · split
        · split
          · exact Rec.zero_ok
          · rename_i h2; exact rdBody_ok hk (by simp only [List.length_take]; omega) _ _ _
        · exact rdBody_ok hk rfl _ _ _
theorem take_len (l : List UInt8) : (Crc.take l).1.length ≤ l.length := by
  unfold Crc.take; split
  · simp
  · split <;> simp

theorem boxopen_any (w : World) (s : ByteArray) (hs : s.size ≤ 140737488355328) :
    Calls Try.prog 20 #[.string s] w fun e1 w' => e1 = .returned (.tuple #[recV (openR s.data.toList).1, .int .i64 ((openR s.data.toList).2 : Nat)]) ∧ Fr (fun _ => False) w w' := by
  have T : TK s (Crc.take s.data.toList).1 (Crc.take s.data.toList).2 := fun W => crctake_any W s hs
  have htl := take_len s.data.toList
  rw [← ba_size] at htl
  unfold openR
  generalize Crc.take s.data.toList = Q at *
  obtain ⟨t, e⟩ := Q
  simp only at T htl ⊢
  by_cases he : e = 0
  rotate_left
  · rw [if_pos he]; exact open_take w s t e he T
  subst he
  rw [if_neg (by simp)]
  have N : NX t (rdRec t) := fun W g h => next_any W g t h (by omega)
  have hr := rdRec_ok t
  generalize rdRec t = R at *
  obtain ⟨r, n, e⟩ := R
  simp only at N hr ⊢
  by_cases he : e = 0
  rotate_left
  · rw [if_pos he]; exact open_next w s t r n e hr he T (ov_of t) N
  subst he
  rw [if_neg (by simp)]
  by_cases ht : t.drop n = []
  · rw [if_pos ht]; exact open_ok w s t r n hr ht T (ov_of t) N
  · rw [if_neg ht]; exact open_end w s t r n hr ht T (ov_of t) N

end Go.Proofs.Ytodhkdmkkjhnnaa
