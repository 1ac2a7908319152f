/- A map of numbers with one entry, and a range over a map with one entry: the laws that disk.Back's walk wants. -/
import Derived.Test.YtodhkdmkkjhnnaaLk
import Derived.Maps.RangeRun
set_option linter.unusedVariables false
namespace Go.Proofs.Ytodhkdmkkjhnnaa
open Go.RowKit
open Go.ChangeMaps (setBlock)

theorem zero_int (w : World) : (zeroValue 3).run Try.prog w = .ok (.int .i64 0) w := by kernel_rfl
theorem lk2_empty (w : World) (m c : Nat) (n : Int) (h : isM w m #[] c) : (Instr.lookup 147 (.map (some m)) (.int .i64 n) true).run Try.prog w = .ok (.tuple #[.int .i64 0, .bool false]) w := by
  unfold isM at h
  have hk : MapKept.IsKey (.int .i64) (.int .i64 n) := rfl
  have e1 := MapKept.run_checkKey (P := Try.prog) (w := w) Try.underlying3 hk (#[] : Array MapEntry).isEmpty 9999
  have e2 := MapKept.run_findKey (P := Try.prog) (w := w) (l := (#[] : Array MapEntry).toList) (a := none) (k := .int .i64 n) Try.underlying3 rfl
  unfold Instr.lookup
  simp only [Sem.run_bind, run_underlying Try.underlying147, Result.andThen_ok, MapKept.run_getObj_map h, Sem.run_pure, e1, e2, zero_int]
  rfl
theorem lk2_one (w : World) (m c b : Nat) (n : Int) (v : Value) (h : isM w m #[⟨.int .i64 n, v, b⟩] c) : (Instr.lookup 147 (.map (some m)) (.int .i64 n) true).run Try.prog w = .ok (.tuple #[v, .bool true]) w := by
  unfold isM at h
  have hk : MapKept.IsKey (.int .i64) (.int .i64 n) := rfl
  have e1 := MapKept.run_checkKey (P := Try.prog) (w := w) Try.underlying3 hk (#[⟨.int .i64 n, v, b⟩] : Array MapEntry).isEmpty 9999
  have e2 := MapKept.run_findKey (P := Try.prog) (w := w) (l := (#[⟨.int .i64 n, v, b⟩] : Array MapEntry).toList) (a := some (0, v)) (k := .int .i64 n) Try.underlying3 (by simp [Instr.findNow, Instr.sameNow])
  unfold Instr.lookup
  simp only [Sem.run_bind, run_underlying Try.underlying147, Result.andThen_ok, MapKept.run_getObj_map h, Sem.run_pure, e1, e2]
  rfl
theorem mu2_empty (w : World) (m c : Nat) (n : Int) (v : Value) (h : isM w m #[] c) : (Instr.mapUpdate 147 (.map (some m)) (.int .i64 n) v).run Try.prog w = .ok () (putM w m (.map #[⟨.int .i64 n, v, c⟩] (c + 1))) := by
  unfold isM at h
  have hk : MapKept.IsKey (.int .i64) (.int .i64 n) := rfl
  have e1 := MapKept.run_checkKey (P := Try.prog) (w := w) Try.underlying3 hk false 9999
  have e2 := MapKept.run_findKey (P := Try.prog) (w := w) (l := (#[] : Array MapEntry).toList) (a := none) (k := .int .i64 n) Try.underlying3 rfl
  unfold Instr.mapUpdate
  simp only [Sem.run_bind, run_underlying Try.underlying147, Result.andThen_ok, MapKept.run_getObj_map h, Sem.run_pure, e1, e2, MapKept.run_setObj_map _ h]
  rfl

section
variable {ops : Array Oper} {rest : List Oper} {o : Oper} {a : Act} {w : World} {Q : Exit → Act → World → Prop}
theorem lk2 (hgd : o.guard = none) (t : TypeId) (m x : Operand) (ho : o.op = .lookup t m x true) (mv xv v : Value) (hm : a.eval m = mv) (hx : a.eval x = xv)
    (hrun : (Instr.lookup t mv xv true).run Try.prog w = .ok v w) (h : wpList Try.prog ops Q rest (a.put o.dst v) w) : wpList Try.prog ops Q (o :: rest) a w := by
  refine wpList_plain hgd fun K hK => ?_
  unfold Oper.wp execOp
  simp only [ho, hm, hx, Sem.run_bind, Sem.run_pure, Result.andThen_ok, hrun]
  exact hK _ _ h
theorem rgo (hgd : o.guard = none) (t : TypeId) (m : Operand) (ho : o.op = .range t m) (mv v : Value) (w1 : World) (hm : a.eval m = mv)
    (hrun : (Instr.range t mv).run Try.prog w = .ok v w1) (h : wpList Try.prog ops Q rest (a.put o.dst v) w1) : wpList Try.prog ops Q (o :: rest) a w := by
  refine wpList_plain hgd fun K hK => ?_
  unfold Oper.wp execOp
  simp only [ho, hm, Sem.run_bind, Sem.run_pure, Result.andThen_ok, hrun]
  exact hK _ _ h
theorem nxo (hgd : o.guard = none) (it : Operand) (ho : o.op = .next it false) (iv v : Value) (w1 : World) (hm : a.eval it = iv)
    (hrun : (Instr.next iv false o.type).run Try.prog w = .ok v w1) (h : wpList Try.prog ops Q rest (a.put o.dst v) w1) : wpList Try.prog ops Q (o :: rest) a w := by
  refine wpList_plain hgd fun K hK => ?_
  unfold Oper.wp execOp
  simp only [ho, hm, Sem.run_bind, Sem.run_pure, Result.andThen_ok, hrun]
  exact hK _ _ h
theorem eno (hgd : o.guard = none) (it : Operand) (ho : o.op = .entry it) (iv v : Value) (hm : a.eval it = iv)
    (hrun : (Instr.entry iv).run Try.prog w = .ok v w) (h : wpList Try.prog ops Q rest (a.put o.dst v) w) : wpList Try.prog ops Q (o :: rest) a w := by
  refine wpList_plain hgd fun K hK => ?_
  unfold Oper.wp execOp
  simp only [ho, hm, Sem.run_bind, Sem.run_pure, Result.andThen_ok, hrun]
  exact hK _ _ h
end

/-- An iterator at r over the map at m, with these stamps seen. -/
def isIt (w : World) (r m : Nat) (seen : Array Nat) : Prop := w.heap[r]? = some (.mapIter (some m) 1 seen 1)
theorem rg_one (w : World) (m : Nat) (n : Int) (v : Value) (h : isM w m #[⟨.int .i64 n, v, 0⟩] 1) :
    (Instr.range 132 (.map (some m))).run Try.prog w = .ok (.pointer (some ⟨w.heap.size, 0, none⟩)) (w.alloc (.mapIter (some m) 1 #[] 1)) :=
  run_range_map w _ _ _ m _ 1 Try.underlying132 h
theorem nx_one (w : World) (r m : Nat) (n : Int) (v : Value) (ty : TypeId) (h : isM w m #[⟨.int .i64 n, v, 0⟩] 1) (hi : isIt w r m #[]) :
    ∃ w1, (Instr.next (.pointer (some ⟨r, 0, none⟩)) false ty).run Try.prog w = .ok (.tuple #[.bool true, .int .i64 n, v]) w1 ∧ isIt w1 r m #[0] ∧ Fr (fun k => k = r) w w1 := by
  rcases run_next_at (P := Try.prog) w ty r m 1 1 #[] _ 1 hi h (by simp) (by omega) with ⟨h0, _⟩ | ⟨e, he, w1, hal, hrun⟩
  · simp [leftOf] at h0
  · have hee : e = ⟨.int .i64 n, v, 0⟩ := by simpa [leftOf] using he
    subst hee
    have hi1 : w1.heap[r]? = some (.mapIter (some m) 1 #[] 1) := by rcases hal with rfl | rfl <;> exact hi
    have hset := MapKept.heap_set (o' := .mapIter (some m) 1 #[0] 1) hi1
    refine ⟨_, hrun, hset.1, ?_⟩
    rcases hal with rfl | rfl
    · exact ⟨rfl, rfl, rfl, by simp [setBlock], fun k hk hn => hset.2 k hn⟩
    · exact ⟨rfl, rfl, rfl, by simp [setBlock], fun k hk hn => hset.2 k hn⟩
theorem nx_none (w : World) (r m : Nat) (n : Int) (v : Value) (h : isM w m #[⟨.int .i64 n, v, 0⟩] 1) (hi : isIt w r m #[0]) :
    ∀ ty, (Instr.next (.pointer (some ⟨r, 0, none⟩)) false ty).run Try.prog w = .ok (.tuple #[.bool false]) w := fun ty => by
  rcases run_next_at (P := Try.prog) w ty r m 1 1 #[0] _ 1 hi h (by simp) (by omega) with ⟨_, hr⟩ | ⟨e, he, _⟩
  · exact hr
  · simp [leftOf] at he
theorem en_one (w : World) (r m : Nat) (n : Int) (v : Value) (h : isM w m #[⟨.int .i64 n, v, 0⟩] 1) (hi : isIt w r m #[0]) :
    (Instr.entry (.pointer (some ⟨r, 0, none⟩))).run Try.prog w = .ok (.tuple #[.int .i64 n, v]) w :=
  run_entry_at w r m 1 #[] _ 1 ⟨.int .i64 n, v, 0⟩ hi h (by simp) (by simp)
end Go.Proofs.Ytodhkdmkkjhnnaa
