/- Records that are built whole. -/
import Derived.Test.YtodhkdmkkjhnnaaBoxKey
set_option linter.unusedVariables false
namespace Go.Proofs.Ytodhkdmkkjhnnaa
open Go.RowKit

theorem fold_seg (seg : List Value) : ∀ (k off : Nat) (cs : Array Value), off + k + seg.length ≤ cs.size →
    ((seg.zipIdx k).foldl (fun cs (c, j) => cs.setIfInBounds (off + j) c) cs) = (cs.toList.take (off + k) ++ seg ++ cs.toList.drop (off + k + seg.length)).toArray := by
  induction seg with
  | nil => intro k off cs h; simp
  | cons v seg ih =>
    intro k off cs h
    simp only [List.length_cons] at h
    rw [List.zipIdx_cons, List.foldl_cons, ih (k + 1) off _ (by simp; omega)]
    apply congrArg List.toArray
    have hlt : off + k < cs.toList.length := by simp; omega
    simp only [Array.toList_setIfInBounds]
    rw [show off + (k + 1) = (off + k) + 1 by omega, List.take_succ_eq_append_getElem (by simp; omega), List.getElem_set_self, List.take_set_of_le (Nat.le_refl _), List.drop_set_of_lt (by omega)]
    simp only [List.length_cons, List.append_assoc, List.cons_append, List.nil_append]
    rw [show off + k + 1 + seg.length = off + k + (seg.length + 1) by omega]

theorem fill_step (place : Nat → Option (Nat × Nat)) (cs : Array Value) (i off size : Nat) (v : Value) (seg : List Value) (rest : List (Nat × Value)) (hp : place i = some (off, size)) (hv : v.cells.toList = seg) (hl : seg.length = size) (hfit : off + size ≤ cs.size) :
    Instr.fill place cs ((i, v) :: rest) = Instr.fill place (cs.toList.take off ++ seg ++ cs.toList.drop (off + seg.length)).toArray rest := by
  have hc : v.cells.size = size := by rw [← hl, ← hv, Array.length_toList]
  rw [Instr.fill, hp]
  simp only [hc]
  rw [if_neg (by simp; omega)]
  congr 1
  have h := fold_seg seg 0 off cs (by omega)
  rw [Nat.add_zero] at h
  rw [← h, ← hv, ← Array.foldl_toList, Array.toList_zipIdx]

theorem Try.zero_box : ∀ W, (zeroValue 30).run Try.prog W = .ok (.agg recLit) W := fun W => by kernel_rfl

structure RecB (T : Nat) : Prop where
  zero : ∀ W, (zeroValue T).run Try.prog W = .ok (.agg recLit) W
  under : ∃ fs : Array Field, Try.prog.underlying T = some (.struct fs) ∧ ∀ W, (fs.mapM fun f => (do pure (f.offset, ← sizeOf f.type) : Sem (Nat × Nat))).run Try.prog W = .ok #[(0, 32), (32, 32), (64, 1), (65, 1)] W

theorem recB_box : RecB 30 := ⟨Try.zero_box, _, Try.underlying30, fun W => by kernel_rfl⟩

theorem run_build {T : Nat} (hT : RecB T) (parts : Array (Nat × Value)) (cells : Array Value) (hf : Instr.fill ((#[(0, 32), (32, 32), (64, 1), (65, 1)] : Array (Nat × Nat))[·]?) recLit parts.toList = some cells) (W : World) :
    (Instr.build T parts).run Try.prog W = .ok (.agg cells) W := by
  obtain ⟨fs, hu, hm⟩ := hT.under
  unfold Instr.build
  rw [Sem.run_bind, hT.zero W]
  simp only [Result.andThen_ok, Sem.run_bind, run_underlying hu, hm]
  rw [show (Value.agg recLit).cells = recLit from rfl, hf]
  rfl

theorem build_all {T : Nat} (hT : RecB T) (r : Rec) (hr : r.Ok) (W : World) :
    (Instr.build T #[(0, keyV r.key), (1, keyV r.base), (2, .bool r.patch), (3, .string ⟨r.body.toArray⟩)]).run Try.prog W = .ok (recV r) W := by
  refine run_build hT _ _ ?_ W
  rw [← recLit_eq]
  have h0 := Rec.zero_ok
  rw [fill_step _ _ 0 0 32 _ (r.key.map byt) _ rfl rfl (by simp [hr.1]) (by simp [recL_len h0]), recL_setKey h0 hr.1]
  have h1 : ({ Rec.zero with key := r.key } : Rec).Ok := ⟨hr.1, h0.2⟩
  rw [fill_step _ _ 1 32 32 _ (r.base.map byt) _ rfl rfl (by simp [hr.2]) (by simp [recL_len h1]), recL_setBase h1 hr.2]
  have h2 : ({ Rec.zero with key := r.key, base := r.base } : Rec).Ok := ⟨hr.1, hr.2⟩
  rw [fill_step _ _ 2 64 1 _ [.bool r.patch] _ rfl rfl rfl (by rw [List.size_toArray, recL_len h2]; omega), recL_setPatch h2]
  have h3 : ({ Rec.zero with key := r.key, base := r.base, patch := r.patch } : Rec).Ok := ⟨hr.1, hr.2⟩
  rw [fill_step _ _ 3 65 1 _ [.string ⟨r.body.toArray⟩] _ rfl rfl rfl (by rw [List.size_toArray, recL_len h3]; omega), recL_setBody h3]
  rfl
theorem build_key {T : Nat} (hT : RecB T) (k : List UInt8) (hk : k.length = 32) (W : World) :
    (Instr.build T #[(0, keyV k)]).run Try.prog W = .ok (recV { Rec.zero with key := k }) W := by
  refine run_build hT _ _ ?_ W
  rw [← recLit_eq]
  have h0 := Rec.zero_ok
  rw [fill_step _ _ 0 0 32 _ (k.map byt) _ rfl rfl (by simp [hk]) (by simp [recL_len h0]), recL_setKey h0 hk]
  rfl
theorem build_body {T : Nat} (hT : RecB T) (b : List UInt8) (W : World) :
    (Instr.build T #[(3, .string ⟨b.toArray⟩)]).run Try.prog W = .ok (recV { Rec.zero with body := b }) W := by
  refine run_build hT _ _ ?_ W
  rw [← recLit_eq]
  have h0 := Rec.zero_ok
  rw [fill_step _ _ 3 65 1 _ [.string ⟨b.toArray⟩] _ rfl rfl rfl (by rw [List.size_toArray, recL_len h0]; omega), recL_setBody h0]
  rfl

theorem bld {ops : Array Oper} {rest : List Oper} {o : Oper} {a : Act} {w : World} {Q : Exit → Act → World → Prop} (hw : Region.wanted o (yielded ops a.tmps) = true) (T : Nat) (parts : Array (Nat × Operand)) (ho : o.op = .build T parts) (vals : Array (Nat × Value)) (v : Value)
    (hp : (parts.map fun (i, x) => (i, a.eval x)) = vals) (hrun : ∀ W, (Instr.build T vals).run Try.prog W = .ok v W) (h : wpList Try.prog ops Q rest (a.put o.dst v) w) : wpList Try.prog ops Q (o :: rest) a w := by
  refine wpList_step fun K hK => ?_
  rw [if_pos hw]
  unfold Oper.wp execOp
  simp only [ho, hp, Sem.run_bind, Sem.run_pure, Result.andThen_ok, hrun]
  exact hK _ _ h

theorem recT_ref : RecT 25 := ⟨by kernel_rfl, _, Try.underlying25, rfl⟩
theorem recB_ref : RecB 25 := ⟨fun W => by kernel_rfl, _, Try.underlying25, fun W => by kernel_rfl⟩
theorem isRec.new (T : Nat) (w : World) (r : Rec) (hr : r.Ok) : isRec T (w.alloc (.cells (recL r).toArray T)) w.heap.size r := ⟨heap_new _ _, hr⟩
/-- A key of a record, loaded. -/
theorem ld_key {T : Nat} {ops : Array Oper} {rest : List Oper} {o : Oper} {a : Act} {w : World} {Q : Exit → Act → World → Prop} (hw : Region.wanted o (yielded ops a.tmps) = true) (x : Operand) (ho : o.op = .load 23 x) (g : Nat) (r : Rec) (hx : a.eval x = .pointer (some ⟨g, 0, none⟩)) (hr : isRec T w g r)
    (h : wpList Try.prog ops Q rest (a.put o.dst (keyV r.key)) w) : wpList Try.prog ops Q (o :: rest) a w := by
  refine load_part hw 23 x ho g 0 32 hx T _ _ _ hr.1 Try.underlying23 rfl Try.info_key (by simp [recL_len hr.2]) ?_
  rw [show ((recL r).toArray.toList.drop 0).take 32 = r.key.map byt from recL_key hr.2]; exact h
theorem ld_base {T : Nat} {ops : Array Oper} {rest : List Oper} {o : Oper} {a : Act} {w : World} {Q : Exit → Act → World → Prop} (hw : Region.wanted o (yielded ops a.tmps) = true) (x : Operand) (ho : o.op = .load 23 x) (g : Nat) (r : Rec) (hx : a.eval x = .pointer (some ⟨g, 32, none⟩)) (hr : isRec T w g r)
    (h : wpList Try.prog ops Q rest (a.put o.dst (keyV r.base)) w) : wpList Try.prog ops Q (o :: rest) a w := by
  refine load_part hw 23 x ho g 32 32 hx T _ _ _ hr.1 Try.underlying23 rfl Try.info_key (by simp [recL_len hr.2]) ?_
  rw [show ((recL r).toArray.toList.drop 32).take 32 = r.base.map byt from recL_base hr.2]; exact h
theorem isRec.conv_key {T : Nat} {w : World} {x : Nat} {r : Rec} (h : isRec T w x r) (c : Nat) : (convert 80 9 (.slice (some ⟨x, 0, none⟩) 32 c)).run Try.prog w = .ok (.string ⟨r.key.toArray⟩) w :=
  conv_at w x 0 c T _ _ r.key 32 h.2.1.symm h.1 (by rw [h.2.1]; exact recL_key h.2)
theorem isRec.conv_base {T : Nat} {w : World} {x : Nat} {r : Rec} (h : isRec T w x r) (c : Nat) : (convert 80 9 (.slice (some ⟨x, 32, none⟩) 32 c)).run Try.prog w = .ok (.string ⟨r.base.toArray⟩) w :=
  conv_at w x 32 c T _ _ r.base 32 h.2.2.symm h.1 (by rw [h.2.2]; exact recL_base h.2)

end Go.Proofs.Ytodhkdmkkjhnnaa
