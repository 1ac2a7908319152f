/- The walk of box.key. -/
import Derived.Test.YtodhkdmkkjhnnaaBoxP
import Derived.Test.YtodhkdmkkjhnnaaSixR
set_option linter.unusedVariables false
namespace Go.Proofs.Ytodhkdmkkjhnnaa
open Go.RowKit

def keyV (k : List UInt8) : Value := .agg (k.map byt).toArray
def rdKey (l : List UInt8) : List UInt8 := if l.length < 32 then zeros else l.take 32
theorem byts_one (l : List UInt8) : ∀ q ∈ l.map byt, q.oneCell' = true := by
  intro q hq; simp only [List.mem_map] at hq; obtain ⟨b, _, rfl⟩ := hq; rfl
theorem rdKey_len (l : List UInt8) : (rdKey l).length = 32 := by
  unfold rdKey; split
  · rfl
  · simp; omega
theorem zeros_heap : (zeros.map byt).toArray = #[.int .u8 0, .int .u8 0, .int .u8 0, .int .u8 0, .int .u8 0, .int .u8 0, .int .u8 0, .int .u8 0, .int .u8 0, .int .u8 0, .int .u8 0, .int .u8 0, .int .u8 0, .int .u8 0, .int .u8 0, .int .u8 0, .int .u8 0, .int .u8 0, .int .u8 0, .int .u8 0, .int .u8 0, .int .u8 0, .int .u8 0, .int .u8 0, .int .u8 0, .int .u8 0, .int .u8 0, .int .u8 0, .int .u8 0, .int .u8 0, .int .u8 0, .int .u8 0] := rfl

set_option maxHeartbeats 3200000 in
set_option maxRecDepth 100000 in
theorem key_any (w : World) (g : Nat) (l : List UInt8) (h : isR w g l) (hl : l.length ≤ 140737488355328) :
    Calls Try.prog 94 #[.pointer (some ⟨g, 0, none⟩)] w fun e w' =>
      e = .returned (.tuple #[keyV (rdKey l), .int .i64 ((rdRaw l 32).2.2 : Nat)]) ∧ isR w' g (l.drop (rdRaw l 32).2.1) ∧ Fr (fun k => k = g) w w' := by
  have HR := Aside.mk h
  have hgl := lt_of_heap h
  clear h
  have HRW : Aside ((rdRaw l 32).1 = if l.length < 32 then [] else l.take 32) := ⟨by unfold rdRaw; split <;> rfl⟩
  have HSZ : Aside ((ByteArray.mk (rdRaw l 32).1.toArray).size ≤ 32) := ⟨by
    rw [HRW.out]; split <;> simp [ByteArray.size]; omega⟩
  have HKK : Aside ((rdRaw l 32).1.map byt ++ (zeros.map byt).drop (ByteArray.mk (rdRaw l 32).1.toArray).size = (rdKey l).map byt) := ⟨by
    rw [HRW.out]; unfold rdKey
    split
    · rfl
    · rw [List.drop_of_length_le (by simp [ByteArray.size, zeros]; omega), List.append_nil]⟩
  have hkl := rdKey_len l
  have HC : Aside (∀ W, isR W g l → Calls Try.prog 99 #[.pointer (some ⟨g, 0, none⟩), .int .i64 32] W fun e w' =>
    e = .returned (.tuple #[.string ⟨(rdRaw l 32).1.toArray⟩, .int .i64 ((rdRaw l 32).2.2 : Nat)]) ∧ isR w' g (l.drop (rdRaw l 32).2.1) ∧ Fr (fun k => k = g) W w') := ⟨fun W hW => rraw_any W g l 32 (by omega) (by omega) hW hl⟩
  generalize rdRaw l 32 = R at *
  obtain ⟨R1, R2, R3⟩ := R
  simp only at HRW HSZ HKK HC
  have HFIT : Aside (0 + ((rdKey l).map byt).length ≤ (zeros.map byt).toArray.size) := ⟨by rw [List.length_map, hkl]; decide⟩
  have HONE := Aside.mk (byts_one (rdKey l))
  go_enter Try.func94, Try.ntmps94
  go_wp2_with fail
  refine (HC.out _ (HR.out.keep ((Fr.refl (fun _ => False) _).alloc _) id)).mono ?_
  rintro e w1 ⟨rfl, hr, hf⟩
  have HR1 := Aside.mk hr
  have HF1 : Aside (Fr (fun k => k = g) w w1) := ⟨((Fr.refl _ w).alloc _).trans hf (fun _ _ q => q)⟩
  have HB1 : Aside (w1.heap[w.heap.size]? = some (.cells (zeros.map byt).toArray 23 (0, 0))) := ⟨hf.heap (heap_new w _) (by omega)⟩
  clear hr hf
  go_wp2_with (with_reducible refine gate (.call { callee := .builtin .copy, args := #[.tmp 12, .tmp 13], argTypes := #[80, 9] }) rfl ?_; refine copy_str rfl (.tmp 12) (.tmp 13) rfl w1.heap.size 0 32 32 ⟨R1.toArray⟩ rfl rfl HSZ.out 23 (zeros.map byt).toArray (heap_new w1 _) (by have := HSZ.out; simp [zeros]; omega) ?_)
  intro w2 hh hf
  have HH2 : Aside (w2.heap[w1.heap.size]? = some (.cells ((rdKey l).map byt).toArray 23 (0, 0))) := ⟨by rw [hh]; exact congrArg (fun z : List Value => some (Obj.cells z.toArray 23 (0, 0))) HKK.out⟩
  have hne : w.heap.size ≠ w1.heap.size := by have := lt_of_heap HB1.out; omega
  have HB2 : Aside (w2.heap[w.heap.size]? = some (.cells (zeros.map byt).toArray 23 (0, 0))) := ⟨hf.heap ((Below.heap_alloc w1 _ _ (lt_of_heap HB1.out)).trans HB1.out) hne⟩
  have HF2 : Aside (Fr (fun k => k = g) w w2) := ⟨(HF1.out.alloc _).trans hf (fun b hb q => by have := HF1.out.size; omega)⟩
  have HR2 : Aside (isR w2 g (l.drop R2)) := ⟨((HR1.out.keep ((Fr.refl (fun _ => False) _).alloc _) id)).keep hf (by have := lt_of_heap HR1.out; omega)⟩
  clear hh hf
  go_wp2_with (first | (with_reducible refine gate (.load 23 (.tmp 6)) rfl ?_; refine load_part (by simp [Region.wanted]) 23 (.tmp 6) rfl w1.heap.size 0 32 rfl 23 _ (0, 0) _ HH2.out Try.underlying23 rfl Try.info_key (by simp [hkl]) ?_; rw [List.drop_zero, List.take_of_length_le (by simp [hkl])]) | (with_reducible refine gate (.store 23 (.tmp 2) (.tmp 15)) rfl ?_; refine store_part rfl rfl 23 (.tmp 2) (.tmp 15) rfl w.heap.size 0 (keyV (rdKey l)) rfl rfl 23 (zeros.map byt).toArray ((rdKey l).map byt) HB2.out rfl (by rw [Try.info_key, List.length_map, hkl]) HFIT.out HONE.out ?_))
  intro w3 hh hf
  have HH3 : Aside (w3.heap[w.heap.size]? = some (.cells ((rdKey l).map byt).toArray 23 (0, 0))) := ⟨by rw [hh]; exact congrArg (fun z : List Value => some (Obj.cells z.toArray 23 (0, 0))) (by simp [zeros])⟩
  have HF3 : Aside (Fr (fun k => k = g) w w3) := ⟨HF2.out.trans hf (fun b hb q => by omega)⟩
  have HR3 : Aside (isR w3 g (l.drop R2)) := ⟨HR2.out.keep hf (by omega)⟩
  clear hh hf
  go_wp2
  refine bodyPost_ret (results_ct rfl _ w3 w.heap.size 23 ((rdKey l).map byt).toArray (0, 0) _ rfl HH3.out Try.underlying23 rfl (by rw [Try.info_key]; simp [hkl])) rfl ⟨rfl, HR3.out, HF3.out⟩

/-! ### A record in a block, field by field -/
/-- A type of records: the program's, the document's. -/
structure RecT (T : Nat) : Prop where
  info : (Try.prog.info? T).map (·.size) = some 66
  under : ∃ d, Try.prog.underlying T = some d ∧ aggD d = true
def isRec (T : Nat) (w : World) (x : Nat) (r : Rec) : Prop := w.heap[x]? = some (.cells (recL r).toArray T (0, 0)) ∧ r.Ok
theorem isRec.keep {T : Nat} {w w1 : World} {x : Nat} {r : Rec} {S : Nat → Prop} (h : isRec T w x r) (hf : Fr S w w1) (hn : ¬ S x) : isRec T w1 x r := ⟨hf.heap h.1 hn, h.2⟩
theorem isRec.ok {T : Nat} {w : World} {x : Nat} {r : Rec} (h : isRec T w x r) : r.Ok := h.2
theorem isRec.patch {T : Nat} {w : World} {x : Nat} {r : Rec} (h : isRec T w x r) : w.cell? ⟨x, 64, none⟩ = some (.bool r.patch) := by rw [heap_cell h.1, List.getElem?_toArray]; exact recL_patch h.2
theorem isRec.body {T : Nat} {w : World} {x : Nat} {r : Rec} (h : isRec T w x r) : w.cell? ⟨x, 65, none⟩ = some (.string ⟨r.body.toArray⟩) := by rw [heap_cell h.1, List.getElem?_toArray]; exact recL_body h.2

theorem Rec.zero_ok : Rec.zero.Ok := ⟨rfl, rfl⟩
def recLit : Array Value := #[.int .u8 0, .int .u8 0, .int .u8 0, .int .u8 0, .int .u8 0, .int .u8 0, .int .u8 0, .int .u8 0, .int .u8 0, .int .u8 0, .int .u8 0, .int .u8 0, .int .u8 0, .int .u8 0, .int .u8 0, .int .u8 0, .int .u8 0, .int .u8 0, .int .u8 0, .int .u8 0, .int .u8 0, .int .u8 0, .int .u8 0, .int .u8 0, .int .u8 0, .int .u8 0, .int .u8 0, .int .u8 0, .int .u8 0, .int .u8 0, .int .u8 0, .int .u8 0,
  .int .u8 0, .int .u8 0, .int .u8 0, .int .u8 0, .int .u8 0, .int .u8 0, .int .u8 0, .int .u8 0, .int .u8 0, .int .u8 0, .int .u8 0, .int .u8 0, .int .u8 0, .int .u8 0, .int .u8 0, .int .u8 0, .int .u8 0, .int .u8 0, .int .u8 0, .int .u8 0, .int .u8 0, .int .u8 0, .int .u8 0, .int .u8 0, .int .u8 0, .int .u8 0, .int .u8 0, .int .u8 0, .int .u8 0, .int .u8 0, .int .u8 0, .int .u8 0, .bool false, .string { data := #[] }]
theorem recLit_eq : (recL Rec.zero).toArray = recLit := rfl

theorem recL_setKey {r : Rec} (h : r.Ok) {k : List UInt8} (hk : k.length = 32) : (recL r).toArray.toList.take 0 ++ k.map byt ++ (recL r).toArray.toList.drop (0 + (k.map byt).length) = recL { r with key := k } := by
  simp only [List.length_map, hk, recL, List.take_zero, List.nil_append]
  rw [List.drop_append_of_le_length (by simp [h.1]), List.drop_of_length_le (by simp [h.1]), List.nil_append]
theorem recL_setBase {r : Rec} (h : r.Ok) {k : List UInt8} (hk : k.length = 32) : (recL r).toArray.toList.take 32 ++ k.map byt ++ (recL r).toArray.toList.drop (32 + (k.map byt).length) = recL { r with base := k } := by
  simp only [List.length_map, hk, recL]
  rw [List.take_append_of_le_length (by simp [h.1]), List.take_of_length_le (by simp [h.1]), List.drop_append, List.drop_of_length_le (by simp [h.1]), List.nil_append, List.drop_append_of_le_length (by simp [h.1, h.2]), List.drop_of_length_le (by simp [h.1, h.2]), List.nil_append, List.append_assoc]
theorem recL_setPatch {r : Rec} (h : r.Ok) (b : Bool) : (recL r).toArray.toList.take 64 ++ [.bool b] ++ (recL r).toArray.toList.drop (64 + [Value.bool b].length) = recL { r with patch := b } := by
  have e : recL r = (r.key.map byt ++ r.base.map byt) ++ [.bool r.patch, .string ⟨r.body.toArray⟩] := by simp [recL]
  have hl : (r.key.map byt ++ r.base.map byt).length = 64 := by simp [h.1, h.2]
  rw [e]
  simp only [List.length_singleton]
  rw [List.take_append_of_le_length (by omega), List.take_of_length_le (by omega), List.drop_append, List.drop_of_length_le (by omega), hl]
  simp [recL]
theorem recL_setBody {r : Rec} (h : r.Ok) (b : List UInt8) : (recL r).toArray.toList.take 65 ++ [.string ⟨b.toArray⟩] ++ (recL r).toArray.toList.drop (65 + [Value.string ⟨b.toArray⟩].length) = recL { r with body := b } := by
  have e : recL r = (r.key.map byt ++ (r.base.map byt ++ [.bool r.patch])) ++ [.string ⟨r.body.toArray⟩] := by simp [recL]
  have hl : (r.key.map byt ++ (r.base.map byt ++ [Value.bool r.patch])).length = 65 := by simp [h.1, h.2]
  rw [e]
  simp only [List.length_singleton]
  rw [List.take_append_of_le_length (by omega), List.take_of_length_le (by omega), List.drop_append, List.drop_of_length_le (by omega), hl]
  simp [recL]
theorem recL_setAll {r q : Rec} (h : r.Ok) (hq : q.Ok) : (recL r).toArray.toList.take 0 ++ recL q ++ (recL r).toArray.toList.drop (0 + (recL q).length) = recL q := by
  rw [recL_len hq, List.drop_of_length_le (by simp [recL_len h])]; simp
theorem recL_one (r : Rec) : ∀ q ∈ recL r, q.oneCell' = true := by
  intro q hq
  simp only [recL, List.mem_append, List.mem_cons, List.not_mem_nil, or_false] at hq
  rcases hq with hq | hq | rfl | rfl
  · exact byts_one _ q hq
  · exact byts_one _ q hq
  · rfl
  · rfl

theorem recT_box : RecT 30 := ⟨by kernel_rfl, _, Try.underlying30, rfl⟩
theorem Try.info_bool : (Try.prog.info? 4).map (·.size) = some 1 := by kernel_rfl
theorem Try.info_str : (Try.prog.info? 9).map (·.size) = some 1 := by kernel_rfl

section
variable {T : Nat} {ops : Array Oper} {rest : List Oper} {o : Oper} {a : Act} {w : World} {Q : Exit → Act → World → Prop}
theorem st_key (hgd : o.guard = none) (hN : o.dst = none) (x v : Operand) (ho : o.op = .store 23 x v) (g : Nat) (r : Rec) (k : List UInt8) (hx : a.eval x = .pointer (some ⟨g, 0, none⟩)) (hv : a.eval v = keyV k) (hk : k.length = 32) (hr : isRec T w g r)
    (h : ∀ w', isRec T w' g { r with key := k } → Fr (fun k => k = g) w w' → wpList Try.prog ops Q rest a w') : wpList Try.prog ops Q (o :: rest) a w :=
  store_part hgd hN 23 x v ho g 0 _ hx hv _ _ (k.map byt) hr.1 rfl (by rw [Try.info_key, List.length_map, hk]) (by simp [recL_len hr.2, hk]) (byts_one k)
    fun w' hh hf => h w' ⟨by rw [hh, recL_setKey hr.2 hk], hk, hr.2.2⟩ hf
theorem st_base (hgd : o.guard = none) (hN : o.dst = none) (x v : Operand) (ho : o.op = .store 23 x v) (g : Nat) (r : Rec) (k : List UInt8) (hx : a.eval x = .pointer (some ⟨g, 32, none⟩)) (hv : a.eval v = keyV k) (hk : k.length = 32) (hr : isRec T w g r)
    (h : ∀ w', isRec T w' g { r with base := k } → Fr (fun k => k = g) w w' → wpList Try.prog ops Q rest a w') : wpList Try.prog ops Q (o :: rest) a w :=
  store_part hgd hN 23 x v ho g 32 _ hx hv _ _ (k.map byt) hr.1 rfl (by rw [Try.info_key, List.length_map, hk]) (by simp [recL_len hr.2, hk]) (byts_one k)
    fun w' hh hf => h w' ⟨by rw [hh, recL_setBase hr.2 hk], hr.2.1, hk⟩ hf
theorem st_patch (hgd : o.guard = none) (hN : o.dst = none) (x v : Operand) (ho : o.op = .store 4 x v) (g : Nat) (r : Rec) (b : Bool) (hx : a.eval x = .pointer (some ⟨g, 64, none⟩)) (hv : a.eval v = .bool b) (hr : isRec T w g r)
    (h : ∀ w', isRec T w' g { r with patch := b } → Fr (fun k => k = g) w w' → wpList Try.prog ops Q rest a w') : wpList Try.prog ops Q (o :: rest) a w :=
  store_part hgd hN 4 x v ho g 64 _ hx hv _ _ [.bool b] hr.1 rfl (by rw [Try.info_bool]; rfl) (by simp [recL_len hr.2]) (by simp [Value.oneCell'])
    fun w' hh hf => h w' ⟨by rw [hh, recL_setPatch hr.2 b], hr.2⟩ hf
theorem st_body (hgd : o.guard = none) (hN : o.dst = none) (x v : Operand) (ho : o.op = .store 9 x v) (g : Nat) (r : Rec) (b : List UInt8) (hx : a.eval x = .pointer (some ⟨g, 65, none⟩)) (hv : a.eval v = .string ⟨b.toArray⟩) (hr : isRec T w g r)
    (h : ∀ w', isRec T w' g { r with body := b } → Fr (fun k => k = g) w w' → wpList Try.prog ops Q rest a w') : wpList Try.prog ops Q (o :: rest) a w :=
  store_part hgd hN 9 x v ho g 65 _ hx hv _ _ [.string ⟨b.toArray⟩] hr.1 rfl (by rw [Try.info_str]; rfl) (by simp [recL_len hr.2]) (by simp [Value.oneCell'])
    fun w' hh hf => h w' ⟨by rw [hh, recL_setBody hr.2 b], hr.2⟩ hf
theorem st_all (hT : RecT T) (hgd : o.guard = none) (hN : o.dst = none) (x v : Operand) (ho : o.op = .store T x v) (g : Nat) (r q : Rec) (u : Value) (hx : a.eval x = .pointer (some ⟨g, 0, none⟩)) (hv : a.eval v = u) (hu : u.cells = (recL q).toArray) (hq : q.Ok) (hr : isRec T w g r)
    (h : ∀ w', isRec T w' g q → Fr (fun k => k = g) w w' → wpList Try.prog ops Q rest a w') : wpList Try.prog ops Q (o :: rest) a w :=
  store_part hgd hN T x v ho g 0 _ hx hv _ _ (recL q) hr.1 (by rw [hu]) (by rw [hT.info, recL_len hq]) (by simp [recL_len hr.2, recL_len hq]) (recL_one q)
    fun w' hh hf => h w' ⟨by rw [hh, recL_setAll hr.2 hq], hq⟩ hf
theorem ld_all (hT : RecT T) (hw : Region.wanted o (yielded ops a.tmps) = true) (x : Operand) (ho : o.op = .load T x) (g : Nat) (r : Rec) (hx : a.eval x = .pointer (some ⟨g, 0, none⟩)) (hr : isRec T w g r)
    (h : wpList Try.prog ops Q rest (a.put o.dst (recV r)) w) : wpList Try.prog ops Q (o :: rest) a w := by
  obtain ⟨d, hu, hd⟩ := hT.under
  refine load_part hw T x ho g 0 66 hx T _ _ d hr.1 hu hd hT.info (by simp [recL_len hr.2]) ?_
  have e : ((recL r).toArray.toList.drop 0).take 66 = recL r := by
    rw [List.drop_zero, List.take_of_length_le (by simp [recL_len hr.2])]
  rw [e]; exact h
end
theorem isRec.fresh (T : Nat) (w : World) (o : Obj) (h : o = .cells recLit T) : isRec T (w.alloc o) w.heap.size Rec.zero := ⟨by subst h; exact heap_new _ _, Rec.zero_ok⟩
theorem isRec.results {T : Nat} (hT : RecT T) {w : World} {x : Nat} {r : Rec} (hr : isRec T w x r) {fn : Func} {p u : Tmp} (h : fn.results = #[.cell p T, .tmp u]) (tmps : Array Value) (hp : tmps.getD p undef = .pointer (some ⟨x, 0, none⟩)) :
    (results fn tmps).run Try.prog w = .ok (.tuple #[recV r, tmps.getD u undef]) w :=
  let ⟨_, hu, hd⟩ := hT.under
  results_ct h tmps w x _ _ _ _ hp hr.1 hu hd (by rw [hT.info]; simp [recL_len hr.2])

end Go.Proofs.Ytodhkdmkkjhnnaa
