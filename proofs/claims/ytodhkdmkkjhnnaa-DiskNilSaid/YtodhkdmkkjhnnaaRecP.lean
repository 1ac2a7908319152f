/- Records and keys in memory: the laws. -/
import Derived.Test.YtodhkdmkkjhnnaaSixW
import Derived.Laws.CopyRow
set_option linter.unusedVariables false
namespace Go.Proofs.Ytodhkdmkkjhnnaa
open Go.RowKit

def aggD (d : TypeDesc) : Bool := match d with | .struct _ | .array _ _ => true | _ => false
theorem gate {ops : Array Oper} {rest : List Oper} {o : Oper} {a : Act} {Q : Exit → Act → World → Prop} {W : World} (op : Op) (_ho : o.op = op) (h : wpList Try.prog ops Q (o :: rest) a W) : wpList Try.prog ops Q (o :: rest) a W := h

/-- Cells of a block, read as one value. -/
theorem run_loadVar_part (w : World) (g off n : Nat) (t ty : TypeId) (cs : Array Value) (fr : Nat × Nat) (d : TypeDesc) (hg : w.heap[g]? = some (.cells cs t fr))
    (hu : Try.prog.underlying ty = some d) (hd : aggD d = true) (hi : (Try.prog.info? ty).map (·.size) = some n) (hn : off + n ≤ cs.size) :
    (loadVar ty ⟨g, off, none⟩).run Try.prog w = .ok (.agg ((cs.toList.drop off).take n).toArray) w := by
  have hlen : ((cs.toList.drop off).take n).length = n := by simp; omega
  have hl : (loadCells ⟨g, off, none⟩ ((cs.toList.drop off).take n).length).run Try.prog w = .ok ((cs.toList.drop off).take n).toArray w :=
    run_loadCells_list (P := Try.prog) w ⟨g, off, none⟩ _ (fun j v hv => by
      rw [addr_add, heap_cell hg]
      rw [List.getElem?_take] at hv
      split at hv
      · rw [List.getElem?_drop] at hv; simpa using hv
      · cases hv)
  rw [hlen] at hl
  cases hq : Try.prog.info? ty with
  | none => simp [hq] at hi
  | some i =>
    have hs : i.size = n := by simpa [hq] using hi
    have hagg : (isAgg ty).run Try.prog w = .ok true w := by
      unfold isAgg
      rw [Sem.run_bind, run_underlying hu w]
      cases d <;> simp_all [aggD]
    simp [loadVar, Sem.run_bind, hagg, sizeOf, typeInfo, hq, hs, hl]

theorem load_part {ops : Array Oper} {rest : List Oper} {o : Oper} {a : Act} {w : World} {Q : Exit → Act → World → Prop} (hw : Region.wanted o (yielded ops a.tmps) = true) (ty : TypeId) (x : Operand) (ho : o.op = .load ty x)
    (g off n : Nat) (hx : a.eval x = .pointer (some ⟨g, off, none⟩)) (t : TypeId) (cs : Array Value) (fr : Nat × Nat) (d : TypeDesc) (hg : w.heap[g]? = some (.cells cs t fr))
    (hu : Try.prog.underlying ty = some d) (hd : aggD d = true) (hi : (Try.prog.info? ty).map (·.size) = some n) (hn : off + n ≤ cs.size)
    (h : wpList Try.prog ops Q rest (a.put o.dst (.agg ((cs.toList.drop off).take n).toArray)) w) : wpList Try.prog ops Q (o :: rest) a w := by
  refine wpList_step fun K hK => ?_
  rw [if_pos hw]
  unfold Oper.wp execOp
  simp only [ho, hx, Instr.loadAt, Instr.sureAddr, Sem.run_bind, Sem.run_pure, Result.andThen_ok, run_loadVar_part w g off n t ty cs fr d hg hu hd hi hn]
  exact hK _ _ h

/-- The value u stored whole at ⟨g, off⟩. -/
theorem store_part {ops : Array Oper} {rest : List Oper} {o : Oper} {a : Act} {w : World} {Q : Exit → Act → World → Prop} (hgd : o.guard = none) (hN : o.dst = none) (ty : TypeId) (x v : Operand) (ho : o.op = .store ty x v)
    (g off : Nat) (u : Value) (hx : a.eval x = .pointer (some ⟨g, off, none⟩)) (hv : a.eval v = u) (t : TypeId) (cs : Array Value) (seg : List Value) (hg : w.heap[g]? = some (.cells cs t (0, 0)))
    (hu : u.cells.toList = seg) (ht : (Try.prog.info? ty).map (·.size) = some seg.length) (hfit : off + seg.length ≤ cs.size) (h1 : ∀ q ∈ seg, q.oneCell' = true)
    (h : ∀ w', w'.heap[g]? = some (.cells (cs.toList.take off ++ seg ++ cs.toList.drop (off + seg.length)).toArray t (0, 0)) → Fr (fun k => k = g) w w' → wpList Try.prog ops Q rest a w') : wpList Try.prog ops Q (o :: rest) a w := by
  refine wpList_plain hgd fun K hK => ?_
  obtain ⟨i, hi, hsz⟩ := Option.map_eq_some_iff.1 ht
  have hc : u.cells.size = i.size := by rw [hsz, ← hu, Array.length_toList]
  have hst := run_storeCells_at Try.prog g off t seg 0 cs w hg (by simpa using hfit) h1
  simp only [Nat.add_zero] at hst
  have hrun : (Instr.storeAt ty (.pointer (some ⟨g, off, none⟩)) u).run Try.prog w = .ok () (w.setRow g (cs.toList.take off ++ seg ++ cs.toList.drop (off + seg.length)).toArray) := by
    simp [Instr.storeAt, Instr.sureAddr, storeVar, sizeOf, typeInfo, hi, hc, hu, hst]
  unfold Oper.wp execOp
  simp only [ho, hx, hv, Sem.run_bind, Sem.run_pure, Result.andThen_ok, hrun]
  show K (a.put o.dst undef) _
  rw [hN]
  exact hK a _ (h _ (setRow_heap w g cs _ t (0, 0) hg) ⟨rfl, rfl, rfl, by simp, fun k _ hk => setRow_other w g k _ hk⟩)

/-- 'copy(v, s)', s a string that fits. -/
theorem copy_str {ops : Array Oper} {rest : List Oper} {o : Oper} {a : Act} {w : World} {Q : Exit → Act → World → Prop} (hgd : o.guard = none) (x y : Operand)
    (ho : o.op = .call { callee := .builtin .copy, args := #[x, y], argTypes := #[80, 9] })
    (g off n c : Nat) (s : ByteArray) (hx : a.eval x = .slice (some ⟨g, off, none⟩) n c) (hy : a.eval y = .string s) (hn : s.size ≤ n) (t : TypeId) (cs : Array Value) (hg : w.heap[g]? = some (.cells cs t (0, 0))) (hfit : off + s.size ≤ cs.size)
    (h : ∀ w', w'.heap[g]? = some (.cells (cs.toList.take off ++ s.data.toList.map byt ++ cs.toList.drop (off + s.size)).toArray t (0, 0)) → Fr (fun k => k = g) w w' → wpList Try.prog ops Q rest (a.put o.dst (goInt s.size)) w') : wpList Try.prog ops Q (o :: rest) a w := by
  refine wpList_plain hgd fun K hK => ?_
  obtain ⟨i0, hi, hzz⟩ := Option.map_eq_some_iff.1 Try.info_u8
  simp only [Prod.mk.injEq] at hzz
  have hf := Lib.run_firstCells_string (P := Try.prog) w 1 s
  have hlen : (s.data.toList.map byt).length = s.size := by rw [List.length_map, ← ba_size]
  have hst := run_storeCells_at Try.prog g off t (s.data.toList.map byt) 0 cs w hg (by rw [hlen]; simpa using hfit) (by intro v hv; simp only [List.mem_map] at hv; obtain ⟨b, _, rfl⟩ := hv; rfl)
  simp only [Nat.add_zero, hlen] at hst
  have hmin : Nat.min s.size n = s.size := Nat.min_eq_left hn
  have hrun : (Builtin.copy_ #[80, 9] o.type #[.slice (some ⟨g, off, none⟩) n c, .string s]).run Try.prog w = .ok (goInt s.size) (w.setRow g (cs.toList.take off ++ s.data.toList.map byt ++ cs.toList.drop (off + s.size)).toArray) := by
    unfold Builtin.copy_
    simp only [List.getElem?_toArray, List.getElem?_cons_zero, List.getElem?_cons_succ, Sem.run_bind, run_underlying Try.underlying80, Result.andThen_ok, Builtin.lenOf, Sem.run_pure, hmin, sizeOf, typeInfo, run_program, hi, hzz.2.1, hf]
    rw [show Lib.strCells s = s.data.toList.map byt from rfl, hst]
    rfl
  unfold Oper.wp execOp
  simp only [ho, resolve, invoke, builtin, Sem.run_bind, Sem.run_pure, Result.andThen_ok, List.map_toArray, List.map_cons, List.map_nil, hx, hy, hrun]
  exact hK _ _ (h _ (setRow_heap w g cs _ t (0, 0) hg) ⟨rfl, rfl, rfl, by simp, fun k _ hk => setRow_other w g k _ hk⟩)

/-- Bytes of a block as a text. -/
theorem conv_at (w : World) (g off c : Nat) (t : TypeId) (cs : Array Value) (fr : Nat × Nat) (bs : List UInt8) (n : Nat) (hn : n = bs.length) (hg : w.heap[g]? = some (.cells cs t fr)) (hc : (cs.toList.drop off).take bs.length = bs.map byt) :
    (convert 80 9 (.slice (some ⟨g, off, none⟩) n c)).run Try.prog w = .ok (.string ⟨bs.toArray⟩) w := by
  subst hn
  refine run_convert_bytes_back _ _ _ 5 ⟨g, off, none⟩ c bs Try.underlying80 Try.underlying5 Try.underlying9 (fun j hj => ?_)
  have h2 : ((cs.toList.drop off).take bs.length)[j]? = (bs.map byt)[j]? := by rw [hc]
  rw [List.getElem?_take_of_lt hj, List.getElem?_drop] at h2
  rw [addr_add, heap_cell hg, ← Array.getElem?_toList, h2]
  simp [byt, hj]

theorem part_byte (xs : List UInt8) (j : Nat) (hj : j < xs.length) (w : World) : (part 5 (xs.map byt).toArray j).run Try.prog w = .ok (byt xs[j]) w := by
  have hagg : (isAgg 5).run Try.prog w = .ok false w := by
    unfold isAgg; rw [Sem.run_bind, run_underlying Try.underlying5 w]; rfl
  unfold part
  rw [Sem.run_bind, hagg]
  simp [hj]

theorem eq_byte (d : Nat) (a b : UInt8) (w : World) : (Op.equalIn (d + 1) 5 (byt a) (byt b)).run Try.prog w = .ok (decide (a = b)) w := by
  unfold byt
  rw [run_equalIn_int w d 5 .u8 .u8 _ _ Try.underlying5]
  congr 1
  by_cases h : a = b
  · subst h; simp
  · have : ¬ (a.toNat : Int) = (b.toNat : Int) := fun q => h (UInt8.toNat_inj.1 (by omega))
    rw [decide_eq_false h]; exact beq_eq_false_iff_ne.2 this

/-- Arrays of bytes are alike where their bytes are. -/
theorem eq_bytes (d : Nat) (t n : Nat) (xs ys : List UInt8) (w : World) (ht : Try.prog.underlying t = some (.array n 5)) (hx : xs.length = n) (hy : ys.length = n) :
    (Op.equalIn (d + 2) t (.agg (xs.map byt).toArray) (.agg (ys.map byt).toArray)).run Try.prog w = .ok (decide (xs = ys)) w := by
  obtain ⟨i0, hi, hzz⟩ := Option.map_eq_some_iff.1 Try.info_u8
  simp only [Prod.mk.injEq] at hzz
  have hsz : (sizeOf 5).run Try.prog w = .ok 1 w := by simp [sizeOf, typeInfo, hi, hzz]
  have key : ∀ (m k : Nat), k + m = n → (forIn (List.range' k m) ((none : Option Bool), ()) fun (i : Nat) (__s : Option Bool × Unit) => (do
            let x1 ← part 5 (List.map byt xs).toArray (i * 1)
            let x2 ← part 5 (List.map byt ys).toArray (i * 1)
            let b ← Op.equalIn (d + 1) 5 x1 x2
            if (!b) = true then pure (ForInStep.done (some false, ())) else pure (ForInStep.yield (none, ())) : Sem (ForInStep (Option Bool × Unit)))).run Try.prog w = .ok (if xs.drop k = ys.drop k then (none, ()) else (some false, ())) w := by
    intro m
    induction m with
    | zero =>
      intro k hk
      rw [List.drop_of_length_le (by omega), List.drop_of_length_le (by omega), if_pos rfl]
      rfl
    | succ m ih =>
      intro k hk
      have hkx : k < xs.length := by omega
      have hky : k < ys.length := by omega
      rw [List.range'_succ, List.forIn_cons, Nat.mul_one]
      simp only [Sem.run_bind, part_byte xs k hkx, part_byte ys k hky, Result.andThen_ok, eq_byte]
      rw [List.drop_eq_getElem_cons hkx, List.drop_eq_getElem_cons hky]
      by_cases h : xs[k] = ys[k]
      · simp only [h, decide_true, Bool.not_true, Bool.false_eq_true, if_false, Sem.run_pure, Result.andThen_ok, List.cons.injEq, true_and]
        exact ih (k + 1) (by omega)
      · rw [if_neg (fun q => h (List.cons.inj q).1)]; simp only [decide_eq_false h, Bool.not_false, if_true]; rfl
  rw [Op.equalIn]
  simp only [Sem.run_bind, run_underlying ht, Result.andThen_ok, hsz, Std.Legacy.Range.forIn_eq_forIn_range']
  have hn : [:n].size = n := by simp [Std.Legacy.Range.size]
  rw [hn, key n 0 (by omega)]
  by_cases h : xs = ys <;> simp [h]

/-! ### Records -/
structure Rec where
  key : List UInt8
  base : List UInt8
  patch : Bool
  body : List UInt8
  deriving DecidableEq
def Rec.Ok (r : Rec) : Prop := r.key.length = 32 ∧ r.base.length = 32
def recL (r : Rec) : List Value := r.key.map byt ++ (r.base.map byt ++ [.bool r.patch, .string ⟨r.body.toArray⟩])
def recV (r : Rec) : Value := .agg (recL r).toArray
def zeros : List UInt8 := List.replicate 32 0
theorem recL_len {r : Rec} (h : r.Ok) : (recL r).length = 66 := by simp [recL, h.1, h.2]
theorem recL_patch {r : Rec} (h : r.Ok) : (recL r)[64]? = some (.bool r.patch) := by
  unfold recL
  rw [List.getElem?_append_right (by simp [h.1]), List.getElem?_append_right (by simp [h.1, h.2])]
  simp [h.1, h.2]
theorem recL_body {r : Rec} (h : r.Ok) : (recL r)[65]? = some (.string ⟨r.body.toArray⟩) := by
  unfold recL
  rw [List.getElem?_append_right (by simp [h.1]), List.getElem?_append_right (by simp [h.1, h.2])]
  simp [h.1, h.2]
theorem recL_key {r : Rec} (h : r.Ok) : ((recL r).drop 0).take 32 = r.key.map byt := by
  unfold recL; rw [List.drop_zero, List.take_append_of_le_length (by simp [h.1]), List.take_of_length_le (by simp [h.1])]
theorem recL_base {r : Rec} (h : r.Ok) : ((recL r).drop 32).take 32 = r.base.map byt := by
  unfold recL
  rw [List.drop_append_of_le_length (by simp [h.1]), List.drop_of_length_le (by simp [h.1]), List.nil_append, List.take_append_of_le_length (by simp [h.2]), List.take_of_length_le (by simp [h.2])]

theorem Try.info_key : (Try.prog.info? 23).map (·.size) = some 32 := by kernel_rfl
theorem part_key (l : List Value) (off : Nat) (w : World) : (part 23 l.toArray off).run Try.prog w = .ok (.agg ((l.drop off).take 32).toArray) w := by
  have hagg : (isAgg 23).run Try.prog w = .ok true w := by
    unfold isAgg; rw [Sem.run_bind, run_underlying Try.underlying23 w]; rfl
  have hsz : (sizeOf 23).run Try.prog w = .ok 32 w := by
    have h := Try.info_key
    cases hq : Try.prog.info? 23 with
    | none => simp [hq] at h
    | some i => have hs : i.size = 32 := by simpa [hq] using h
                simp [sizeOf, typeInfo, hq, hs]
  unfold part
  rw [Sem.run_bind, hagg]
  simp only [Result.andThen_ok, if_true, Sem.run_bind, hsz, Sem.run_pure]
  rw [List.extract_toArray, List.extract_eq_take_drop]
  simp
theorem part_one (t : TypeId) (l : List Value) (off : Nat) (v : Value) (hl : l[off]? = some v) (w : World) (d : TypeDesc) (hu : Try.prog.underlying t = some d) (hd : aggD d = false) :
    (part t l.toArray off).run Try.prog w = .ok v w := by
  have hagg : (isAgg t).run Try.prog w = .ok false w := by
    unfold isAgg; rw [Sem.run_bind, run_underlying hu w]; cases d <;> simp_all [aggD]
  unfold part
  rw [Sem.run_bind, hagg]
  simp [hl]

theorem rec_eq_iff (r q : Rec) : decide (r = q) = (decide (r.key = q.key) && (decide (r.base = q.base) && (decide (r.patch = q.patch) && decide (r.body = q.body)))) := by
  cases r; cases q
  simp only [Rec.mk.injEq]
  rw [Bool.eq_iff_iff]; simp

/-- Records of type t are alike where all is. -/
theorem eq_rec (d : Nat) (r q : Rec) (w : World) (hr : r.Ok) (hq : q.Ok) :
    (Op.eqFields (d + 2) (recL r).toArray (recL q).toArray (Try.prog.fieldsOf 30).toList).run Try.prog w = .ok (decide (r = q)) w := by
  have hf : (Try.prog.fieldsOf 30).toList = [{ name := "Key", type := 23, offset := 0, embedded := false, tag := "", pkgPath := "", byteOffset := 0 },
        { name := "Base", type := 23, offset := 32, embedded := false, tag := "", pkgPath := "", byteOffset := 32 },
        { name := "Patch", type := 4, offset := 64, embedded := false, tag := "", pkgPath := "", byteOffset := 64 },
        { name := "Body", type := 9, offset := 65, embedded := false, tag := "", pkgPath := "", byteOffset := 72 }] := by
    unfold Program.fieldsOf; rw [Try.underlying30]
  rw [hf]
  simp only [Op.eqFields, ne_eq, String.reduceEq, not_false_eq_true, if_true, Sem.run_bind, Sem.run_ite, Sem.run_pure, part_key, Result.andThen_ok, recL_key hr, recL_key hq, recL_base hr, recL_base hq,
    part_one 4 _ 64 _ (recL_patch hr) _ _ Try.underlying4 rfl, part_one 4 _ 64 _ (recL_patch hq) _ _ Try.underlying4 rfl,
    part_one 9 _ 65 _ (recL_body hr) _ _ Try.underlying9 rfl, part_one 9 _ 65 _ (recL_body hq) _ _ Try.underlying9 rfl,
    eq_bytes d 23 32 r.key q.key w Try.underlying23 hr.1 hq.1, eq_bytes d 23 32 r.base q.base w Try.underlying23 hr.2 hq.2,
    run_equalIn_bool w (d + 1) 4 _ _ Try.underlying4, run_equalIn_string w (d + 1) 9 _ _ Try.underlying9, rec_eq_iff r q, ByteArray.toList_mk]
  have hpb : (r.patch == q.patch) = decide (r.patch = q.patch) := by cases r.patch <;> cases q.patch <;> rfl
  have hbb : (r.body == q.body) = decide (r.body = q.body) := by by_cases h : r.body = q.body <;> simp [h]
  rw [hpb, hbb]
  cases decide (r.key = q.key) <;> cases decide (r.base = q.base) <;> cases decide (r.patch = q.patch) <;> cases decide (r.body = q.body) <;> rfl

theorem results_ct {fn : Func} {p u : Tmp} {ty : TypeId} (h : fn.results = #[.cell p ty, .tmp u]) (tmps : Array Value) (w : World) (g : Nat) (t : TypeId) (cs : Array Value) (fr : Nat × Nat) (d : TypeDesc)
    (hp : tmps.getD p undef = .pointer (some ⟨g, 0, none⟩)) (hg : w.heap[g]? = some (.cells cs t fr))
    (hu : Try.prog.underlying ty = some d) (hd : aggD d = true) (hi : (Try.prog.info? ty).map (·.size) = some cs.size) :
    (results fn tmps).run Try.prog w = .ok (.tuple #[.agg cs, tmps.getD u undef]) w := by
  have hp' : tmps[p]?.getD undef = .pointer (some ⟨g, 0, none⟩) := by simpa using hp
  have hl := run_loadVar_part w g 0 cs.size t ty cs fr d hg hu hd hi (by omega)
  rw [List.drop_zero, List.take_of_length_le (by simp), Array.toArray_toList] at hl
  simp [results, h, hp', asAddr, hl]

end Go.Proofs.Ytodhkdmkkjhnnaa
