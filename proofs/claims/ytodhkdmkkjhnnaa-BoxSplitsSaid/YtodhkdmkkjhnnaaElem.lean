/- Slices of structs of the call's own: an element put behind. -/
import Derived.Test.YtodhkdmkkjhnnaaRecBuild
import Derived.Deep.MidRow
set_option linter.unusedVariables false
namespace Go.Proofs.Ytodhkdmkkjhnnaa
open Go.RowKit

/-- T is a slice of e, whose values have 'size' cells. -/
structure ElemT (T e size bytes : Nat) : Prop where
  und : Try.prog.underlying T = some (.slice e)
  info : ∃ i z, Try.prog.info? e = some i ∧ i.zero = some z ∧ i.size = size ∧ i.bytes = bytes ∧ z.cells.size = size
  zero : ∃ z, z.cells.size = size ∧ ∀ W, (zeroValue e).run Try.prog W = .ok z W
  pos : 0 < size ∧ size ≤ 1000 ∧ bytes ≤ 1000

def OwnE (w : World) (e size : Nat) (v : Value) (its : List (List Value)) : Prop := w.ownsRow 0 e size v its.length its.flatten
theorem OwnE.nil (w : World) (e size : Nat) : OwnE w e size (.slice none 0 0) [] := ⟨by simp, .inl ⟨rfl, rfl⟩⟩
theorem OwnE.keep {w w1 : World} {e size : Nat} {v : Value} {its : List (List Value)} {S : Nat → Prop} (h : OwnE w e size v its) (hf : Fr S w w1) (hn : ∀ k, own v k → ¬ S k) : OwnE w1 e size v its := by
  obtain ⟨h1, h2⟩ := h
  refine ⟨h1, ?_⟩
  rcases h2 with h2 | ⟨g, cap, cur, hv, hg, hh, r⟩
  · exact .inl h2
  · exact .inr ⟨g, cap, cur, hv, hg, hf.heap hh (hn g (by simp [own, hv, Value.ownBlock])), r⟩
theorem OwnE.shape {w : World} {e size : Nat} {v : Value} {its : List (List Value)} (h : OwnE w e size v its) : ∃ p c, v = .slice p its.length c ∧ (its ≠ [] → ∃ g, p = some ⟨g, 0, none⟩) := by
  rcases h.2 with ⟨rfl, h0⟩ | ⟨g, cap, cur, rfl, _⟩
  · simp at h0; subst h0; exact ⟨_, _, rfl, fun q => absurd rfl q⟩
  · exact ⟨_, _, rfl, fun _ => ⟨g, rfl⟩⟩

theorem flat_get {size : Nat} : ∀ (its : List (List Value)) (i j : Nat) (c : List Value), (∀ x ∈ its, x.length = size) → its[i]? = some c → j < size → its.flatten[i * size + j]? = c[j]? := by
  intro its
  induction its with
  | nil => intro i j c _ h; simp at h
  | cons x xs ih =>
    intro i j c hl h hj
    have hx := hl x (by simp)
    cases i with
    | zero =>
      simp only [List.getElem?_cons_zero, Option.some.injEq] at h
      subst h
      rw [Nat.zero_mul, Nat.zero_add, List.flatten_cons, List.getElem?_append_left (by omega)]
    | succ i =>
      simp only [List.getElem?_cons_succ] at h
      have := ih i j c (fun y hy => hl y (by simp [hy])) h hj
      rw [List.flatten_cons, List.getElem?_append_right (by rw [hx, Nat.add_mul]; omega), hx, show (i + 1) * size + j - size = i * size + j by rw [Nat.add_mul]; omega]
      exact this
/-- An element's cells. -/
theorem OwnE.range {w : World} {e size g n c : Nat} {its : List (List Value)} (h : OwnE w e size (.slice (some ⟨g, 0, none⟩) n c) its) (hl : ∀ x ∈ its, x.length = size) (i : Nat) (x : List Value) (hx : its[i]? = some x) :
    ∀ j u, x[j]? = some u → w.cell? ⟨g, i * size + j, none⟩ = some u := fun j u hu => by
  have hj : j < size := by
    have h1 := hl x (List.mem_of_getElem? hx)
    have h2 := (List.getElem?_eq_some_iff.1 hu).1
    omega
  have q := World.ownsRow.cells h (g := g) rfl (i * size + j) u (by rw [flat_get its i j x hl hx hj]; exact hu)
  have e1 : (⟨g, 0, none⟩ : Addr).add (i * size + j) = ⟨g, i * size + j, none⟩ := by unfold Addr.add; split <;> simp_all
  rw [e1] at q; exact q

/-- 'append(v, x)', x a struct that was just laid: v a slice of the call's own. -/
theorem append_elem {T e size bytes : Nat} (E : ElemT T e size bytes) {ops : Array Oper} {rest : List Oper} {o : Oper} {a : Act} {Q : Exit → Act → World → Prop} {W : World} (hgd : o.guard = none) (s x : Operand)
    (ho : o.op = .call { callee := .builtin .append, args := #[s, x], argTypes := #[T, T] })
    (v : Value) (its : List (List Value)) (c : List Value) (hs : a.eval s = v) (hx : a.eval x = .slice (some ⟨W.heap.size, 0, none⟩) 1 1) (HO : OwnE W e size v its) (hc : c.length = size) (h1 : ∀ u ∈ c, u.oneCell' = true) (hl : its.length + 1 ≤ 1000000000)
    (h : ∀ v1 w1, OwnE w1 e size v1 (its ++ [c]) → Fr (own v) W w1 → Gro (own v) (own v1) W.heap.size → wpList Try.prog ops Q rest (a.put o.dst v1) w1) :
    wpList Try.prog ops Q (o :: rest) a (W.alloc (.cells c.toArray e)) := by
  obtain ⟨i0, z, hi, hz0, hz1, hz2, hz3⟩ := E.info
  have hp := E.pos
  have hbb : (its.length + 1) * bytes ≤ 1000000000 * 1000 := Nat.mul_le_mul hl hp.2.2
  refine wpList_append_own_at (W.alloc _) hgd s x T ho 0 e i0 z size bytes E.und hi hz0 hz1 hz2 hz3 hp.1 v its.length its.flatten hs (World.ownsRow.alloc HO _) ⟨W.heap.size, 0, none⟩ 1 1 c hx (by omega)
    (World.news_of_block (cs := c.toArray) (t := e) (fr := (0, 0)) (heap_alloc_new W _)) h1 (by simp only [maxLen]; omega) (by omega) (by simp) ?_
  intro v1 w1 hown hg _ hat
  have hg' := World.grownBy.trans (World.grownBy_alloc W _ _) hg
  refine h v1 w1 (by simpa [OwnE] using hown) (Fr.grown hg') (fun k hk => ?_)
  rcases hat with hat | hat
  · exact .inl (by simpa [own, hat] using hk)
  · rw [own, hat] at hk; simp at hk; exact .inr (by omega)

/-- '[]T{x}', x a struct. -/
theorem bs_one {T e size bytes : Nat} (E : ElemT T e size bytes) {ops : Array Oper} {rest : List Oper} {o : Oper} {a : Act} {Q : Exit → Act → World → Prop} {W : World} (hgd : o.guard = none) (x : Operand) (ho : o.op = .buildSlice T 1 #[(0, x)])
    (u : Value) (c : List Value) (hx : a.eval x = u) (hu : u.cells.toList = c) (hc : c.length = size)
    (h : wpList Try.prog ops Q rest (a.put o.dst (.slice (some ⟨W.heap.size, 0, none⟩) 1 1)) (W.alloc (.cells c.toArray e))) : wpList Try.prog ops Q (o :: rest) a W := by
  refine wpList_plain hgd fun K hK => ?_
  obtain ⟨i0, z0, hi, hz0, hz1, hz2, hz3⟩ := E.info
  obtain ⟨z, hzs, hzr⟩ := E.zero
  have hp := E.pos
  have hf : Instr.fill (fun i => some (i * size, size)) ((Array.range (1 * size)).map (z.cells[· % z.cells.size]!)) [(0, u)] = some c.toArray := by
    rw [fill_step _ _ 0 0 size u c [] (by simp) hu hc (by simp)]
    rw [hc]
    simp [Instr.fill]
  have hr : (Instr.buildSlice T 1 #[(0, u)]).run Try.prog W = .ok (.slice (some ⟨W.heap.size, 0, none⟩) 1 1) (W.alloc (.cells c.toArray e)) := by
    have hn1 : ¬ 1 * size > 2 ^ 24 := by omega
    have hn2 : ¬ 1 * size = 0 := by omega
    unfold Instr.buildSlice
    simp only [Sem.run_bind, run_underlying E.und, Result.andThen_ok, sizeOf, typeInfo, run_program, hi, Sem.run_pure, hz1, if_neg hn1, if_neg hn2, hzr, hf]
    simp [newRow]
  unfold Oper.wp execOp
  have hp2 : ((#[(0, x)] : Array (Nat × Operand)).map fun (i, y) => (i, a.eval y)) = #[(0, u)] := by simp [hx]
  simp only [ho, hp2, Sem.run_bind, Sem.run_pure, Result.andThen_ok, hr]
  exact hK _ _ h

theorem elem_of {T e size bytes : Nat} (hu : Try.prog.underlying T = some (.slice e)) (hi : (Try.prog.info? e).map (fun i => (i.zero.map (·.cells.size), i.size, i.bytes)) = some (some size, size, bytes)) (z : Value) (hz : z.cells.size = size) (hr : ∀ W, (zeroValue e).run Try.prog W = .ok z W) (hp : 0 < size ∧ size ≤ 1000 ∧ bytes ≤ 1000) : ElemT T e size bytes := by
  obtain ⟨i, h1, h2⟩ := Option.map_eq_some_iff.1 hi
  simp only [Prod.mk.injEq] at h2
  obtain ⟨y, hy1, hy2⟩ := Option.map_eq_some_iff.1 h2.1
  exact ⟨hu, ⟨i, y, h1, hy1, h2.2.1, h2.2.2, hy2⟩, ⟨z, hz, hr⟩, hp⟩
set_option maxRecDepth 100000 in
theorem elem_rec : ElemT 54 25 66 88 := elem_of Try.underlying54 (by kernel_rfl) (.agg recLit) (by kernel_rfl) recB_ref.zero (by omega)
def itemZ : Array Value := (#[.int .i64 0, .int .i64 0] : Array Value) ++ recLit
set_option maxRecDepth 100000 in
theorem elem_item : ElemT 56 63 68 104 := elem_of Try.underlying56 (by kernel_rfl) (.agg itemZ) (by kernel_rfl) (fun W => by kernel_rfl) (by omega)
theorem elem_int : ElemT 59 3 1 8 := elem_of Try.underlying59 (by kernel_rfl) (.int .i64 0) (by kernel_rfl) (fun W => by kernel_rfl) (by omega)
end Go.Proofs.Ytodhkdmkkjhnnaa
