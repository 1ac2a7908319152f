/- The words of these proofs: facts kept aside, frames over worlds, and byte slices of a call's own. -/
import Derived.Test.YtodhkdmkkjhnnaaCrc
import Derived.Test.YtodhkdmkkjhnnaaProg
import Derived.WalkKit
import Derived.Deep.LoopGhost
import Derived.Deep.QuietTactic
import Derived.BigQuiet
import Derived.KernelRfl
import Derived.Lib.ConvBytes
import Derived.Laws.BytesArg
import Derived.Maps.AppendAt
import Derived.Deep.Draws
import Derived.Deep.OwnRows
import Derived.Deep.AppendLies
import Derived.Laws.MakeOwn
import Derived.Laws.OwnMore
import Derived.Deep.DeepCutAuto
import Derived.Deep.RegionHeld3
import Derived.Lib.AppendStr
import Derived.Laws.IdiomCopy
import Derived.WideLaws
import Derived.Deep.CutBlock
import Derived.Laws.IdiomStrings
set_option linter.unusedVariables false
namespace Go.Proofs.Ytodhkdmkkjhnnaa
open Go.RowKit

/-- A fact that the walk's simp does not look into. -/
structure Aside (p : Prop) : Prop where mk :: (out : p)

/-- Of the blocks that there were, those in S alone may have changed. -/
structure Fr (S : Nat → Prop) (w w' : World) : Prop where
  os : w'.os = w.os
  tape : w'.tape = w.tape
  output : w'.output = w.output
  size : w.heap.size ≤ w'.heap.size
  block : ∀ k, k < w.heap.size → ¬ S k → w'.heap[k]? = w.heap[k]?

namespace Fr
variable {S T : Nat → Prop} {w w1 w2 : World}
theorem refl (S : Nat → Prop) (w : World) : Fr S w w := ⟨rfl, rfl, rfl, Nat.le_refl _, fun _ _ _ => rfl⟩
theorem trans (h : Fr S w w1) (k : Fr T w1 w2) (hT : ∀ b, b < w.heap.size → T b → S b) : Fr S w w2 :=
  ⟨k.os.trans h.os, k.tape.trans h.tape, k.output.trans h.output, Nat.le_trans h.size k.size, fun b hb hS =>
    (k.block b (Nat.lt_of_lt_of_le hb h.size) (fun hT' => hS (hT b hb hT'))).trans (h.block b hb hS)⟩
theorem mono (h : Fr S w w1) (hS : ∀ b, b < w.heap.size → S b → T b) : Fr T w w1 :=
  ⟨h.os, h.tape, h.output, h.size, fun b hb hT => h.block b hb (fun q => hT (hS b hb q))⟩
theorem alloc (h : Fr S w w1) (o : Obj) : Fr S w (w1.alloc o) :=
  h.trans (T := fun _ => False) ⟨rfl, rfl, rfl, by simp, fun k hk _ => Below.heap_alloc w1 o k hk⟩ (fun _ _ q => q.elim)
theorem setCell (h : Fr S w w1) {p : Addr} (hp : p.block < w.heap.size → S p.block) (u : Value) : Fr S w (w1.setCell p u) :=
  h.trans (T := fun b => b = p.block) ⟨rfl, rfl, rfl, by simp [World.setCell], fun k _ hne => Below.heap_setCell w1 p u k hne⟩ (fun b hb e => by subst e; exact hp hb)
theorem drew (h : Fr S w w1) : Fr S w w1.drew := ⟨h.os, h.tape, h.output, h.size, h.block⟩
theorem drewN (h : Fr S w w1) (n : Nat) : Fr S w (w1.drewN n) := ⟨h.os, h.tape, h.output, h.size, h.block⟩
theorem grown {row : Option Nat} (h : w.grownBy w1 row) : Fr (fun k => row = some k) w w1 :=
  ⟨h.os, h.tape, h.output, h.size, fun b hb hne => h.block b hb (fun e => hne e.symm)⟩
theorem below {B : Nat} (h : Fr (fun k => B ≤ k) w w1) (hB : B ≤ w.heap.size) : Below B w w1 :=
  ⟨h.os, h.tape, h.output, h.size, fun k hk => h.block k (by omega) (by omega)⟩
theorem none_ (h : Fr (fun _ => False) w w1) : Below w.heap.size w w1 :=
  ⟨h.os, h.tape, h.output, h.size, fun k hk => h.block k hk id⟩
theorem ofBelow (h : Below w.heap.size w w1) (S : Nat → Prop) : Fr S w w1 := ⟨h.os, h.tape, h.output, h.size, fun k hk _ => h.block k hk⟩
theorem heap (h : Fr S w w1) {k : Nat} {o : Obj} (hk : w.heap[k]? = some o) (hn : ¬ S k) : w1.heap[k]? = some o :=
  (h.block k (Array.getElem?_eq_some_iff.1 hk).1 hn).trans hk
end Fr

/-- The footprint S may have grown to T: by blocks from n on. -/
def Gro (S T : Nat → Prop) (n : Nat) : Prop := ∀ k, T k → S k ∨ n ≤ k

theorem results_tmp4 {fn : Func} {a b c d : Tmp} (h : fn.results = #[.tmp a, .tmp b, .tmp c, .tmp d]) (tmps : Array Value) (P : Program) (w : World) :
    (results fn tmps).run P w = .ok (.tuple #[tmps.getD a undef, tmps.getD b undef, tmps.getD c undef, tmps.getD d undef]) w := by
  simp [results, h]

/-! ### Blocks -/
theorem addr_add (g off j : Nat) : (⟨g, off, none⟩ : Addr).add j = ⟨g, off + j, none⟩ := by unfold Addr.add; split <;> simp_all
theorem lt_of_heap {w : World} {k : Nat} {o : Obj} (h : w.heap[k]? = some o) : k < w.heap.size := (Array.getElem?_eq_some_iff.1 h).1
theorem heap_cell {w : World} {g : Nat} {t : TypeId} {cs : Array Value} {fr : Nat × Nat} (h : w.heap[g]? = some (.cells cs t fr)) (i : Nat) : w.cell? ⟨g, i, none⟩ = cs[i]? := by
  simp [World.cell?, h]
theorem heap_frozen {w : World} {g : Nat} {t : TypeId} {cs : Array Value} (h : w.heap[g]? = some (.cells cs t (0, 0))) (i : Nat) : w.frozen? ⟨g, i, none⟩ = false := by
  simp [World.frozen?, h]
theorem heap_set {w : World} {g : Nat} {t : TypeId} {cs : Array Value} {fr : Nat × Nat} (h : w.heap[g]? = some (.cells cs t fr)) (i : Nat) (u : Value) :
    (w.setCell ⟨g, i, none⟩ u).heap[g]? = some (.cells (cs.setIfInBounds i u) t fr) := by
  simp [World.setCell, Array.getElem?_modify, h]
theorem heap_new (w : World) (o : Obj) : (w.alloc o).heap[w.heap.size]? = some o := heap_alloc_new w o

/-! ### Bytes -/
theorem ba_eta (s : ByteArray) : ByteArray.mk s.data.toList.toArray = s := by cases s; simp
theorem ba_append (s : ByteArray) (l : List UInt8) : s ++ ByteArray.mk l.toArray = ⟨(s.data.toList ++ l).toArray⟩ := by
  rw [← ByteArray.mk_append_mk, ba_eta]
theorem ba_append2 (s t : ByteArray) : s ++ t = ⟨(s.data.toList ++ t.data.toList).toArray⟩ := by
  rw [← ba_append, ba_eta]
theorem ba_extract (s : ByteArray) (a b : Nat) : s.extract a b = ⟨((s.data.toList.drop a).take (b - a)).toArray⟩ := by
  rw [← ByteArray.extract_mk, ba_eta]
theorem ba_size (s : ByteArray) : s.size = s.data.toList.length := by rw [Array.length_toList]; rfl

def byt (c : UInt8) : Value := .int .u8 (c.toNat : Int)
/-- The blocks of a slice value. -/
def own (v : Value) : Nat → Prop := fun k => v.ownBlock = some k
/-- v is a slice of the call's own that holds these bytes. -/
def OwnB (w : World) (v : Value) (bs : List UInt8) : Prop := w.ownsRow 0 5 1 v bs.length (bs.map byt)

theorem OwnB.nil (w : World) : OwnB w (.slice none 0 0) [] := ⟨by simp, .inl ⟨rfl, rfl⟩⟩
theorem OwnB.keep {w w1 : World} {v : Value} {bs : List UInt8} {S : Nat → Prop} (h : OwnB w v bs) (hf : Fr S w w1) (hn : ∀ k, own v k → ¬ S k) : OwnB w1 v bs := by
  obtain ⟨h1, h2⟩ := h
  refine ⟨h1, ?_⟩
  rcases h2 with h2 | ⟨g, cap, cur, hv, hg, hh, r⟩
  · exact .inl h2
  · exact .inr ⟨g, cap, cur, hv, hg, hf.heap hh (hn g (by simp [own, hv, Value.ownBlock])), r⟩
theorem OwnB.lt {w : World} {v : Value} {bs : List UInt8} (h : OwnB w v bs) : ∀ k, own v k → k < w.heap.size := by
  intro k hk
  rcases h.2 with ⟨rfl, _⟩ | ⟨g, cap, cur, rfl, _, hh, _⟩
  · simp [own, Value.ownBlock] at hk
  · have : g = k := by simpa [own, Value.ownBlock] using hk
    subst this; exact lt_of_heap hh
theorem OwnB.alloc {w : World} {v : Value} {bs : List UInt8} (h : OwnB w v bs) (o : Obj) : OwnB (w.alloc o) v bs := World.ownsRow.alloc h o

theorem Try.info_u8 : (Try.prog.info? 5).map (fun i => (i.zero, i.size, i.bytes)) = some (some (.int .u8 0), 1, 1) := by kernel_rfl

theorem u8_nat (n : Int) (h0 : 0 ≤ n) (h1 : n < 256) : ((UInt8.ofNat n.toNat).toNat : Int) = n := by
  simp; omega

/-- 'append(v, x)', x a byte: v a slice of the call's own. -/
theorem append_byte {ops : Array Oper} {rest : List Oper} {o : Oper} {a : Act} {Q : Exit → Act → World → Prop} {W : World} (hgd : o.guard = none) (s x : Operand)
    (ho : o.op = .call { callee := .builtin .append, args := #[s, x], argTypes := #[80, 80] })
    (v : Value) (bs : List UInt8) (n : Int) (c : UInt8) (hn : n = (c.toNat : Int)) (hs : a.eval s = v) (hx : a.eval x = .slice (some ⟨W.heap.size, 0, none⟩) 1 1) (HO : OwnB W v bs) (hl : bs.length + 1 ≤ 140737488355328)
    (h : ∀ v1 w1, OwnB w1 v1 (bs ++ [c]) → Fr (own v) W w1 → Gro (own v) (own v1) W.heap.size → wpList Try.prog ops Q rest (a.put o.dst v1) w1) :
    wpList Try.prog ops Q (o :: rest) a (W.alloc (.cells #[.int .u8 n] 5)) := by
  obtain ⟨i0, hi, hzz⟩ := Option.map_eq_some_iff.1 Try.info_u8
  simp only [Prod.mk.injEq] at hzz
  obtain ⟨hz0, hz1, hz2⟩ := hzz
  subst hn
  refine wpList_append_own_at (W.alloc _) hgd s x 80 ho 0 5 i0 (.int .u8 0) 1 1 Try.underlying80 hi hz0 hz1 hz2 rfl (by omega) v bs.length (bs.map byt) hs (HO.alloc _) ⟨W.heap.size, 0, none⟩ 1 1 [byt c] hx rfl
    (World.news_of_block (cs := #[byt c]) (t := 5) (fr := (0, 0)) (heap_alloc_new W _)) (by simp [byt, Value.oneCell']) (by simp only [maxLen]; omega) (by omega) (by simp) ?_
  intro v1 w1 hown hg _ hat
  have hg' := World.grownBy.trans (World.grownBy_alloc W _ _) hg
  refine h v1 w1 (by simpa [OwnB] using hown) (Fr.grown hg') (fun k hk => ?_)
  rcases hat with hat | hat
  · exact .inl (by simpa [own, hat] using hk)
  · rw [own, hat] at hk; simp at hk; exact .inr (by omega)

theorem OwnB.shape {w : World} {v : Value} {bs : List UInt8} (h : OwnB w v bs) : ∃ a n c, v = .slice a n c := by
  rcases h.2 with ⟨rfl, h0⟩ | ⟨g, cap, cur, rfl, _⟩
  · exact ⟨none, 0, 0, rfl⟩
  · exact ⟨_, _, _, rfl⟩
theorem OwnB.conv {w : World} {v : Value} {bs : List UInt8} (h : OwnB w v bs) : (convert 80 9 v).run Try.prog w = .ok (.string ⟨bs.toArray⟩) w := by
  rcases h.2 with ⟨rfl, h0⟩ | ⟨g, cap, cur, rfl, _⟩
  · have : bs = [] := List.eq_nil_of_length_eq_zero h0
    subst this
    exact run_convert_bytes_nil w _ 5 Try.underlying80 Try.underlying5 0 0 _ Try.underlying9
  · exact run_convert_bytes_back w _ _ 5 ⟨g, 0, none⟩ cap bs Try.underlying80 Try.underlying5 Try.underlying9 (fun j hj => World.ownsRow.cells h (g := g) rfl j _ (by simp [byt, hj]))
/-- A conversion of bytes that were just laid. -/
theorem conv_new (W : World) (cs : Array Value) (bs : List UInt8) (g n c : Nat) (hg : g = W.heap.size) (hn : n = bs.length) (h : cs.toList = bs.map byt) :
    (convert 80 9 (.slice (some ⟨g, 0, none⟩) n c)).run Try.prog (W.alloc (.cells cs 5)) = .ok (.string ⟨bs.toArray⟩) (W.alloc (.cells cs 5)) := by
  subst hg; subst hn
  refine run_convert_bytes_back _ _ _ 5 ⟨W.heap.size, 0, none⟩ c bs Try.underlying80 Try.underlying5 Try.underlying9 (fun j hj => ?_)
  have h1 : (⟨W.heap.size, 0, none⟩ : Addr).add j = ⟨W.heap.size, j, none⟩ := by unfold Addr.add; split <;> simp_all
  rw [h1, heap_cell (heap_new W _) j, ← Array.getElem?_toList, h]
  simp [byt, hj]
theorem strCells_byt (s : ByteArray) : Lib.strCells s = s.data.toList.map byt := rfl

/-- 'append(v, s...)', s a string. -/
theorem append_str {ops : Array Oper} {rest : List Oper} {o : Oper} {a : Act} {Q : Exit → Act → World → Prop} {W : World} (hgd : o.guard = none) (sl x : Operand)
    (ho : o.op = .call { callee := .builtin .append, args := #[sl, x], argTypes := #[80, 9] })
    (v : Value) (bs : List UInt8) (s : ByteArray) (hs : a.eval sl = v) (hx : a.eval x = .string s) (HO : OwnB W v bs) (hl : bs.length + s.size ≤ 140737488355328)
    (h : ∀ v1 w1, OwnB w1 v1 (bs ++ s.data.toList) → Fr (own v) W w1 → Gro (own v) (own v1) W.heap.size → wpList Try.prog ops Q rest (a.put o.dst v1) w1) :
    wpList Try.prog ops Q (o :: rest) a W := by
  obtain ⟨i0, hi, hzz⟩ := Option.map_eq_some_iff.1 Try.info_u8
  simp only [Prod.mk.injEq] at hzz
  obtain ⟨hz0, hz1, hz2⟩ := hzz
  refine wpList_plain hgd fun K hK => ?_
  have key : ∃ v' w', (Builtin.append_ #[80, 9] o.type #[v, .string s]).run Try.prog W = .ok v' w' ∧ OwnB w' v' (bs ++ s.data.toList) ∧ Fr (own v) W w' ∧ Gro (own v) (own v') W.heap.size := by
    have hsz : (bs ++ s.data.toList).length = bs.length + s.size := by rw [List.length_append, Array.length_toList]; rfl
    rcases HO.2 with ⟨rfl, h0⟩ | ⟨g, cap, cur, rfl, hbg, hg, hnc, hcm, hcs, htake⟩
    · obtain ⟨v', w', hr, h2, h3, _⟩ := Lib.run_append_own_string (P := Try.prog) W W.heap.size 80 9 o.type 5 i0 Try.underlying80 Try.underlying9 hi hz0 hz1 hz2 (.slice none 0 0) bs.length (bs.map byt) ⟨HO.1, .inl ⟨rfl, h0⟩⟩ s (by simp only [maxLen]; omega) hl (Nat.le_refl _)
      refine ⟨v', w', hr, ?_, (Fr.grown h3).mono (fun _ _ q => q), fun k hk => ?_⟩
      · unfold OwnB; rw [hsz, List.map_append, ← strCells_byt]
        obtain ⟨q1, q2⟩ := h2
        refine ⟨q1, ?_⟩
        rcases q2 with q2 | ⟨g, cap, cur, hv, _, r⟩
        · exact .inl q2
        · exact .inr ⟨g, cap, cur, hv, Nat.zero_le _, r⟩
      · rcases h2.2 with ⟨rfl, _⟩ | ⟨g, cap, cur, rfl, hg, _⟩
        · simp [own, Value.ownBlock] at hk
        · have hkg : some g = some k := hk
          have : g = k := Option.some.inj hkg
          exact .inr (by omega)
    · obtain ⟨v', w', hr, h2, h3, _⟩ := Lib.run_append_own_string (P := Try.prog) W 0 80 9 o.type 5 i0 Try.underlying80 Try.underlying9 hi hz0 hz1 hz2 (.slice (some ⟨g, 0, none⟩) bs.length cap) bs.length (bs.map byt) HO s (by simp only [maxLen]; omega) hl (Nat.zero_le _)
      refine ⟨v', w', hr, by unfold OwnB; rw [hsz, List.map_append, ← strCells_byt]; exact h2, Fr.grown h3, fun k hk => ?_⟩
      by_cases hroom : bs.length + s.size ≤ cap
      · have hr2 := Lib.run_append_room_string (P := Try.prog) W 80 9 o.type 5 i0 Try.underlying80 Try.underlying9 hi hz1 g bs.length cap cur hg s hroom (by omega)
        rw [hr] at hr2
        injection hr2 with hr2
        subst hr2
        exact .inl hk
      · have holds : ∀ j u, (bs.map byt)[j]? = some u → W.cell? ((⟨g, 0, none⟩ : Addr).add j) = some u := World.ownsRow.cells HO (g := g) rfl
        have hr2 := Lib.run_append_grow_string (P := Try.prog) W 80 9 o.type 5 i0 (.int .u8 0) Try.underlying80 Try.underlying9 hi hz0 ⟨g, 0, none⟩ bs.length cap (bs.map byt) (by rw [hz1]; simp) holds s (by omega) (by omega) (by rw [hz2]; exact growslice_fits (by omega) (by omega))
        rw [hr] at hr2
        injection hr2 with hr2
        subst hr2
        have hkg : some W.heap.size = some k := hk
        have : W.heap.size = k := Option.some.inj hkg
        exact .inr (by omega)
  obtain ⟨v', w', hr, h2, h3, h4⟩ := key
  unfold Oper.wp execOp
  simp only [ho, resolve, invoke, builtin, Sem.run_bind, Sem.run_pure, Result.andThen_ok, List.map_toArray, List.map_cons, List.map_nil, hs, hx, hr]
  exact hK _ _ (h v' w' h2 h3 h4)

end Go.Proofs.Ytodhkdmkkjhnnaa
