/- The walks of disk: find, step, blocks, New, Make. -/
import Derived.Test.YtodhkdmkkjhnnaaRecBuild
import Derived.WalkSpells
set_option linter.unusedVariables false
set_option linter.unusedSimpArgs false
namespace Go.Proofs.Ytodhkdmkkjhnnaa
open Go.RowKit

section
variable {ops : Array Oper} {rest : List Oper} {o : Oper} {a : Act} {w : World} {Q : Exit → Act → World → Prop}
/-- A lookup, by what it gives. -/
theorem lk (hw : Region.wanted o (yielded ops a.tmps) = true) (t : TypeId) (m x : Operand) (ho : o.op = .lookup t m x false) (mv xv v : Value) (hm : a.eval m = mv) (hx : a.eval x = xv)
    (hrun : (Instr.lookup t mv xv false).run Try.prog w = .ok v w) (h : wpList Try.prog ops Q rest (a.put o.dst v) w) : wpList Try.prog ops Q (o :: rest) a w := by
  refine wpList_step fun K hK => ?_
  rw [if_pos hw]
  unfold Oper.wp execOp
  simp only [ho, hm, hx, Sem.run_bind, Sem.run_pure, Result.andThen_ok, hrun]
  exact hK _ _ h
theorem mu (hgd : o.guard = none) (hN : o.dst = none) (t : TypeId) (m x y : Operand) (ho : o.op = .mapUpdate t m x y) (mv xv yv : Value) (hm : a.eval m = mv) (hx : a.eval x = xv) (hy : a.eval y = yv) (w1 : World)
    (hrun : (Instr.mapUpdate t mv xv yv).run Try.prog w = .ok () w1) (h : wpList Try.prog ops Q rest a w1) : wpList Try.prog ops Q (o :: rest) a w := by
  refine wpList_plain hgd fun K hK => ?_
  unfold Oper.wp execOp
  simp only [ho, hm, hx, hy, Sem.run_bind, Sem.run_pure, Result.andThen_ok, hrun]
  show K (a.put o.dst undef) _
  rw [hN]
  exact hK _ _ h
end

theorem drewN2 (w : World) (a b : Nat) : (w.drewN a).drewN b = w.drewN (a + b) := by simp [World.drewN, Nat.add_assoc]
def isM (w : World) (m : Nat) (es : Array MapEntry) (c : Nat) : Prop := w.heap[m]? = some (.map es c)

theorem zero_fp (w : World) : (zeroValue 136).run Try.prog w = .ok (.pointer none) w := by kernel_rfl
theorem lk_empty (w : World) (m c : Nat) (n : Int) (h : isM w m #[] c) : (Instr.lookup 132 (.map (some m)) (.int .i64 n) false).run Try.prog w = .ok (.pointer none) w := by
  unfold isM at h
  have hk : MapKept.IsKey (.int .i64) (.int .i64 n) := rfl
  have e1 := MapKept.run_checkKey (P := Try.prog) (w := w) Try.underlying3 hk (#[] : Array MapEntry).isEmpty 9999
  have e2 := MapKept.run_findKey (P := Try.prog) (w := w) (l := (#[] : Array MapEntry).toList) (a := none) (k := .int .i64 n) Try.underlying3 rfl
  unfold Instr.lookup
  simp only [Sem.run_bind, run_underlying Try.underlying132, Result.andThen_ok, MapKept.run_getObj_map h, Sem.run_pure, e1, e2, zero_fp]
  rfl
theorem lk_one (w : World) (m c b : Nat) (n k : Int) (v : Value) (h : isM w m #[⟨.int .i64 k, v, b⟩] c) : (Instr.lookup 132 (.map (some m)) (.int .i64 n) false).run Try.prog w = .ok (if n = k then v else .pointer none) w := by
  unfold isM at h
  have hk : MapKept.IsKey (.int .i64) (.int .i64 n) := rfl
  have e1 := MapKept.run_checkKey (P := Try.prog) (w := w) Try.underlying3 hk (#[⟨.int .i64 k, v, b⟩] : Array MapEntry).isEmpty 9999
  by_cases hn : n = k
  · have e2 := MapKept.run_findKey (P := Try.prog) (w := w) (l := (#[⟨.int .i64 k, v, b⟩] : Array MapEntry).toList) (a := some (0, v)) (k := .int .i64 n) Try.underlying3 (by simp [Instr.findNow, Instr.sameNow, hn])
    unfold Instr.lookup
    simp only [Sem.run_bind, run_underlying Try.underlying132, Result.andThen_ok, MapKept.run_getObj_map h, Sem.run_pure, e1, e2, if_pos hn]
    rfl
  · have e2 := MapKept.run_findKey (P := Try.prog) (w := w) (l := (#[⟨.int .i64 k, v, b⟩] : Array MapEntry).toList) (a := none) (k := .int .i64 n) Try.underlying3 (by
        have hb : (n == k) = false := by simp [hn]
        simp [Instr.findNow, Instr.sameNow, hb])
    unfold Instr.lookup
    simp only [Sem.run_bind, run_underlying Try.underlying132, Result.andThen_ok, MapKept.run_getObj_map h, Sem.run_pure, e1, e2, if_neg hn, zero_fp]
    rfl
def putM (w : World) (m : Nat) (o : Obj) : World := { w with heap := w.heap.setIfInBounds m o }
theorem mu_empty (w : World) (m c : Nat) (n : Int) (v : Value) (h : isM w m #[] c) : (Instr.mapUpdate 132 (.map (some m)) (.int .i64 n) v).run Try.prog w = .ok () (putM w m (.map #[⟨.int .i64 n, v, c⟩] (c + 1))) := by
  unfold isM at h
  have hk : MapKept.IsKey (.int .i64) (.int .i64 n) := rfl
  have e1 := MapKept.run_checkKey (P := Try.prog) (w := w) Try.underlying3 hk false 9999
  have e2 := MapKept.run_findKey (P := Try.prog) (w := w) (l := (#[] : Array MapEntry).toList) (a := none) (k := .int .i64 n) Try.underlying3 rfl
  unfold Instr.mapUpdate
  simp only [Sem.run_bind, run_underlying Try.underlying132, Result.andThen_ok, MapKept.run_getObj_map h, Sem.run_pure, e1, e2, MapKept.run_setObj_map _ h]
  rfl
theorem putM_at {w : World} {m : Nat} {es : Array MapEntry} {c : Nat} (h : isM w m es c) (es2 : Array MapEntry) (c2 : Nat) : isM (putM w m (.map es2 c2)) m es2 c2 ∧ Fr (fun k => k = m) w (putM w m (.map es2 c2)) := by
  have hs := MapKept.heap_set (o' := .map es2 c2) h
  exact ⟨hs.1, ⟨rfl, rfl, rfl, by simp [putM], fun k hk hn => hs.2 k hn⟩⟩

def isD (w : World) (g m : Nat) (h c uh uc root st : Nat) (fuse : Int) (down : Bool) : Prop :=
  w.heap[g]? = some (.cells #[.map (some m), .int .i64 h, .int .i64 c, .int .i64 uh, .int .i64 uc, .int .i64 root, .int .i64 st, .int .i64 fuse, .bool down] 135 (0, 0))

set_option maxRecDepth 100000 in
theorem find_nil (w : World) (n : Int) : Calls Try.prog 82 #[.pointer none, .int .i64 n] w fun e w' => e = .returned (.tuple #[.pointer none, .int .i64 8]) ∧ w' = w := by
  go_enter Try.func82, Try.ntmps82
  go_wp2
  go_ret2
  exact ⟨rfl, rfl⟩
set_option maxRecDepth 100000 in
theorem find_no (w : World) (g m : Nat) (n : Int) (h0 : w.cell? ⟨g, 0, none⟩ = some (.map (some m))) (h8 : w.cell? ⟨g, 8, none⟩ = some (.bool false)) (HL : (Instr.lookup 132 (.map (some m)) (.int .i64 n) false).run Try.prog w = .ok (.pointer none) w) :
    Calls Try.prog 82 #[.pointer (some ⟨g, 0, none⟩), .int .i64 n] w fun e w' => e = .returned (.tuple #[.pointer none, .int .i64 9]) ∧ w' = w := by
  replace HL := Aside.mk HL
  go_enter Try.func82, Try.ntmps82
  go_wp2_with ((with_reducible refine gate (.lookup 132 (.tmp 18) (.tmp 19) false) rfl ?_); refine lk (by simp [Region.wanted]) 132 (.tmp 18) (.tmp 19) rfl _ _ _ rfl rfl HL.out ?_)
  go_ret2
  exact ⟨rfl, rfl⟩
set_option maxRecDepth 100000 in
theorem find_yes (w : World) (g m f : Nat) (n : Int) (h0 : w.cell? ⟨g, 0, none⟩ = some (.map (some m))) (h8 : w.cell? ⟨g, 8, none⟩ = some (.bool false)) (HL : (Instr.lookup 132 (.map (some m)) (.int .i64 n) false).run Try.prog w = .ok (.pointer (some ⟨f, 0, none⟩)) w) :
    Calls Try.prog 82 #[.pointer (some ⟨g, 0, none⟩), .int .i64 n] w fun e w' => e = .returned (.tuple #[.pointer (some ⟨f, 0, none⟩), .int .i64 0]) ∧ w' = w := by
  replace HL := Aside.mk HL
  go_enter Try.func82, Try.ntmps82
  go_wp2_with ((with_reducible refine gate (.lookup 132 (.tmp 18) (.tmp 19) false) rfl ?_); refine lk (by simp [Region.wanted]) 132 (.tmp 18) (.tmp 19) rfl _ _ _ rfl rfl HL.out ?_)
  go_ret2
  exact ⟨rfl, rfl⟩

set_option maxRecDepth 100000 in
theorem step_any (w : World) (g st : Nat) (hst : st < 1000000) (h6 : w.cell? ⟨g, 6, none⟩ = some (.int .i64 st)) (h7 : w.cell? ⟨g, 7, none⟩ = some (.int .i64 (-1))) (hz : w.frozen? ⟨g, 6, none⟩ = false) :
    Calls Try.prog 83 #[.pointer (some ⟨g, 0, none⟩)] w fun e w' => e = .returned (.bool true) ∧ w' = w.setCell ⟨g, 6, none⟩ (.int .i64 (st + 1)) := by
  have hwr : IntKind.i64.wrap ((st : Int) + 1) = (st : Int) + 1 := by simp [IntKind.wrap, IntKind.bits, IntKind.signed]; omega
  go_enter Try.func83, Try.ntmps83
  go_wp2
  go_ret
  exact ⟨rfl, rfl⟩

def blk (n : Nat) : Nat := 1 + (n + 63) / 64
set_option maxRecDepth 100000 in
theorem blocks_any (w : World) (n : Nat) (hn : n ≤ 1000000000) : Calls Try.prog 84 #[.int .i64 n] w fun e w' => e = .returned (.int .i64 (blk n : Nat)) ∧ w' = w := by
  go_enter Try.func84, Try.ntmps84
  go_wp2
  go_ret
  refine ⟨?_, rfl⟩
  unfold blk
  simp [Int.tdiv_eq_ediv_of_nonneg]
  go_num

set_option maxRecDepth 100000 in
theorem dnew_any (w : World) (h c : Nat) (hh : h ≤ 1048576) (hc : c ≤ 1048576) : Calls Try.prog 23 #[.int .i64 h, .int .i64 c] w fun e w' => e = .returned (.tuple #[.pointer (some ⟨w.heap.size + 1, 0, none⟩), .int .i64 0]) ∧
    isD w' (w.heap.size + 1) w.heap.size h c 0 0 0 0 (-1) false ∧ isM w' w.heap.size #[] 0 ∧ Fr (fun _ => False) w w' := by
  have hmm := @run_makeMap Try.prog
  have q1 : decide ((h : Int) < 0) = false := by simp
  have q2 : decide ((c : Int) < 0) = false := by simp
  have q3 : decide ((1048576 : Int) < (h : Int)) = false := by simp; omega
  have q4 : decide ((1048576 : Int) < (c : Int)) = false := by simp; omega
  go_enter Try.func23, Try.ntmps23
  go_wp2
  go_ret2
  refine ⟨rfl, ?_, ?_, ((Fr.refl _ w).alloc _).alloc _⟩
  · have hq := heap_new (w.alloc (.map #[] 0)) (.cells #[.map (some w.heap.size), .int .i64 h, .int .i64 c, .int .i64 0, .int .i64 0, .int .i64 0, .int .i64 0, .int .i64 (-1), .bool false] 135)
    rw [World.size_alloc] at hq; exact hq
  · exact (Below.heap_alloc (w.alloc _) _ _ (by simp)).trans (heap_new w _)

section
variable {w : World} {g m h c uh uc root st : Nat} {fuse : Int} {down : Bool}
theorem isD.c0 (H : isD w g m h c uh uc root st fuse down) : w.cell? ⟨g, 0, none⟩ = some (.map (some m)) := heap_cell H 0
theorem isD.c1 (H : isD w g m h c uh uc root st fuse down) : w.cell? ⟨g, 1, none⟩ = some (.int .i64 h) := heap_cell H 1
theorem isD.c2 (H : isD w g m h c uh uc root st fuse down) : w.cell? ⟨g, 2, none⟩ = some (.int .i64 c) := heap_cell H 2
theorem isD.c3 (H : isD w g m h c uh uc root st fuse down) : w.cell? ⟨g, 3, none⟩ = some (.int .i64 uh) := heap_cell H 3
theorem isD.c4 (H : isD w g m h c uh uc root st fuse down) : w.cell? ⟨g, 4, none⟩ = some (.int .i64 uc) := heap_cell H 4
theorem isD.c6 (H : isD w g m h c uh uc root st fuse down) : w.cell? ⟨g, 6, none⟩ = some (.int .i64 st) := heap_cell H 6
theorem isD.c7 (H : isD w g m h c uh uc root st fuse down) : w.cell? ⟨g, 7, none⟩ = some (.int .i64 fuse) := heap_cell H 7
theorem isD.c8 (H : isD w g m h c uh uc root st fuse down) : w.cell? ⟨g, 8, none⟩ = some (.bool down) := heap_cell H 8
end

set_option maxRecDepth 100000 in
theorem make_nil (w : World) (t n : Int) : Calls Try.prog 24 #[.pointer none, .int .i64 t, .int .i64 n] w fun e w' => e = .returned (.int .i64 8) ∧ w' = w := by
  have HF := Aside.mk (fun W => find_nil W n)
  go_enter Try.func24, Try.ntmps24
  go_wp2_with fail
  refine (HF.out _).mono ?_
  rintro e w1 ⟨rfl, rfl⟩
  go_wp2
  go_ret
  exact ⟨rfl, rfl⟩

set_option maxHeartbeats 1600000 in
set_option maxRecDepth 100000 in
theorem make_full (w : World) (g m h c uc root st : Nat) (n : Int) (hn : 1 ≤ n) (H : isD w g m h c h uc root st (-1) false) (HL : (Instr.lookup 132 (.map (some m)) (.int .i64 n) false).run Try.prog w = .ok (.pointer none) w) :
    Calls Try.prog 24 #[.pointer (some ⟨g, 0, none⟩), .int .i64 0, .int .i64 n] w fun e w' => e = .returned (.int .i64 7) ∧ Fr (fun _ => False) w w' := by
  have HF := Aside.mk (find_no w g m n H.c0 H.c8 HL)
  have h1 := H.c1
  have h3 := H.c3
  have q1 : decide (n < 1) = false := by simp; omega
  clear HL H
  go_enter Try.func24, Try.ntmps24
  go_wp2_with fail
  refine HF.out.mono ?_
  rintro e w1 ⟨rfl, rfl⟩
  go_wp2_with fail
  go_quiet (fail)
  go_wp2
  go_ret
  exact ⟨rfl, (Fr.refl _ _).drewN _⟩

set_option maxHeartbeats 1600000 in
set_option maxRecDepth 100000 in
theorem make_ok (w : World) (g m h c uh uc root st : Nat) (n : Int) (hn : 1 ≤ n) (hu : uh < h) (hh : h ≤ 1048576) (hst : st < 1000000) (H : isD w g m h c uh uc root st (-1) false) (HM : isM w m #[] 0) :
    Calls Try.prog 24 #[.pointer (some ⟨g, 0, none⟩), .int .i64 0, .int .i64 n] w fun e w' => e = .returned (.int .i64 0) ∧ isD w' g m h c (uh + 1) uc root (st + 1) (-1) false ∧
      isM w' m #[⟨.int .i64 n, .pointer (some ⟨w.heap.size, 0, none⟩), 0⟩] 1 ∧ w'.heap[w.heap.size]? = some (.cells #[.int .i64 0, .slice none 0 0, .int .i64 (-1)] 140 (0, 0)) ∧ Fr (fun k => k = g ∨ k = m) w w' := by
  have HF := Aside.mk (find_no w g m n H.c0 H.c8 (lk_empty w m 0 n HM))
  have HS := Aside.mk (fun W q6 q7 qz => step_any W g st hst q6 q7 qz)
  have h1 := H.c1
  have h3 := H.c3
  have HD := Aside.mk H
  have HMM := Aside.mk HM
  have hgm : g ≠ m := by
    rintro rfl
    have := H.symm.trans HM
    simp at this
  have q1 : decide (n < 1) = false := by simp; omega
  have q2 : ((uh : Int) == (h : Int)) = false := by simp; omega
  have hne : ¬ (uh : Int) = (h : Int) := by omega
  clear HM H
  go_enter Try.func24, Try.ntmps24
  go_wp2_with fail
  refine HF.out.mono ?_
  rintro e w1 ⟨rfl, rfl⟩
  go_wp2_with fail
  go_quiet (fail)
  go_wp2_with fail
  have HD2 : Aside (isD (w1.drewN nq) g m h c uh uc root st (-1) false) := ⟨HD.out⟩
  have HM2 : Aside (isM (w1.drewN nq) m #[] 0) := ⟨HMM.out⟩
  have HF2 : Aside (Fr (fun k => k = g ∨ k = m) w1 (w1.drewN nq)) := ⟨(Fr.refl _ _).drewN _⟩
  have hsz2 : (w1.drewN nq).heap.size = w1.heap.size := rfl
  clear h1 h3 HF HD HMM
  generalize w1.drewN nq = W at *
  refine (HS.out W HD2.out.c6 HD2.out.c7 (heap_frozen HD2.out 6)).mono ?_
  rintro e W1 ⟨rfl, hW1⟩
  have HD3 : Aside (isD W1 g m h c uh uc root (st + 1) (-1) false) := ⟨by
    have q := heap_set HD2.out 6 (.int .i64 ((st : Int) + 1))
    rw [← hW1] at q; exact q⟩
  have hfr : Fr (fun k => k = g) W W1 := by rw [hW1]; exact (Fr.refl (fun k => k = g) W).setCell (p := ⟨g, 6, none⟩) (fun _ => rfl) _
  have HM3 : Aside (isM W1 m #[] 0) := ⟨hfr.heap HM2.out (fun q => hgm q.symm)⟩
  have HF3 := Aside.mk (HF2.out.trans hfr (fun b _ q => .inl q))
  have hsz3 : Aside (W1.heap.size = w1.heap.size) := ⟨by rw [hW1, ← hsz2]; simp [World.setCell]⟩
  clear hW1 hfr hsz2
  have HMA : Aside (isM (W1.alloc (.cells #[.int .i64 0, .slice none 0 0, .int .i64 (-1)] 140)) m #[] 0) := ⟨(Below.heap_alloc W1 _ _ (lt_of_heap HM3.out)).trans HM3.out⟩
  obtain ⟨W2, HMU, HMT⟩ : ∃ W2, Aside ((Instr.mapUpdate 132 (.map (some m)) (.int .i64 n) (.pointer (some ⟨W1.heap.size, 0, none⟩))).run Try.prog (W1.alloc (.cells #[.int .i64 0, .slice none 0 0, .int .i64 (-1)] 140)) = .ok () W2) ∧
      Aside (isM W2 m #[⟨.int .i64 n, .pointer (some ⟨W1.heap.size, 0, none⟩), 0⟩] 1 ∧ Fr (fun k => k = m) (W1.alloc (.cells #[.int .i64 0, .slice none 0 0, .int .i64 (-1)] 140)) W2) := ⟨_, ⟨mu_empty _ m 0 n (.pointer (some ⟨W1.heap.size, 0, none⟩)) HMA.out⟩, ⟨putM_at HMA.out _ 1⟩⟩
  have hmlt := lt_of_heap HM3.out
  have hglt := lt_of_heap HD3.out
  have HDA : Aside (isD (W1.alloc (.cells #[.int .i64 0, .slice none 0 0, .int .i64 (-1)] 140)) g m h c uh uc root (st + 1) (-1) false) := ⟨(Below.heap_alloc W1 _ _ (lt_of_heap HD3.out)).trans HD3.out⟩
  have HDT := Aside.mk (HMT.out.2.heap HDA.out hgm)
  have HFA := Aside.mk (heap_new W1 (.cells #[.int .i64 0, .slice none 0 0, .int .i64 (-1)] 140))
  have HFT := Aside.mk (HMT.out.2.heap HFA.out (by omega))
  have HF4 := Aside.mk ((HF3.out.alloc (.cells #[.int .i64 0, .slice none 0 0, .int .i64 (-1)] 140)).trans HMT.out.2 (fun b _ q => .inr q))
  have hc0 := HD3.out.c0
  have hc3 := isD.c3 HDT.out
  have hz3 := heap_frozen HDT.out 3
  have hwr : IntKind.i64.wrap ((uh : Int) + 1) = (uh : Int) + 1 := by simp [IntKind.wrap, IntKind.bits, IntKind.signed]; omega
  go_wp2_with ((with_reducible refine gate (.mapUpdate 132 (.tmp 54) (.tmp 55) (.tmp 58)) rfl ?_); refine mu rfl rfl 132 (.tmp 54) (.tmp 55) (.tmp 58) rfl _ _ _ rfl rfl rfl _ HMU.out ?_)
  go_region_with (fail)
  go_wp2
  go_ret
  have hfs : Fr (fun k => k = g) W2 (W2.setCell ⟨g, 3, none⟩ (.int .i64 ((uh : Int) + 1))) := (Fr.refl (fun k => k = g) W2).setCell (p := ⟨g, 3, none⟩) (fun _ => rfl) _
  refine ⟨rfl, heap_set HDT.out 3 _, ?_, ?_, ?_⟩
  · have hq := hfs.heap HMT.out.1 (fun q => hgm q.symm)
    rw [hsz3.out] at hq; exact hq
  · have hq := hfs.heap HFT.out (by omega)
    rw [hsz3.out] at hq; exact hq
  · exact (HF4.out.trans hfs (fun b _ q => .inl q)).drew

set_option maxRecDepth 100000 in
theorem dread_nil (w : World) (n a k : Int) : Calls Try.prog 39 #[.pointer none, .int .i64 n, .int .i64 a, .int .i64 k] w fun e w' => e = .returned (.tuple #[.string ⟨#[]⟩, .int .i64 8]) ∧ w' = w := by
  have HF := Aside.mk (fun W => find_nil W n)
  go_enter Try.func39, Try.ntmps39
  go_wp2_with fail
  refine (HF.out _).mono ?_
  rintro e w1 ⟨rfl, rfl⟩
  go_wp2
  go_ret2
  exact ⟨rfl, rfl⟩

set_option maxHeartbeats 1600000 in
set_option maxRecDepth 100000 in
theorem dadd_full (w : World) (g m f h c uc root st : Nat) (n : Int) (s : ByteArray) (hs : 0 < s.size) (hs2 : s.size ≤ 1000000000) (H : isD w g m h c h uc root st (-1) false) (hf0 : w.cell? ⟨f, 0, none⟩ = some (.int .i64 0)) (hf1 : w.cell? ⟨f, 1, none⟩ = some (.slice none 0 0))
    (HL : (Instr.lookup 132 (.map (some m)) (.int .i64 n) false).run Try.prog w = .ok (.pointer (some ⟨f, 0, none⟩)) w) :
    Calls Try.prog 25 #[.pointer (some ⟨g, 0, none⟩), .int .i64 n, .string s] w fun e w' => e = .returned (.int .i64 7) ∧ ∃ k, w' = w.drewN k := by
  have HF := Aside.mk (find_yes w g m f n H.c0 H.c8 HL)
  have HB1 := Aside.mk (fun W => blocks_any W s.size hs2)
  have HB0 := Aside.mk (fun W => blocks_any W 0 (by omega))
  have hB : ∃ M : Nat, 0 < M ∧ blk s.size = M + 1 ∧ M ≤ 1000000001 := ⟨(s.size + 63) / 64, by omega, by unfold blk; omega, by omega⟩
  obtain ⟨M, hM, hBM, hM2⟩ := hB
  rw [hBM] at HB1
  rw [show blk 0 = 1 from rfl] at HB0
  have h1 := H.c1
  have h3 := H.c3
  have w1 : IntKind.i64.wrap (s.size : Int) = s.size := by simp [IntKind.wrap, IntKind.bits, IntKind.signed]; omega
  have w1' : IntKind.i64.wrap (0 + (s.size : Int)) = s.size := by simp [IntKind.wrap, IntKind.bits, IntKind.signed]; omega
  have w2 : IntKind.i64.wrap (((M + 1 : Nat) : Int) - 1) = M := by simp [IntKind.wrap, IntKind.bits, IntKind.signed]; omega
  have w2' : IntKind.i64.wrap ((M : Int) + 1 - 1) = M := by simp [IntKind.wrap, IntKind.bits, IntKind.signed]; omega
  have w2'' : IntKind.i64.wrap (M : Int) = M := by simp [IntKind.wrap, IntKind.bits, IntKind.signed]; omega
  have w3 : IntKind.i64.wrap ((h : Int) - (h : Int)) = 0 := by simp [IntKind.wrap, IntKind.bits, IntKind.signed]
  have q1 : decide ((0 : Int) < (M : Int)) = true := by simp; omega
  clear HL H hBM
  go_enter Try.func25, Try.ntmps25
  go_wp2_with fail
  refine HF.out.mono ?_
  rintro e w1 ⟨rfl, rfl⟩
  go_wp2_with fail
  go_quiet (first | (go_at_call 84; refine Calls.quiet_of_same (HB1.out _)) | (go_at_call 84; refine Calls.quiet_of_same (HB0.out _)))
  go_wp2_with fail
  go_quiet (fail)
  go_wp2
  go_ret
  exact ⟨rfl, _, drewN2 _ _ _⟩
end Go.Proofs.Ytodhkdmkkjhnnaa
