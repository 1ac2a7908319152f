/- The walk of silolaw17.BoxReads on its three ways. Printed by gen_reads.py. -/
import Derived.Test.YtodhkdmkkjhnnaaReads
import Derived.Test.YtodhkdmkkjhnnaaRefOpen
import Derived.Test.YtodhkdmkkjhnnaaTurned
import Derived.Test.YtodhkdmkkjhnnaaDiskRd
import Derived.Test.YtodhkdmkkjhnnaaLk
import Derived.Deep.RegionHeld3
import Derived.Deep.MidRow
set_option linter.unusedVariables false
set_option linter.unusedSimpArgs false
namespace Go.Proofs.Ytodhkdmkkjhnnaa
open Go.RowKit

def OA (T : List UInt8) (r : Rec) (e : Nat) : Prop := ∀ W, Calls Try.prog 20 #[.string ⟨T.toArray⟩] W fun e1 w' => e1 = .returned (.tuple #[recV r, .int .i64 (e : Nat)]) ∧ Fr (fun _ => False) W w'
def OB (T : List UInt8) (r : Rec) (e : Nat) : Prop := ∀ W, Calls Try.prog 21 #[.string ⟨T.toArray⟩] W fun e1 w' => e1 = .returned (.tuple #[recV r, .int .i64 (e : Nat)]) ∧ Fr (fun _ => False) W w'
def PK (r : Rec) (T : List UInt8) (f : Nat) : Prop := ∀ W, Calls Try.prog 18 #[recV r] W fun e1 w' => e1 = .returned (.tuple #[.string ⟨T.toArray⟩, .int .i64 (f : Nat)]) ∧ Fr (fun _ => False) W w'

theorem yi_ld {T : Nat} (hT : RecT T) {ops : Array Oper} {S : World → Prop} {o : Oper} {a : Act} (hw : Region.wanted o (yielded ops a.tmps) = true) (x : Operand) (ho : o.op = .load T x) (g : Nat) (r : Rec) (u : Value) (hu : recV r = u) (hx : a.eval x = .pointer (some ⟨g, 0, none⟩))
    (hS : ∀ w, S w → isRec T w g r) : YieldsIf Try.prog ops S o u a := .inl ⟨hw, fun w hw' => by
  obtain ⟨d, hun, hd⟩ := hT.under
  have hr := hS w hw'
  have hl := run_loadVar_part w g 0 66 T T _ _ d hr.1 hun hd hT.info (by simp [recL_len hr.2])
  rw [List.drop_zero, List.take_of_length_le (by simp [recL_len hr.2]), Array.toArray_toList] at hl
  unfold execOp
  simp only [ho, hx, Instr.loadAt, Instr.sureAddr, Sem.run_bind, Sem.run_pure, Result.andThen_ok, hl]
  rw [← hu]; rfl⟩

theorem st_op {T : Nat} (hT : RecT T) {o : Oper} {a : Act} {w : World} {K : Act → World → Prop} {Q : Exit → Act → World → Prop} (hN : o.dst = none) (x v : Operand) (ho : o.op = .store T x v) (g : Nat) (r q : Rec) (u : Value) (hx : a.eval x = .pointer (some ⟨g, 0, none⟩)) (hv : a.eval v = u) (hu : u.cells = (recL q).toArray) (hq : q.Ok) (hr : isRec T w g r)
    (h : ∀ w', isRec T w' g q → Fr (fun k => k = g) w w' → K a w') : Oper.wp Try.prog o a w K Q := by
  obtain ⟨i, hi, hsz⟩ := Option.map_eq_some_iff.1 hT.info
  have hc : u.cells.size = i.size := by rw [hsz, hu, List.size_toArray, recL_len hq]
  have hst := run_storeCells_at Try.prog g 0 T (recL q) 0 (recL r).toArray w hr.1 (by simp [recL_len hr.2, recL_len hq]) (recL_one q)
  have hrun : (Instr.storeAt T (.pointer (some ⟨g, 0, none⟩)) u).run Try.prog w = .ok () (w.setRow g (((recL r).toArray.toList.take 0) ++ recL q ++ ((recL r).toArray.toList.drop (0 + (recL q).length))).toArray) := by
    have hul : u.cells.toList = recL q := by rw [hu]
    simp only [Nat.add_zero] at hst
    simp [Instr.storeAt, Instr.sureAddr, storeVar, sizeOf, typeInfo, hi, hc, hul]
    simpa using hst
  unfold Oper.wp execOp
  simp only [ho, hx, hv, Sem.run_bind, Sem.run_pure, Result.andThen_ok, hrun]
  show K (a.put o.dst undef) _
  rw [hN]
  refine h _ ⟨?_, hq⟩ ⟨rfl, rfl, rfl, by simp, fun k _ hk => setRow_other w g k _ hk⟩
  rw [setRow_heap w g (recL r).toArray _ T (0, 0) hr.1, recL_setAll hr.2 hq]

theorem build_none (W : World) : (Instr.build 30 #[]).run Try.prog W = .ok (recV Rec.zero) W := by
  refine run_build recB_box _ _ ?_ W
  rw [← recLit_eq]
  rfl
theorem Try.guard_box : Try.prog.eqGuardType Try.prog.depth 30 = false := by kernel_rfl
theorem Try.stood_box : Try.prog.stoodInHeld 30 = false := by kernel_rfl
theorem Try.fields_box : Try.prog.underlying 30 = some (.struct (Try.prog.fieldsOf 30)) := by kernel_rfl
set_option maxRecDepth 100000 in
theorem nq_rec {ops : Array Oper} {rest : List Oper} {o : Oper} {a : Act} {w : World} {Q : Exit → Act → World → Prop} (hw : Region.wanted o (yielded ops a.tmps) = true) (x y : Operand) (t : Nat) (ho : o.op = .binOp .neq 30 x y t) (r q : Rec) (hr : r.Ok) (hq : q.Ok) (hx : a.eval x = recV r) (hy : a.eval y = recV q) (h : wpList Try.prog ops Q rest (a.put o.dst (.bool (!decide (r = q)))) w) : wpList Try.prog ops Q (o :: rest) a w := by
  refine wpList_step fun K hK => ?_
  rw [if_pos hw]
  have he : (Op.equalIn 10000 30 (.agg (recL r).toArray) (.agg (recL q).toArray)).run Try.prog w = .ok (decide (r = q)) w := by
    rw [run_equalIn_agg (P := Try.prog) w 9999 30 _ _ Try.fields_box Try.stood_box]
    exact eq_rec 9997 r q w hr hq
  unfold Oper.wp execOp
  unfold recV at hx hy
  simp only [ho, hx, hy, Sem.run_bind, Sem.run_pure, Result.andThen_ok, run_eqGuard_agg (P := Try.prog) w .neq 30 x y _ _ Try.guard_box, run_neq_struct, he]
  exact hK _ _ h

theorem to_bytes {ops : Array Oper} {rest : List Oper} {o : Oper} {a : Act} {w : World} {Q : Exit → Act → World → Prop} (hgd : o.guard = none) (x : Operand) (ho : o.op = .convert 9 80 x) (l : List UInt8) (hx : a.eval x = .string ⟨l.toArray⟩)
    (h : ∀ c C w1, C.toList.take l.length = l.map byt → l.length ≤ C.size → w1.heap[w.heap.size]? = some (.cells C 5 (C.size, C.size + 1)) → Fr (fun _ => False) w w1 → wpList Try.prog ops Q rest (a.put o.dst (.slice (some ⟨w.heap.size, 0, none⟩) l.length c)) w1) : wpList Try.prog ops Q (o :: rest) a w := by
  refine wpList_plain hgd fun K hK => ?_
  have hr := run_bytes_of_string w 9 80 5 ⟨l.toArray⟩ Try.underlying9 Try.underlying80 Try.underlying5
  have hn : (ByteArray.mk l.toArray).size = l.length := by simp [ByteArray.size]
  rw [hn] at hr
  unfold Oper.wp execOp
  simp only [ho, hx, Sem.run_bind, Sem.run_pure, Result.andThen_ok, hr]
  refine hK _ _ (h _ (bytesRow ⟨l.toArray⟩ (grownCap w l.length 0 5)) _ ?_ ?_ (heap_new w.drew _) ?_)
  · have e : (bytesRow ⟨l.toArray⟩ (grownCap w l.length 0 5)).toList = l.map byt ++ List.replicate (grownCap w l.length 0 5 - l.length) (.int .u8 0) := by
      unfold bytesRow; rw [hn]; simp; intros; rfl
    rw [e, List.take_left']; simp
  · unfold bytesRow; simp
  · exact ((Fr.refl (fun _ => False) w).drew).alloc _

theorem cv_op {ops : Array Oper} {rest : List Oper} {o : Oper} {a : Act} {w : World} {Q : Exit → Act → World → Prop} (hgd : o.guard = none) (x : Operand) {s t : Nat} (ho : o.op = .convert s t x) (u v : Value) (hx : a.eval x = u)
    (hr : (convert s t u).run Try.prog w = .ok v w) (h : wpList Try.prog ops Q rest (a.put o.dst v) w) : wpList Try.prog ops Q (o :: rest) a w := by
  refine wpList_plain hgd fun K hK => ?_
  unfold Oper.wp execOp
  simp only [ho, hx, Sem.run_bind, Sem.run_pure, Result.andThen_ok, hr]
  exact hK _ _ h
theorem rem_op {ops : Array Oper} {rest : List Oper} {o : Oper} {a : Act} {w : World} {Q : Exit → Act → World → Prop} (hgd : o.guard = none) (x y : Operand) {t u : Nat} (ho : o.op = .binOp .rem t x y u) (m : Int) (n i : Nat) (hx : a.eval x = .int .u64 m) (hy : a.eval y = .int .u64 (n : Int)) (hn : n ≠ 0) (hm : m.tmod (n : Int) = (i : Int))
    (h : wpList Try.prog ops Q rest (a.put o.dst (.int .u64 (i : Int))) w) : wpList Try.prog ops Q (o :: rest) a w := by
  refine wpList_plain hgd fun K hK => ?_
  have hr : (binOp .rem t (.int .u64 m) (.int .u64 (n : Int))).run Try.prog w = .ok (.int .u64 (i : Int)) w := by
    have hn2 : ¬ (n : Int) = 0 := by omega
    simp [binOp, Op.intDiv, hn2, hn, hm]
  unfold Oper.wp execOp
  simp [ho, hx, hy, eqGuard, Sem.run_bind, Sem.run_pure, Result.andThen_ok, hr]
  exact hK _ _ h
theorem xor_op {ops : Array Oper} {rest : List Oper} {o : Oper} {a : Act} {w : World} {Q : Exit → Act → World → Prop} (hgd : o.guard = none) (x y : Operand) {t u : Nat} (ho : o.op = .binOp .xor t x y u) (c d : UInt8) (n : Int) (hx : a.eval x = .int .u8 (c.toNat : Int)) (hy : a.eval y = .int .u8 n) (hd : bits .xor .u8 (c.toNat : Int) n = (d.toNat : Int))
    (h : wpList Try.prog ops Q rest (a.put o.dst (.int .u8 (d.toNat : Int))) w) : wpList Try.prog ops Q (o :: rest) a w := by
  refine wpList_plain hgd fun K hK => ?_
  have hr : (binOp .xor t (.int .u8 (c.toNat : Int)) (.int .u8 n)).run Try.prog w = .ok (.int .u8 (d.toNat : Int)) w := by
    rw [binOp_xor]; rw [← hd]; simp [Op.intBits, bits]
  unfold Oper.wp execOp
  simp [ho, hx, hy, eqGuard, Sem.run_bind, Sem.run_pure, Result.andThen_ok, hr]
  exact hK _ _ h
theorem w64_small (i : Nat) (h : i < 1000000) : wrap64 (i : Int) = (i : Int) := by unfold wrap64; omega
theorem cv_back (i : Nat) (h : i < 1000000) (w : World) : (convert 81 3 (.int .u64 (i : Int))).run Try.prog w = .ok (.int .i64 (i : Int)) w := by
  simp [convert, run_underlying Try.underlying81, run_underlying Try.underlying3, Conv.intToInt]
  simp [IntKind.wrap, IntKind.bits, IntKind.signed]; omega
theorem u64_small (i : Nat) (h : i ≤ 1000000) : IntKind.u64.wrap (i : Int) = (i : Int) := by simp [IntKind.wrap, IntKind.bits, IntKind.signed]; omega

/-- How the law ends: the packing turned at a byte is no record. -/
def Tail (P : List UInt8) (at_ y : Int) : Prop := P = [] ∨ (P ≠ [] ∧ y = 0) ∨ ∃ i c d, P ≠ [] ∧ y ≠ 0 ∧ i < P.length ∧ P[i]? = some c ∧ (IntKind.u64.wrap at_).tmod (P.length : Int) = (i : Int) ∧ bits .xor .u8 (c.toNat : Int) y = ((d : UInt8).toNat : Int) ∧ OA (P.set i d) Rec.zero 4

set_option maxHeartbeats 12800000 in
set_option maxRecDepth 100000 in
theorem reads_none (w : World) (r : Rec) (hr : r.Ok) (S P : List UInt8)  (n a k at_ y : Int) (pf : Nat) (hb : ¬ 30000 < r.body.length) (hs : ¬ 30000 < S.length) (hP : P.length ≤ 20000) (HPK : PK r P pf) (hn : n ≠ 1) (HTL : Tail P at_ y) : RdCall w r ⟨S.toArray⟩ n a k at_ y := by
  unfold RdCall
  have HI : Aside (isRec 25 ((w.alloc (.cells (recL r).toArray 25)).alloc (.cells #[.int .i64 n, .int .i64 a, .int .i64 k] 78)) w.heap.size r) := ⟨(isRec.new 25 w r hr).keep ((Fr.refl (fun _ => False) _).alloc _) id⟩
  have HG : Aside (((w.alloc (.cells (recL r).toArray 25)).alloc (.cells #[.int .i64 n, .int .i64 a, .int .i64 k] 78)).heap[w.heap.size + 1]? = some (.cells #[.int .i64 n, .int .i64 a, .int .i64 k] 78 (0, 0))) := ⟨by
    have q := heap_new (w.alloc (.cells (recL r).toArray 25)) (.cells #[.int .i64 n, .int .i64 a, .int .i64 k] 78)
    rw [World.size_alloc] at q; exact q⟩
  have HF0 : Aside (Fr (fun _ => False) w ((w.alloc (.cells (recL r).toArray 25)).alloc (.cells #[.int .i64 n, .int .i64 a, .int .i64 k] 78))) := ⟨((Fr.refl _ w).alloc _).alloc _⟩
  have h64 := recL_patch hr
  have h65 := recL_body hr
  have HA := Aside.mk (fun W => awake_any W)
  have hbs : (ByteArray.mk r.body.toArray).size = r.body.length := by simp [ByteArray.size]
  have hss : (ByteArray.mk S.toArray).size = S.length := by simp [ByteArray.size]
  have hps : (ByteArray.mk P.toArray).size = P.length := by simp [ByteArray.size]
  have q1 : decide ((30000 : Int) < (r.body.length : Int)) = false := by simp; omega
  have q2 : decide ((30000 : Int) < (S.length : Int)) = false := by simp; omega
  have hcat : ByteArray.mk P.toArray ++ ⟨S.toArray⟩ = ⟨(P ++ S).toArray⟩ := by rw [ByteArray.mk_append_mk]
  have hs0 : S.length ≤ 30000 := by omega
  have HDN := Aside.mk (fun W => dnew_any W 2000 0 (by omega) (by omega))
  have HT := Aside.mk HTL
  have HPKV := Aside.mk HPK
  unfold PK at HPKV
  unfold recV at *
  generalize hL : recL r = L at *
  have HV : Aside (recV r = .agg L.toArray) := ⟨by rw [recV, hL]⟩
  generalize r.body.length = nb at *
  clear hL hb hs HPK HTL
  go_enter Try.func8, Try.ntmps8
  go_wp2_with fail
  refine (HA.out _).mono ?_
  rintro e w1 ⟨rfl, hf⟩
  have HF1 := Aside.mk (HF0.out.trans hf (fun _ _ q => q))
  have HI1 := Aside.mk (HI.out.keep hf id)
  have HG1 := Aside.mk (hf.heap HG.out id)
  clear hf HI HG
  have hbd := HI1.out.body
  go_wp2_with ((with_reducible refine gate (.load 25 (.tmp 5)) rfl ?_); refine ld_all recT_ref (by simp [Region.wanted]) (.tmp 5) rfl w.heap.size r rfl HI1.out ?_; rw [HV.out])
  refine (HPKV.out _).mono ?_
  rintro e w2 ⟨rfl, hf⟩
  have HF2 := Aside.mk (HF1.out.trans hf (fun _ _ q => q))
  have HG2 := Aside.mk (hf.heap HG1.out id)
  clear hf HI1 HG1 hbd HPKV
  go_wp2_with fail
  refine (HDN.out _).mono ?_
  rintro e w3 ⟨rfl, hD, hM, hf⟩
  have HF3 := Aside.mk (HF2.out.trans hf (fun _ _ q => q))
  have HG3 := Aside.mk (hf.heap HG2.out id)
  have hs2 := HF2.out.size
  have hg2 := lt_of_heap HG2.out
  have HMK := Aside.mk (make_ok w3 (w2.heap.size + 1) w2.heap.size 2000 0 0 0 0 0 1 (by omega) (by omega) (by omega) (by omega) hD hM)
  have hlm := lt_of_heap hD
  clear hD hM hf HDN HG2
  generalize hg : w2.heap.size + 1 = g at *
  generalize hm : w2.heap.size = m at *
  go_wp2_with fail
  refine HMK.out.mono ?_
  rintro e w4 ⟨rfl, hD, hM, hfl, hf⟩
  have HF4 := Aside.mk (HF3.out.trans hf (fun b hb q => by omega))
  have HG4 := Aside.mk (hf.heap HG3.out (fun q => by omega))
  have hs4 := hf.size
  have has : (ByteArray.mk (P ++ S).toArray).size = P.length + S.length := by simp [ByteArray.size]
  have hAD := dadd_ok w4 g m w3.heap.size 2000 0 (0 + 1) 0 0 (0 + 1) 1 (-1) (.slice none 0 0) [] ⟨(P ++ S).toArray⟩ (by rw [has]; simp; omega) (by omega) (by omega) (by omega) (by rw [has]; simp [blk]; omega) hD ⟨hfl, OwnB.nil _⟩ (by omega) (fun k hk => by simp [own, Value.ownBlock] at hk) (lk_yes w4 m 1 0 1 _ hM)
  rw [has] at hAD
  have HAD := Aside.mk hAD
  have HM4 := Aside.mk hM
  have hown : ∀ b, ¬ own (.slice none 0 0) b := fun b q => by simp [own, Value.ownBlock] at q
  have HOWN := Aside.mk hown
  clear hD hM hfl hf hAD hown
  go_wp2_with fail
  refine HAD.out.mono ?_
  rintro e w5 ⟨rfl, v, hD, hI, hv, hf⟩
  simp only [List.nil_append] at hI
  have HF5 := Aside.mk (HF4.out.trans hf (fun b hb q => by
    rcases q with q | q | q
    · omega
    · omega
    · exact HOWN.out _ q))
  have HG5 := Aside.mk (hf.heap HG4.out (fun q => by
    rcases q with q | q | q
    · omega
    · omega
    · exact HOWN.out _ q))
  have HM5 := Aside.mk (hf.heap HM4.out (fun q => by
    rcases q with q | q | q
    · omega
    · omega
    · exact HOWN.out _ q))
  have HD5 := Aside.mk hD
  have HI5 := Aside.mk hI
  have hfa : Fr (fun _ => False) w5 ((w5.alloc (.cells #[.int .i64 n, .int .i64 a, .int .i64 k] 78)).alloc (.cells recLit 30)) := ((Fr.refl _ _).alloc _).alloc _
  have hDa := hfa.heap hD id
  have hMa := hfa.heap HM5.out id
  have hIa := HI5.out.keep hfa id (fun _ _ => id)
  have HBR := Aside.mk (bread_err w5 g n a k 9 (by omega) (dread_none _ g m n a k (isD.c0 hDa) (isD.c8 hDa) (lk_not _ m 1 0 n 1 _ hn hMa)))
  clear hD hI hv hf hfa hDa hMa hIa hg hm
  have p0 : w5.cell? ⟨w.heap.size + 1, 0, none⟩ = some (.int .i64 n) := heap_cell HG5.out 0
  have p1 : w5.cell? ⟨w.heap.size + 1, 1, none⟩ = some (.int .i64 a) := heap_cell HG5.out 1
  have p2 : w5.cell? ⟨w.heap.size + 1, 2, none⟩ = some (.int .i64 k) := heap_cell HG5.out 2
  go_wp2_with fail
  refine HBR.out.mono ?_
  rintro e w6 ⟨rfl, hf⟩
  have HF6 := Aside.mk (HF5.out.trans hf (fun _ _ q => q))
  have HG6 := Aside.mk (hf.heap HG5.out id)
  have HX6 := Aside.mk (isRec.fresh 30 w6 (.cells recLit 30) rfl)
  have HA6 := Aside.mk (HF6.out.alloc (.cells recLit 30))
  have HGa := Aside.mk (((Fr.refl (fun _ => False) w6).alloc (.cells recLit 30)).heap HG6.out id)
  have hs6 := HF6.out.size
  have hg6 := lt_of_heap HG6.out
  clear hf p0 p1 p2 HBR
  go_wp2_with ((with_reducible refine gate (.store 30 (.tmp 16) (.tmp 62)) rfl ?_); refine st_all recT_box rfl rfl (.tmp 16) (.tmp 62) rfl w6.heap.size _ Rec.zero (recV Rec.zero) rfl rfl rfl Rec.zero_ok HX6.out ?_)
  intro w7 hx hf
  have HX7 := Aside.mk hx
  have HF7 := Aside.mk (HA6.out.trans hf (fun b hb q => by have q2 : b = w6.heap.size := q; omega))
  have HG7 := Aside.mk (hf.heap HGa.out (by omega))
  have p0 : w7.cell? ⟨w.heap.size + 1, 0, none⟩ = some (.int .i64 n) := heap_cell HG7.out 0
  have p1 : w7.cell? ⟨w.heap.size + 1, 1, none⟩ = some (.int .i64 a) := heap_cell HG7.out 1
  have p2 : w7.cell? ⟨w.heap.size + 1, 2, none⟩ = some (.int .i64 k) := heap_cell HG7.out 2
  clear hx hf HG6 HGa HX6
  have hnb : (n == 1) = false := by simp [hn]
  have hnn : ¬ n = 1 := hn
  rcases HT.out with hT | ⟨hT, hy⟩ | ⟨i, c, d, hT, hy, hi, hc, hix, hxr, hO⟩
  · have hpz : ((P.length : Int) == 0) = true := by rw [hT]; rfl
    have hPe : P.isEmpty = true := by rw [hT]; rfl
    clear hT
    go_wp2_with (first
      | ((with_reducible refine gate (.load 30 (.tmp 16)) rfl ?_); refine ld_all recT_box (by simp [Region.wanted, yielded]) (.tmp 16) rfl w6.heap.size Rec.zero rfl HX7.out ?_) | ((with_reducible refine gate (.build 30 _) rfl ?_); refine bld (by simp [Region.wanted, yielded]) _ _ rfl #[] (recV Rec.zero) rfl build_none ?_) | ((with_reducible refine gate (.binOp .neq 30 (.tmp 91) (.tmp 92) 30) rfl ?_); refine nq_rec (by simp [Region.wanted, yielded]) (.tmp 91) (.tmp 92) _ rfl Rec.zero Rec.zero Rec.zero_ok Rec.zero_ok rfl rfl ?_; rw [decide_eq_true rfl]))
    go_ret
    exact ⟨rfl, HF7.out⟩
  · subst hy
    have hP0 : ¬ P.length = 0 := fun q => hT (List.eq_nil_of_length_eq_zero q)
    have hPe : P.isEmpty = false := by simpa using hT
    go_wp2_with (first
      | ((with_reducible refine gate (.load 30 (.tmp 16)) rfl ?_); refine ld_all recT_box (by simp [Region.wanted, yielded]) (.tmp 16) rfl w6.heap.size Rec.zero rfl HX7.out ?_) | ((with_reducible refine gate (.build 30 _) rfl ?_); refine bld (by simp [Region.wanted, yielded]) _ _ rfl #[] (recV Rec.zero) rfl build_none ?_) | ((with_reducible refine gate (.binOp .neq 30 (.tmp 91) (.tmp 92) 30) rfl ?_); refine nq_rec (by simp [Region.wanted, yielded]) (.tmp 91) (.tmp 92) _ rfl Rec.zero Rec.zero Rec.zero_ok Rec.zero_ok rfl rfl ?_; rw [decide_eq_true rfl]))
    go_ret
    exact ⟨rfl, HF7.out⟩
  · have hP0 : ¬ P.length = 0 := fun q => hT (List.eq_nil_of_length_eq_zero q)
    have hPe : P.isEmpty = false := by simpa using hT
    have hyb : (y == 0) = false := by simp [hy]
    have HTO := Aside.mk hO
    have HIX := Aside.mk hix
    have HXR := Aside.mk hxr
    have HPP := Aside.mk (And.intro hi hP)
    have hi1 : (i : Int) < (P.length : Int) := Int.ofNat_lt.2 hi
    unfold OA at HTO
    unfold recV at HTO
    clear hO hix hxr
    go_wp2_with (first
      | ((with_reducible refine gate (.convert 9 80 (.tmp 135)) rfl ?_); refine to_bytes rfl (.tmp 135) rfl P rfl ?_)
      | ((with_reducible refine gate (.load 30 (.tmp 16)) rfl ?_); refine ld_all recT_box (by simp [Region.wanted, yielded]) (.tmp 16) rfl w6.heap.size Rec.zero rfl HX7.out ?_) | ((with_reducible refine gate (.build 30 _) rfl ?_); refine bld (by simp [Region.wanted, yielded]) _ _ rfl #[] (recV Rec.zero) rfl build_none ?_) | ((with_reducible refine gate (.binOp .neq 30 (.tmp 91) (.tmp 92) 30) rfl ?_); refine nq_rec (by simp [Region.wanted, yielded]) (.tmp 91) (.tmp 92) _ rfl Rec.zero Rec.zero Rec.zero_ok Rec.zero_ok rfl rfl ?_; rw [decide_eq_true rfl]))
    intro c8 C8 w8 hC hCn hw hf
    have hci : C8[i]? = some (byt c) := by
      have q := congrArg (fun z => z[i]?) hC
      simp only [List.getElem?_take_of_lt hi, List.getElem?_map, hc, Option.map_some] at q
      rw [← q, Array.getElem?_toList]
    have hcl : w8.cell? ⟨w7.heap.size, i, none⟩ = some (.int .u8 (c.toNat : Int)) := (heap_cell hw i).trans hci
    have hfz : w8.frozen? ⟨w7.heap.size, i, none⟩ = false := by
      simp only [World.frozen?, hw]
      simp; omega
    have HCB := Aside.mk (fun W => cv_back i (Nat.lt_of_lt_of_le HPP.out.1 (Nat.le_trans HPP.out.2 (by decide))) W)
    have hul : IntKind.u64.wrap (P.length : Int) = (P.length : Int) := u64_small P.length (Nat.le_trans HPP.out.2 (by decide))
    have hi0 : (0 : Int) ≤ (i : Int) := Int.natCast_nonneg _
    have HF8 := Aside.mk (HF7.out.trans hf (fun _ _ q => q))
    have HCV : Aside ((convert 80 9 (.slice (some ⟨w7.heap.size, 0, none⟩) P.length c8)).run Try.prog (w8.setCell ⟨w7.heap.size, i, none⟩ (.int .u8 (d.toNat : Int))) = .ok (.string ⟨(P.set i d).toArray⟩) (w8.setCell ⟨w7.heap.size, i, none⟩ (.int .u8 (d.toNat : Int)))) := ⟨conv_at _ w7.heap.size 0 c8 5 _ _ (P.set i d) P.length List.length_set.symm (heap_set hw i (.int .u8 (d.toNat : Int))) (by
      rw [List.drop_zero, List.length_set, Array.toList_setIfInBounds, List.take_set, hC, List.map_set]; rfl)⟩
    have HF9 : Aside (Fr (fun _ => False) w (w8.setCell ⟨w7.heap.size, i, none⟩ (.int .u8 (d.toNat : Int)))) := ⟨HF8.out.setCell (fun q => absurd q (Nat.not_lt.2 HF7.out.size)) _⟩
    clear hw hC hf hCn hci hc hi
    go_wp2_with (first
      | ((with_reducible refine gate (.binOp .rem 81 (.tmp 139) (.tmp 142) 81) rfl ?_); refine rem_op rfl (.tmp 139) (.tmp 142) rfl _ P.length i rfl rfl hP0 HIX.out ?_)
      | ((with_reducible refine gate (.convert 81 3 (.tmp 143)) rfl ?_); refine cv_op rfl (.tmp 143) rfl _ _ rfl (HCB.out _) ?_)
      | ((with_reducible refine gate (.binOp .xor 5 (.tmp 146) (.tmp 147) 5) rfl ?_); refine xor_op rfl (.tmp 146) (.tmp 147) rfl c d y rfl rfl HXR.out ?_)
      | ((with_reducible refine gate (.convert 80 9 (.tmp 151)) rfl ?_); refine cv_op rfl (.tmp 151) rfl _ _ rfl HCV.out ?_))
    refine (HTO.out _).mono ?_
    rintro e w10 ⟨rfl, hf⟩
    have HF10 := Aside.mk (HF9.out.trans hf (fun _ _ q => q))
    have HZ10 := Aside.mk (isRec.fresh 30 w10 (.cells recLit 30) rfl)
    have HA10 := Aside.mk (HF10.out.alloc (.cells recLit 30))
    have hsz10 := Aside.mk HF10.out.size
    clear hf
    go_wp2_with ((with_reducible refine gate (.store 30 (.tmp 21) (.tmp 154)) rfl ?_); refine st_all recT_box rfl rfl (.tmp 21) (.tmp 154) rfl w10.heap.size _ Rec.zero (.agg (recL Rec.zero).toArray) rfl rfl rfl Rec.zero_ok HZ10.out ?_)
    intro w11 hx hf
    have HF11 := Aside.mk (HA10.out.trans hf (fun b hb q => by have q2 : b = w10.heap.size := q; have := hsz10.out; omega))
    clear hx hf
    go_wp2
    go_ret
    exact ⟨rfl, HF11.out⟩

set_option maxHeartbeats 12800000 in
set_option maxRecDepth 100000 in
theorem reads_bad (w : World) (r : Rec) (hr : r.Ok) (S P : List UInt8)  (a k at_ y : Int) (pf : Nat) (hb : ¬ 30000 < r.body.length) (hs : ¬ 30000 < S.length) (hP : P.length ≤ 20000) (HPK : PK r P pf) (hbad : a < 0 ∨ k < 0 ∨ (P.length + S.length : Int) < a ∨ (P.length + S.length : Int) - a < k) (HTL : Tail P at_ y) : RdCall w r ⟨S.toArray⟩ 1 a k at_ y := by
  unfold RdCall
  have HI : Aside (isRec 25 ((w.alloc (.cells (recL r).toArray 25)).alloc (.cells #[.int .i64 1, .int .i64 a, .int .i64 k] 78)) w.heap.size r) := ⟨(isRec.new 25 w r hr).keep ((Fr.refl (fun _ => False) _).alloc _) id⟩
  have HG : Aside (((w.alloc (.cells (recL r).toArray 25)).alloc (.cells #[.int .i64 1, .int .i64 a, .int .i64 k] 78)).heap[w.heap.size + 1]? = some (.cells #[.int .i64 1, .int .i64 a, .int .i64 k] 78 (0, 0))) := ⟨by
    have q := heap_new (w.alloc (.cells (recL r).toArray 25)) (.cells #[.int .i64 1, .int .i64 a, .int .i64 k] 78)
    rw [World.size_alloc] at q; exact q⟩
  have HF0 : Aside (Fr (fun _ => False) w ((w.alloc (.cells (recL r).toArray 25)).alloc (.cells #[.int .i64 1, .int .i64 a, .int .i64 k] 78))) := ⟨((Fr.refl _ w).alloc _).alloc _⟩
  have h64 := recL_patch hr
  have h65 := recL_body hr
  have HA := Aside.mk (fun W => awake_any W)
  have hbs : (ByteArray.mk r.body.toArray).size = r.body.length := by simp [ByteArray.size]
  have hss : (ByteArray.mk S.toArray).size = S.length := by simp [ByteArray.size]
  have hps : (ByteArray.mk P.toArray).size = P.length := by simp [ByteArray.size]
  have q1 : decide ((30000 : Int) < (r.body.length : Int)) = false := by simp; omega
  have q2 : decide ((30000 : Int) < (S.length : Int)) = false := by simp; omega
  have hcat : ByteArray.mk P.toArray ++ ⟨S.toArray⟩ = ⟨(P ++ S).toArray⟩ := by rw [ByteArray.mk_append_mk]
  have hs0 : S.length ≤ 30000 := by omega
  have HDN := Aside.mk (fun W => dnew_any W 2000 0 (by omega) (by omega))
  have HT := Aside.mk HTL
  have HPKV := Aside.mk HPK
  unfold PK at HPKV
  unfold recV at *
  generalize hL : recL r = L at *
  have HV : Aside (recV r = .agg L.toArray) := ⟨by rw [recV, hL]⟩
  generalize r.body.length = nb at *
  clear hL hb hs HPK HTL
  go_enter Try.func8, Try.ntmps8
  go_wp2_with fail
  refine (HA.out _).mono ?_
  rintro e w1 ⟨rfl, hf⟩
  have HF1 := Aside.mk (HF0.out.trans hf (fun _ _ q => q))
  have HI1 := Aside.mk (HI.out.keep hf id)
  have HG1 := Aside.mk (hf.heap HG.out id)
  clear hf HI HG
  have hbd := HI1.out.body
  go_wp2_with ((with_reducible refine gate (.load 25 (.tmp 5)) rfl ?_); refine ld_all recT_ref (by simp [Region.wanted]) (.tmp 5) rfl w.heap.size r rfl HI1.out ?_; rw [HV.out])
  refine (HPKV.out _).mono ?_
  rintro e w2 ⟨rfl, hf⟩
  have HF2 := Aside.mk (HF1.out.trans hf (fun _ _ q => q))
  have HG2 := Aside.mk (hf.heap HG1.out id)
  clear hf HI1 HG1 hbd HPKV
  go_wp2_with fail
  refine (HDN.out _).mono ?_
  rintro e w3 ⟨rfl, hD, hM, hf⟩
  have HF3 := Aside.mk (HF2.out.trans hf (fun _ _ q => q))
  have HG3 := Aside.mk (hf.heap HG2.out id)
  have hs2 := HF2.out.size
  have hg2 := lt_of_heap HG2.out
  have HMK := Aside.mk (make_ok w3 (w2.heap.size + 1) w2.heap.size 2000 0 0 0 0 0 1 (by omega) (by omega) (by omega) (by omega) hD hM)
  have hlm := lt_of_heap hD
  clear hD hM hf HDN HG2
  generalize hg : w2.heap.size + 1 = g at *
  generalize hm : w2.heap.size = m at *
  go_wp2_with fail
  refine HMK.out.mono ?_
  rintro e w4 ⟨rfl, hD, hM, hfl, hf⟩
  have HF4 := Aside.mk (HF3.out.trans hf (fun b hb q => by omega))
  have HG4 := Aside.mk (hf.heap HG3.out (fun q => by omega))
  have hs4 := hf.size
  have has : (ByteArray.mk (P ++ S).toArray).size = P.length + S.length := by simp [ByteArray.size]
  have hAD := dadd_ok w4 g m w3.heap.size 2000 0 (0 + 1) 0 0 (0 + 1) 1 (-1) (.slice none 0 0) [] ⟨(P ++ S).toArray⟩ (by rw [has]; simp; omega) (by omega) (by omega) (by omega) (by rw [has]; simp [blk]; omega) hD ⟨hfl, OwnB.nil _⟩ (by omega) (fun k hk => by simp [own, Value.ownBlock] at hk) (lk_yes w4 m 1 0 1 _ hM)
  rw [has] at hAD
  have HAD := Aside.mk hAD
  have HM4 := Aside.mk hM
  have hown : ∀ b, ¬ own (.slice none 0 0) b := fun b q => by simp [own, Value.ownBlock] at q
  have HOWN := Aside.mk hown
  clear hD hM hfl hf hAD hown
  go_wp2_with fail
  refine HAD.out.mono ?_
  rintro e w5 ⟨rfl, v, hD, hI, hv, hf⟩
  simp only [List.nil_append] at hI
  have HF5 := Aside.mk (HF4.out.trans hf (fun b hb q => by
    rcases q with q | q | q
    · omega
    · omega
    · exact HOWN.out _ q))
  have HG5 := Aside.mk (hf.heap HG4.out (fun q => by
    rcases q with q | q | q
    · omega
    · omega
    · exact HOWN.out _ q))
  have HM5 := Aside.mk (hf.heap HM4.out (fun q => by
    rcases q with q | q | q
    · omega
    · omega
    · exact HOWN.out _ q))
  have HD5 := Aside.mk hD
  have HI5 := Aside.mk hI
  have hfa : Fr (fun _ => False) w5 ((w5.alloc (.cells #[.int .i64 1, .int .i64 a, .int .i64 k] 78)).alloc (.cells recLit 30)) := ((Fr.refl _ _).alloc _).alloc _
  have hDa := hfa.heap hD id
  have hMa := hfa.heap HM5.out id
  have hIa := HI5.out.keep hfa id (fun _ _ => id)
  have HBR := Aside.mk (bread_err w5 g 1 a k 1 (by omega) (dread_bad _ g m w3.heap.size 1 (-1) 0 a k v (P ++ S) (by rw [List.length_append]; omega) (by rw [List.length_append]; omega) (isD.c0 hDa) (isD.c8 hDa) hIa (lk_yes _ m 1 0 1 _ hMa)))
  clear hD hI hv hf hfa hDa hMa hIa hg hm
  have p0 : w5.cell? ⟨w.heap.size + 1, 0, none⟩ = some (.int .i64 1) := heap_cell HG5.out 0
  have p1 : w5.cell? ⟨w.heap.size + 1, 1, none⟩ = some (.int .i64 a) := heap_cell HG5.out 1
  have p2 : w5.cell? ⟨w.heap.size + 1, 2, none⟩ = some (.int .i64 k) := heap_cell HG5.out 2
  go_wp2_with fail
  refine HBR.out.mono ?_
  rintro e w6 ⟨rfl, hf⟩
  have HF6 := Aside.mk (HF5.out.trans hf (fun _ _ q => q))
  have HG6 := Aside.mk (hf.heap HG5.out id)
  have HX6 := Aside.mk (isRec.fresh 30 w6 (.cells recLit 30) rfl)
  have HA6 := Aside.mk (HF6.out.alloc (.cells recLit 30))
  have HGa := Aside.mk (((Fr.refl (fun _ => False) w6).alloc (.cells recLit 30)).heap HG6.out id)
  have hs6 := HF6.out.size
  have hg6 := lt_of_heap HG6.out
  clear hf p0 p1 p2 HBR
  go_wp2_with ((with_reducible refine gate (.store 30 (.tmp 16) (.tmp 62)) rfl ?_); refine st_all recT_box rfl rfl (.tmp 16) (.tmp 62) rfl w6.heap.size _ Rec.zero (recV Rec.zero) rfl rfl rfl Rec.zero_ok HX6.out ?_)
  intro w7 hx hf
  have HX7 := Aside.mk hx
  have HF7 := Aside.mk (HA6.out.trans hf (fun b hb q => by have q2 : b = w6.heap.size := q; omega))
  have HG7 := Aside.mk (hf.heap HGa.out (by omega))
  have p0 : w7.cell? ⟨w.heap.size + 1, 0, none⟩ = some (.int .i64 1) := heap_cell HG7.out 0
  have p1 : w7.cell? ⟨w.heap.size + 1, 1, none⟩ = some (.int .i64 a) := heap_cell HG7.out 1
  have p2 : w7.cell? ⟨w.heap.size + 1, 2, none⟩ = some (.int .i64 k) := heap_cell HG7.out 2
  clear hx hf HG6 HGa HX6
  have has : (ByteArray.mk (P ++ S).toArray).size = P.length + S.length := by simp [ByteArray.size]
  by_cases b1 : a < 0
  · have d1 : decide (a < 0) = true := decide_eq_true b1
    clear hbad b1
    rcases HT.out with hT | ⟨hT, hy⟩ | ⟨i, c, d, hT, hy, hi, hc, hix, hxr, hO⟩
    · have hpz : ((P.length : Int) == 0) = true := by rw [hT]; rfl
      have hPe : P.isEmpty = true := by rw [hT]; rfl
      clear hT
      go_wp2_with (first
        | ((with_reducible refine gate (.load 30 (.tmp 16)) rfl ?_); refine ld_all recT_box (by simp [Region.wanted, yielded]) (.tmp 16) rfl w6.heap.size Rec.zero rfl HX7.out ?_) | ((with_reducible refine gate (.build 30 _) rfl ?_); refine bld (by simp [Region.wanted, yielded]) _ _ rfl #[] (recV Rec.zero) rfl build_none ?_) | ((with_reducible refine gate (.binOp .neq 30 (.tmp 124) (.tmp 125) 30) rfl ?_); refine nq_rec (by simp [Region.wanted, yielded]) (.tmp 124) (.tmp 125) _ rfl Rec.zero Rec.zero Rec.zero_ok Rec.zero_ok rfl rfl ?_; rw [decide_eq_true rfl]))
      go_ret
      exact ⟨rfl, HF7.out⟩
    · subst hy
      have hP0 : ¬ P.length = 0 := fun q => hT (List.eq_nil_of_length_eq_zero q)
      have hPe : P.isEmpty = false := by simpa using hT
      go_wp2_with (first
        | ((with_reducible refine gate (.load 30 (.tmp 16)) rfl ?_); refine ld_all recT_box (by simp [Region.wanted, yielded]) (.tmp 16) rfl w6.heap.size Rec.zero rfl HX7.out ?_) | ((with_reducible refine gate (.build 30 _) rfl ?_); refine bld (by simp [Region.wanted, yielded]) _ _ rfl #[] (recV Rec.zero) rfl build_none ?_) | ((with_reducible refine gate (.binOp .neq 30 (.tmp 124) (.tmp 125) 30) rfl ?_); refine nq_rec (by simp [Region.wanted, yielded]) (.tmp 124) (.tmp 125) _ rfl Rec.zero Rec.zero Rec.zero_ok Rec.zero_ok rfl rfl ?_; rw [decide_eq_true rfl]))
      go_ret
      exact ⟨rfl, HF7.out⟩
    · have hP0 : ¬ P.length = 0 := fun q => hT (List.eq_nil_of_length_eq_zero q)
      have hPe : P.isEmpty = false := by simpa using hT
      have hyb : (y == 0) = false := by simp [hy]
      have HTO := Aside.mk hO
      have HIX := Aside.mk hix
      have HXR := Aside.mk hxr
      have HPP := Aside.mk (And.intro hi hP)
      have hi1 : (i : Int) < (P.length : Int) := Int.ofNat_lt.2 hi
      unfold OA at HTO
      unfold recV at HTO
      clear hO hix hxr
      go_wp2_with (first
        | ((with_reducible refine gate (.convert 9 80 (.tmp 135)) rfl ?_); refine to_bytes rfl (.tmp 135) rfl P rfl ?_)
        | ((with_reducible refine gate (.load 30 (.tmp 16)) rfl ?_); refine ld_all recT_box (by simp [Region.wanted, yielded]) (.tmp 16) rfl w6.heap.size Rec.zero rfl HX7.out ?_) | ((with_reducible refine gate (.build 30 _) rfl ?_); refine bld (by simp [Region.wanted, yielded]) _ _ rfl #[] (recV Rec.zero) rfl build_none ?_) | ((with_reducible refine gate (.binOp .neq 30 (.tmp 124) (.tmp 125) 30) rfl ?_); refine nq_rec (by simp [Region.wanted, yielded]) (.tmp 124) (.tmp 125) _ rfl Rec.zero Rec.zero Rec.zero_ok Rec.zero_ok rfl rfl ?_; rw [decide_eq_true rfl]))
      intro c8 C8 w8 hC hCn hw hf
      have hci : C8[i]? = some (byt c) := by
        have q := congrArg (fun z => z[i]?) hC
        simp only [List.getElem?_take_of_lt hi, List.getElem?_map, hc, Option.map_some] at q
        rw [← q, Array.getElem?_toList]
      have hcl : w8.cell? ⟨w7.heap.size, i, none⟩ = some (.int .u8 (c.toNat : Int)) := (heap_cell hw i).trans hci
      have hfz : w8.frozen? ⟨w7.heap.size, i, none⟩ = false := by
        simp only [World.frozen?, hw]
        simp; omega
      have HCB := Aside.mk (fun W => cv_back i (Nat.lt_of_lt_of_le HPP.out.1 (Nat.le_trans HPP.out.2 (by decide))) W)
      have hul : IntKind.u64.wrap (P.length : Int) = (P.length : Int) := u64_small P.length (Nat.le_trans HPP.out.2 (by decide))
      have hi0 : (0 : Int) ≤ (i : Int) := Int.natCast_nonneg _
      have HF8 := Aside.mk (HF7.out.trans hf (fun _ _ q => q))
      have HCV : Aside ((convert 80 9 (.slice (some ⟨w7.heap.size, 0, none⟩) P.length c8)).run Try.prog (w8.setCell ⟨w7.heap.size, i, none⟩ (.int .u8 (d.toNat : Int))) = .ok (.string ⟨(P.set i d).toArray⟩) (w8.setCell ⟨w7.heap.size, i, none⟩ (.int .u8 (d.toNat : Int)))) := ⟨conv_at _ w7.heap.size 0 c8 5 _ _ (P.set i d) P.length List.length_set.symm (heap_set hw i (.int .u8 (d.toNat : Int))) (by
        rw [List.drop_zero, List.length_set, Array.toList_setIfInBounds, List.take_set, hC, List.map_set]; rfl)⟩
      have HF9 : Aside (Fr (fun _ => False) w (w8.setCell ⟨w7.heap.size, i, none⟩ (.int .u8 (d.toNat : Int)))) := ⟨HF8.out.setCell (fun q => absurd q (Nat.not_lt.2 HF7.out.size)) _⟩
      clear hw hC hf hCn hci hc hi
      go_wp2_with (first
        | ((with_reducible refine gate (.binOp .rem 81 (.tmp 139) (.tmp 142) 81) rfl ?_); refine rem_op rfl (.tmp 139) (.tmp 142) rfl _ P.length i rfl rfl hP0 HIX.out ?_)
        | ((with_reducible refine gate (.convert 81 3 (.tmp 143)) rfl ?_); refine cv_op rfl (.tmp 143) rfl _ _ rfl (HCB.out _) ?_)
        | ((with_reducible refine gate (.binOp .xor 5 (.tmp 146) (.tmp 147) 5) rfl ?_); refine xor_op rfl (.tmp 146) (.tmp 147) rfl c d y rfl rfl HXR.out ?_)
        | ((with_reducible refine gate (.convert 80 9 (.tmp 151)) rfl ?_); refine cv_op rfl (.tmp 151) rfl _ _ rfl HCV.out ?_))
      refine (HTO.out _).mono ?_
      rintro e w10 ⟨rfl, hf⟩
      have HF10 := Aside.mk (HF9.out.trans hf (fun _ _ q => q))
      have HZ10 := Aside.mk (isRec.fresh 30 w10 (.cells recLit 30) rfl)
      have HA10 := Aside.mk (HF10.out.alloc (.cells recLit 30))
      have hsz10 := Aside.mk HF10.out.size
      clear hf
      go_wp2_with ((with_reducible refine gate (.store 30 (.tmp 21) (.tmp 154)) rfl ?_); refine st_all recT_box rfl rfl (.tmp 21) (.tmp 154) rfl w10.heap.size _ Rec.zero (.agg (recL Rec.zero).toArray) rfl rfl rfl Rec.zero_ok HZ10.out ?_)
      intro w11 hx hf
      have HF11 := Aside.mk (HA10.out.trans hf (fun b hb q => by have q2 : b = w10.heap.size := q; have := hsz10.out; omega))
      clear hx hf
      go_wp2
      go_ret
      exact ⟨rfl, HF11.out⟩
  by_cases b2 : k < 0
  · have d1 : decide (a < 0) = false := decide_eq_false b1
    have d2 : decide (k < 0) = true := decide_eq_true b2
    clear hbad b1 b2
    rcases HT.out with hT | ⟨hT, hy⟩ | ⟨i, c, d, hT, hy, hi, hc, hix, hxr, hO⟩
    · have hpz : ((P.length : Int) == 0) = true := by rw [hT]; rfl
      have hPe : P.isEmpty = true := by rw [hT]; rfl
      clear hT
      go_wp2_with (first
        | ((with_reducible refine gate (.load 30 (.tmp 16)) rfl ?_); refine ld_all recT_box (by simp [Region.wanted, yielded]) (.tmp 16) rfl w6.heap.size Rec.zero rfl HX7.out ?_) | ((with_reducible refine gate (.build 30 _) rfl ?_); refine bld (by simp [Region.wanted, yielded]) _ _ rfl #[] (recV Rec.zero) rfl build_none ?_) | ((with_reducible refine gate (.binOp .neq 30 (.tmp 124) (.tmp 125) 30) rfl ?_); refine nq_rec (by simp [Region.wanted, yielded]) (.tmp 124) (.tmp 125) _ rfl Rec.zero Rec.zero Rec.zero_ok Rec.zero_ok rfl rfl ?_; rw [decide_eq_true rfl]))
      go_ret
      exact ⟨rfl, HF7.out⟩
    · subst hy
      have hP0 : ¬ P.length = 0 := fun q => hT (List.eq_nil_of_length_eq_zero q)
      have hPe : P.isEmpty = false := by simpa using hT
      go_wp2_with (first
        | ((with_reducible refine gate (.load 30 (.tmp 16)) rfl ?_); refine ld_all recT_box (by simp [Region.wanted, yielded]) (.tmp 16) rfl w6.heap.size Rec.zero rfl HX7.out ?_) | ((with_reducible refine gate (.build 30 _) rfl ?_); refine bld (by simp [Region.wanted, yielded]) _ _ rfl #[] (recV Rec.zero) rfl build_none ?_) | ((with_reducible refine gate (.binOp .neq 30 (.tmp 124) (.tmp 125) 30) rfl ?_); refine nq_rec (by simp [Region.wanted, yielded]) (.tmp 124) (.tmp 125) _ rfl Rec.zero Rec.zero Rec.zero_ok Rec.zero_ok rfl rfl ?_; rw [decide_eq_true rfl]))
      go_ret
      exact ⟨rfl, HF7.out⟩
    · have hP0 : ¬ P.length = 0 := fun q => hT (List.eq_nil_of_length_eq_zero q)
      have hPe : P.isEmpty = false := by simpa using hT
      have hyb : (y == 0) = false := by simp [hy]
      have HTO := Aside.mk hO
      have HIX := Aside.mk hix
      have HXR := Aside.mk hxr
      have HPP := Aside.mk (And.intro hi hP)
      have hi1 : (i : Int) < (P.length : Int) := Int.ofNat_lt.2 hi
      unfold OA at HTO
      unfold recV at HTO
      clear hO hix hxr
      go_wp2_with (first
        | ((with_reducible refine gate (.convert 9 80 (.tmp 135)) rfl ?_); refine to_bytes rfl (.tmp 135) rfl P rfl ?_)
        | ((with_reducible refine gate (.load 30 (.tmp 16)) rfl ?_); refine ld_all recT_box (by simp [Region.wanted, yielded]) (.tmp 16) rfl w6.heap.size Rec.zero rfl HX7.out ?_) | ((with_reducible refine gate (.build 30 _) rfl ?_); refine bld (by simp [Region.wanted, yielded]) _ _ rfl #[] (recV Rec.zero) rfl build_none ?_) | ((with_reducible refine gate (.binOp .neq 30 (.tmp 124) (.tmp 125) 30) rfl ?_); refine nq_rec (by simp [Region.wanted, yielded]) (.tmp 124) (.tmp 125) _ rfl Rec.zero Rec.zero Rec.zero_ok Rec.zero_ok rfl rfl ?_; rw [decide_eq_true rfl]))
      intro c8 C8 w8 hC hCn hw hf
      have hci : C8[i]? = some (byt c) := by
        have q := congrArg (fun z => z[i]?) hC
        simp only [List.getElem?_take_of_lt hi, List.getElem?_map, hc, Option.map_some] at q
        rw [← q, Array.getElem?_toList]
      have hcl : w8.cell? ⟨w7.heap.size, i, none⟩ = some (.int .u8 (c.toNat : Int)) := (heap_cell hw i).trans hci
      have hfz : w8.frozen? ⟨w7.heap.size, i, none⟩ = false := by
        simp only [World.frozen?, hw]
        simp; omega
      have HCB := Aside.mk (fun W => cv_back i (Nat.lt_of_lt_of_le HPP.out.1 (Nat.le_trans HPP.out.2 (by decide))) W)
      have hul : IntKind.u64.wrap (P.length : Int) = (P.length : Int) := u64_small P.length (Nat.le_trans HPP.out.2 (by decide))
      have hi0 : (0 : Int) ≤ (i : Int) := Int.natCast_nonneg _
      have HF8 := Aside.mk (HF7.out.trans hf (fun _ _ q => q))
      have HCV : Aside ((convert 80 9 (.slice (some ⟨w7.heap.size, 0, none⟩) P.length c8)).run Try.prog (w8.setCell ⟨w7.heap.size, i, none⟩ (.int .u8 (d.toNat : Int))) = .ok (.string ⟨(P.set i d).toArray⟩) (w8.setCell ⟨w7.heap.size, i, none⟩ (.int .u8 (d.toNat : Int)))) := ⟨conv_at _ w7.heap.size 0 c8 5 _ _ (P.set i d) P.length List.length_set.symm (heap_set hw i (.int .u8 (d.toNat : Int))) (by
        rw [List.drop_zero, List.length_set, Array.toList_setIfInBounds, List.take_set, hC, List.map_set]; rfl)⟩
      have HF9 : Aside (Fr (fun _ => False) w (w8.setCell ⟨w7.heap.size, i, none⟩ (.int .u8 (d.toNat : Int)))) := ⟨HF8.out.setCell (fun q => absurd q (Nat.not_lt.2 HF7.out.size)) _⟩
      clear hw hC hf hCn hci hc hi
      go_wp2_with (first
        | ((with_reducible refine gate (.binOp .rem 81 (.tmp 139) (.tmp 142) 81) rfl ?_); refine rem_op rfl (.tmp 139) (.tmp 142) rfl _ P.length i rfl rfl hP0 HIX.out ?_)
        | ((with_reducible refine gate (.convert 81 3 (.tmp 143)) rfl ?_); refine cv_op rfl (.tmp 143) rfl _ _ rfl (HCB.out _) ?_)
        | ((with_reducible refine gate (.binOp .xor 5 (.tmp 146) (.tmp 147) 5) rfl ?_); refine xor_op rfl (.tmp 146) (.tmp 147) rfl c d y rfl rfl HXR.out ?_)
        | ((with_reducible refine gate (.convert 80 9 (.tmp 151)) rfl ?_); refine cv_op rfl (.tmp 151) rfl _ _ rfl HCV.out ?_))
      refine (HTO.out _).mono ?_
      rintro e w10 ⟨rfl, hf⟩
      have HF10 := Aside.mk (HF9.out.trans hf (fun _ _ q => q))
      have HZ10 := Aside.mk (isRec.fresh 30 w10 (.cells recLit 30) rfl)
      have HA10 := Aside.mk (HF10.out.alloc (.cells recLit 30))
      have hsz10 := Aside.mk HF10.out.size
      clear hf
      go_wp2_with ((with_reducible refine gate (.store 30 (.tmp 21) (.tmp 154)) rfl ?_); refine st_all recT_box rfl rfl (.tmp 21) (.tmp 154) rfl w10.heap.size _ Rec.zero (.agg (recL Rec.zero).toArray) rfl rfl rfl Rec.zero_ok HZ10.out ?_)
      intro w11 hx hf
      have HF11 := Aside.mk (HA10.out.trans hf (fun b hb q => by have q2 : b = w10.heap.size := q; have := hsz10.out; omega))
      clear hx hf
      go_wp2
      go_ret
      exact ⟨rfl, HF11.out⟩
  by_cases b3 : (P.length : Int) + (S.length : Int) < a
  · have d1 : decide (a < 0) = false := decide_eq_false b1
    have d2 : decide (k < 0) = false := decide_eq_false b2
    have d3 : decide ((P.length : Int) + (S.length : Int) < a) = true := decide_eq_true b3
    clear hbad b1 b2 b3
    rcases HT.out with hT | ⟨hT, hy⟩ | ⟨i, c, d, hT, hy, hi, hc, hix, hxr, hO⟩
    · have hpz : ((P.length : Int) == 0) = true := by rw [hT]; rfl
      have hPe : P.isEmpty = true := by rw [hT]; rfl
      clear hT
      go_wp2_with (first
        | ((with_reducible refine gate (.load 30 (.tmp 16)) rfl ?_); refine ld_all recT_box (by simp [Region.wanted, yielded]) (.tmp 16) rfl w6.heap.size Rec.zero rfl HX7.out ?_) | ((with_reducible refine gate (.build 30 _) rfl ?_); refine bld (by simp [Region.wanted, yielded]) _ _ rfl #[] (recV Rec.zero) rfl build_none ?_) | ((with_reducible refine gate (.binOp .neq 30 (.tmp 124) (.tmp 125) 30) rfl ?_); refine nq_rec (by simp [Region.wanted, yielded]) (.tmp 124) (.tmp 125) _ rfl Rec.zero Rec.zero Rec.zero_ok Rec.zero_ok rfl rfl ?_; rw [decide_eq_true rfl]))
      go_ret
      exact ⟨rfl, HF7.out⟩
    · subst hy
      have hP0 : ¬ P.length = 0 := fun q => hT (List.eq_nil_of_length_eq_zero q)
      have hPe : P.isEmpty = false := by simpa using hT
      go_wp2_with (first
        | ((with_reducible refine gate (.load 30 (.tmp 16)) rfl ?_); refine ld_all recT_box (by simp [Region.wanted, yielded]) (.tmp 16) rfl w6.heap.size Rec.zero rfl HX7.out ?_) | ((with_reducible refine gate (.build 30 _) rfl ?_); refine bld (by simp [Region.wanted, yielded]) _ _ rfl #[] (recV Rec.zero) rfl build_none ?_) | ((with_reducible refine gate (.binOp .neq 30 (.tmp 124) (.tmp 125) 30) rfl ?_); refine nq_rec (by simp [Region.wanted, yielded]) (.tmp 124) (.tmp 125) _ rfl Rec.zero Rec.zero Rec.zero_ok Rec.zero_ok rfl rfl ?_; rw [decide_eq_true rfl]))
      go_ret
      exact ⟨rfl, HF7.out⟩
    · have hP0 : ¬ P.length = 0 := fun q => hT (List.eq_nil_of_length_eq_zero q)
      have hPe : P.isEmpty = false := by simpa using hT
      have hyb : (y == 0) = false := by simp [hy]
      have HTO := Aside.mk hO
      have HIX := Aside.mk hix
      have HXR := Aside.mk hxr
      have HPP := Aside.mk (And.intro hi hP)
      have hi1 : (i : Int) < (P.length : Int) := Int.ofNat_lt.2 hi
      unfold OA at HTO
      unfold recV at HTO
      clear hO hix hxr
      go_wp2_with (first
        | ((with_reducible refine gate (.convert 9 80 (.tmp 135)) rfl ?_); refine to_bytes rfl (.tmp 135) rfl P rfl ?_)
        | ((with_reducible refine gate (.load 30 (.tmp 16)) rfl ?_); refine ld_all recT_box (by simp [Region.wanted, yielded]) (.tmp 16) rfl w6.heap.size Rec.zero rfl HX7.out ?_) | ((with_reducible refine gate (.build 30 _) rfl ?_); refine bld (by simp [Region.wanted, yielded]) _ _ rfl #[] (recV Rec.zero) rfl build_none ?_) | ((with_reducible refine gate (.binOp .neq 30 (.tmp 124) (.tmp 125) 30) rfl ?_); refine nq_rec (by simp [Region.wanted, yielded]) (.tmp 124) (.tmp 125) _ rfl Rec.zero Rec.zero Rec.zero_ok Rec.zero_ok rfl rfl ?_; rw [decide_eq_true rfl]))
      intro c8 C8 w8 hC hCn hw hf
      have hci : C8[i]? = some (byt c) := by
        have q := congrArg (fun z => z[i]?) hC
        simp only [List.getElem?_take_of_lt hi, List.getElem?_map, hc, Option.map_some] at q
        rw [← q, Array.getElem?_toList]
      have hcl : w8.cell? ⟨w7.heap.size, i, none⟩ = some (.int .u8 (c.toNat : Int)) := (heap_cell hw i).trans hci
      have hfz : w8.frozen? ⟨w7.heap.size, i, none⟩ = false := by
        simp only [World.frozen?, hw]
        simp; omega
      have HCB := Aside.mk (fun W => cv_back i (Nat.lt_of_lt_of_le HPP.out.1 (Nat.le_trans HPP.out.2 (by decide))) W)
      have hul : IntKind.u64.wrap (P.length : Int) = (P.length : Int) := u64_small P.length (Nat.le_trans HPP.out.2 (by decide))
      have hi0 : (0 : Int) ≤ (i : Int) := Int.natCast_nonneg _
      have HF8 := Aside.mk (HF7.out.trans hf (fun _ _ q => q))
      have HCV : Aside ((convert 80 9 (.slice (some ⟨w7.heap.size, 0, none⟩) P.length c8)).run Try.prog (w8.setCell ⟨w7.heap.size, i, none⟩ (.int .u8 (d.toNat : Int))) = .ok (.string ⟨(P.set i d).toArray⟩) (w8.setCell ⟨w7.heap.size, i, none⟩ (.int .u8 (d.toNat : Int)))) := ⟨conv_at _ w7.heap.size 0 c8 5 _ _ (P.set i d) P.length List.length_set.symm (heap_set hw i (.int .u8 (d.toNat : Int))) (by
        rw [List.drop_zero, List.length_set, Array.toList_setIfInBounds, List.take_set, hC, List.map_set]; rfl)⟩
      have HF9 : Aside (Fr (fun _ => False) w (w8.setCell ⟨w7.heap.size, i, none⟩ (.int .u8 (d.toNat : Int)))) := ⟨HF8.out.setCell (fun q => absurd q (Nat.not_lt.2 HF7.out.size)) _⟩
      clear hw hC hf hCn hci hc hi
      go_wp2_with (first
        | ((with_reducible refine gate (.binOp .rem 81 (.tmp 139) (.tmp 142) 81) rfl ?_); refine rem_op rfl (.tmp 139) (.tmp 142) rfl _ P.length i rfl rfl hP0 HIX.out ?_)
        | ((with_reducible refine gate (.convert 81 3 (.tmp 143)) rfl ?_); refine cv_op rfl (.tmp 143) rfl _ _ rfl (HCB.out _) ?_)
        | ((with_reducible refine gate (.binOp .xor 5 (.tmp 146) (.tmp 147) 5) rfl ?_); refine xor_op rfl (.tmp 146) (.tmp 147) rfl c d y rfl rfl HXR.out ?_)
        | ((with_reducible refine gate (.convert 80 9 (.tmp 151)) rfl ?_); refine cv_op rfl (.tmp 151) rfl _ _ rfl HCV.out ?_))
      refine (HTO.out _).mono ?_
      rintro e w10 ⟨rfl, hf⟩
      have HF10 := Aside.mk (HF9.out.trans hf (fun _ _ q => q))
      have HZ10 := Aside.mk (isRec.fresh 30 w10 (.cells recLit 30) rfl)
      have HA10 := Aside.mk (HF10.out.alloc (.cells recLit 30))
      have hsz10 := Aside.mk HF10.out.size
      clear hf
      go_wp2_with ((with_reducible refine gate (.store 30 (.tmp 21) (.tmp 154)) rfl ?_); refine st_all recT_box rfl rfl (.tmp 21) (.tmp 154) rfl w10.heap.size _ Rec.zero (.agg (recL Rec.zero).toArray) rfl rfl rfl Rec.zero_ok HZ10.out ?_)
      intro w11 hx hf
      have HF11 := Aside.mk (HA10.out.trans hf (fun b hb q => by have q2 : b = w10.heap.size := q; have := hsz10.out; omega))
      clear hx hf
      go_wp2
      go_ret
      exact ⟨rfl, HF11.out⟩
  · have d1 : decide (a < 0) = false := decide_eq_false b1
    have d2 : decide (k < 0) = false := decide_eq_false b2
    have d3 : decide ((P.length : Int) + (S.length : Int) < a) = false := decide_eq_false b3
    have d4 : decide ((P.length : Int) + (S.length : Int) - a < k) = true := decide_eq_true (by omega)
    have w4 : IntKind.i64.wrap ((P.length : Int) + (S.length : Int) - a) = (P.length : Int) + (S.length : Int) - a := by simp [IntKind.wrap, IntKind.bits, IntKind.signed]; omega
    clear hbad b1 b2 b3
    rcases HT.out with hT | ⟨hT, hy⟩ | ⟨i, c, d, hT, hy, hi, hc, hix, hxr, hO⟩
    · have hpz : ((P.length : Int) == 0) = true := by rw [hT]; rfl
      have hPe : P.isEmpty = true := by rw [hT]; rfl
      clear hT
      go_wp2_with (first
        | ((with_reducible refine gate (.load 30 (.tmp 16)) rfl ?_); refine ld_all recT_box (by simp [Region.wanted, yielded]) (.tmp 16) rfl w6.heap.size Rec.zero rfl HX7.out ?_) | ((with_reducible refine gate (.build 30 _) rfl ?_); refine bld (by simp [Region.wanted, yielded]) _ _ rfl #[] (recV Rec.zero) rfl build_none ?_) | ((with_reducible refine gate (.binOp .neq 30 (.tmp 124) (.tmp 125) 30) rfl ?_); refine nq_rec (by simp [Region.wanted, yielded]) (.tmp 124) (.tmp 125) _ rfl Rec.zero Rec.zero Rec.zero_ok Rec.zero_ok rfl rfl ?_; rw [decide_eq_true rfl]))
      go_ret
      exact ⟨rfl, HF7.out⟩
    · subst hy
      have hP0 : ¬ P.length = 0 := fun q => hT (List.eq_nil_of_length_eq_zero q)
      have hPe : P.isEmpty = false := by simpa using hT
      go_wp2_with (first
        | ((with_reducible refine gate (.load 30 (.tmp 16)) rfl ?_); refine ld_all recT_box (by simp [Region.wanted, yielded]) (.tmp 16) rfl w6.heap.size Rec.zero rfl HX7.out ?_) | ((with_reducible refine gate (.build 30 _) rfl ?_); refine bld (by simp [Region.wanted, yielded]) _ _ rfl #[] (recV Rec.zero) rfl build_none ?_) | ((with_reducible refine gate (.binOp .neq 30 (.tmp 124) (.tmp 125) 30) rfl ?_); refine nq_rec (by simp [Region.wanted, yielded]) (.tmp 124) (.tmp 125) _ rfl Rec.zero Rec.zero Rec.zero_ok Rec.zero_ok rfl rfl ?_; rw [decide_eq_true rfl]))
      go_ret
      exact ⟨rfl, HF7.out⟩
    · have hP0 : ¬ P.length = 0 := fun q => hT (List.eq_nil_of_length_eq_zero q)
      have hPe : P.isEmpty = false := by simpa using hT
      have hyb : (y == 0) = false := by simp [hy]
      have HTO := Aside.mk hO
      have HIX := Aside.mk hix
      have HXR := Aside.mk hxr
      have HPP := Aside.mk (And.intro hi hP)
      have hi1 : (i : Int) < (P.length : Int) := Int.ofNat_lt.2 hi
      unfold OA at HTO
      unfold recV at HTO
      clear hO hix hxr
      go_wp2_with (first
        | ((with_reducible refine gate (.convert 9 80 (.tmp 135)) rfl ?_); refine to_bytes rfl (.tmp 135) rfl P rfl ?_)
        | ((with_reducible refine gate (.load 30 (.tmp 16)) rfl ?_); refine ld_all recT_box (by simp [Region.wanted, yielded]) (.tmp 16) rfl w6.heap.size Rec.zero rfl HX7.out ?_) | ((with_reducible refine gate (.build 30 _) rfl ?_); refine bld (by simp [Region.wanted, yielded]) _ _ rfl #[] (recV Rec.zero) rfl build_none ?_) | ((with_reducible refine gate (.binOp .neq 30 (.tmp 124) (.tmp 125) 30) rfl ?_); refine nq_rec (by simp [Region.wanted, yielded]) (.tmp 124) (.tmp 125) _ rfl Rec.zero Rec.zero Rec.zero_ok Rec.zero_ok rfl rfl ?_; rw [decide_eq_true rfl]))
      intro c8 C8 w8 hC hCn hw hf
      have hci : C8[i]? = some (byt c) := by
        have q := congrArg (fun z => z[i]?) hC
        simp only [List.getElem?_take_of_lt hi, List.getElem?_map, hc, Option.map_some] at q
        rw [← q, Array.getElem?_toList]
      have hcl : w8.cell? ⟨w7.heap.size, i, none⟩ = some (.int .u8 (c.toNat : Int)) := (heap_cell hw i).trans hci
      have hfz : w8.frozen? ⟨w7.heap.size, i, none⟩ = false := by
        simp only [World.frozen?, hw]
        simp; omega
      have HCB := Aside.mk (fun W => cv_back i (Nat.lt_of_lt_of_le HPP.out.1 (Nat.le_trans HPP.out.2 (by decide))) W)
      have hul : IntKind.u64.wrap (P.length : Int) = (P.length : Int) := u64_small P.length (Nat.le_trans HPP.out.2 (by decide))
      have hi0 : (0 : Int) ≤ (i : Int) := Int.natCast_nonneg _
      have HF8 := Aside.mk (HF7.out.trans hf (fun _ _ q => q))
      have HCV : Aside ((convert 80 9 (.slice (some ⟨w7.heap.size, 0, none⟩) P.length c8)).run Try.prog (w8.setCell ⟨w7.heap.size, i, none⟩ (.int .u8 (d.toNat : Int))) = .ok (.string ⟨(P.set i d).toArray⟩) (w8.setCell ⟨w7.heap.size, i, none⟩ (.int .u8 (d.toNat : Int)))) := ⟨conv_at _ w7.heap.size 0 c8 5 _ _ (P.set i d) P.length List.length_set.symm (heap_set hw i (.int .u8 (d.toNat : Int))) (by
        rw [List.drop_zero, List.length_set, Array.toList_setIfInBounds, List.take_set, hC, List.map_set]; rfl)⟩
      have HF9 : Aside (Fr (fun _ => False) w (w8.setCell ⟨w7.heap.size, i, none⟩ (.int .u8 (d.toNat : Int)))) := ⟨HF8.out.setCell (fun q => absurd q (Nat.not_lt.2 HF7.out.size)) _⟩
      clear hw hC hf hCn hci hc hi
      go_wp2_with (first
        | ((with_reducible refine gate (.binOp .rem 81 (.tmp 139) (.tmp 142) 81) rfl ?_); refine rem_op rfl (.tmp 139) (.tmp 142) rfl _ P.length i rfl rfl hP0 HIX.out ?_)
        | ((with_reducible refine gate (.convert 81 3 (.tmp 143)) rfl ?_); refine cv_op rfl (.tmp 143) rfl _ _ rfl (HCB.out _) ?_)
        | ((with_reducible refine gate (.binOp .xor 5 (.tmp 146) (.tmp 147) 5) rfl ?_); refine xor_op rfl (.tmp 146) (.tmp 147) rfl c d y rfl rfl HXR.out ?_)
        | ((with_reducible refine gate (.convert 80 9 (.tmp 151)) rfl ?_); refine cv_op rfl (.tmp 151) rfl _ _ rfl HCV.out ?_))
      refine (HTO.out _).mono ?_
      rintro e w10 ⟨rfl, hf⟩
      have HF10 := Aside.mk (HF9.out.trans hf (fun _ _ q => q))
      have HZ10 := Aside.mk (isRec.fresh 30 w10 (.cells recLit 30) rfl)
      have HA10 := Aside.mk (HF10.out.alloc (.cells recLit 30))
      have hsz10 := Aside.mk HF10.out.size
      clear hf
      go_wp2_with ((with_reducible refine gate (.store 30 (.tmp 21) (.tmp 154)) rfl ?_); refine st_all recT_box rfl rfl (.tmp 21) (.tmp 154) rfl w10.heap.size _ Rec.zero (.agg (recL Rec.zero).toArray) rfl rfl rfl Rec.zero_ok HZ10.out ?_)
      intro w11 hx hf
      have HF11 := Aside.mk (HA10.out.trans hf (fun b hb q => by have q2 : b = w10.heap.size := q; have := hsz10.out; omega))
      clear hx hf
      go_wp2
      go_ret
      exact ⟨rfl, HF11.out⟩

end Go.Proofs.Ytodhkdmkkjhnnaa
