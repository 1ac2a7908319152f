/- The walk of siloref17.begin, path by path. Printed by gen_begin.py. -/
import Derived.Test.YtodhkdmkkjhnnaaRef17
import Derived.Test.YtodhkdmkkjhnnaaRecBuild
set_option linter.unusedVariables false
namespace Go.Proofs.Ytodhkdmkkjhnnaa
open Go.RowKit

def BK (s : ByteArray) (k : List UInt8) : Prop := ∀ W, Calls Try.prog 97 #[.string s] W fun e w' => e = .returned (keyV k) ∧ Fr (fun _ => False) W w'
def BC (s : ByteArray) (n c e : Nat) : Prop := ∀ W, Calls Try.prog 98 #[.string s] W fun e1 w' => e1 = .returned (.tuple #[.int .i64 n, .int .i64 c, .int .i64 e]) ∧ w' = W
def BT (s : ByteArray) (b : List UInt8) (c e : Nat) : Prop := ∀ W, Calls Try.prog 85 #[.string s] W fun e1 w' => e1 = .returned (.tuple #[.string ⟨b.toArray⟩, .int .i64 c, .int .i64 e]) ∧ w' = W
def BPost (w : World) (R : Rec × Nat × Nat) : Ending → World → Prop := fun e w' => e = .returned (.tuple #[recV R.1, .int .i64 (R.2.1 : Nat), .int .i64 (R.2.2 : Nat)]) ∧ Fr (fun _ => False) w w'

theorem results_ctt {fn : Func} {p u v : Tmp} {ty : TypeId} (h : fn.results = #[.cell p ty, .tmp u, .tmp v]) (tmps : Array Value) (w : World) (g : Nat) (t : TypeId) (cs : Array Value) (fr : Nat × Nat) (d : TypeDesc)
    (hp : tmps.getD p undef = .pointer (some ⟨g, 0, none⟩)) (hg : w.heap[g]? = some (.cells cs t fr))
    (hu : Try.prog.underlying ty = some d) (hd : aggD d = true) (hi : (Try.prog.info? ty).map (·.size) = some cs.size) :
    (results fn tmps).run Try.prog w = .ok (.tuple #[.agg cs, tmps.getD u undef, tmps.getD v undef]) w := by
  have hp' : tmps[p]?.getD undef = .pointer (some ⟨g, 0, none⟩) := by simpa using hp
  have hl := run_loadVar_part w g 0 cs.size t ty cs fr d hg hu hd hi (by omega)
  rw [List.drop_zero, List.take_of_length_le (by simp), Array.toArray_toList] at hl
  simp [results, h, hp', asAddr, hl]
theorem rec_results3 {T : Nat} (hT : RecT T) {w : World} {x : Nat} {r : Rec} (hr : isRec T w x r) {fn : Func} {p u v : Tmp} (h : fn.results = #[.cell p T, .tmp u, .tmp v]) (tmps : Array Value) (hp : tmps.getD p undef = .pointer (some ⟨x, 0, none⟩)) :
    (results fn tmps).run Try.prog w = .ok (.tuple #[recV r, tmps.getD u undef, tmps.getD v undef]) w :=
  let ⟨_, hu, hd⟩ := hT.under
  results_ctt h tmps w x _ _ _ _ hp hr.1 hu hd (by rw [hT.info]; simp [recL_len hr.2])

set_option maxHeartbeats 3200000 in
set_option maxRecDepth 100000 in
theorem begin_short (w : World) (s : ByteArray) (hs : s.size < 32) : Calls Try.prog 79 #[.string s] w (BPost w (Rec.zero, 0, 2)) := by
  have HR0 := Aside.mk (isRec.fresh 25 w (.cells recLit 25) rfl)
  have HF0 := Aside.mk ((Fr.refl (fun _ => False) w).alloc (.cells recLit 25))
  have HL2 : Aside ((Value.agg recLit).cells = (recL Rec.zero).toArray) := ⟨rfl⟩
  have hlt : decide ((s.size : Int) < 32) = true := by simp; omega
  go_enter Try.func79, Try.ntmps79
  go_wp2_with ((with_reducible refine gate (.store 25 (.tmp 2) (.tmp 14)) rfl ?_); refine st_all recT_ref rfl rfl (.tmp 2) (.tmp 14) rfl (w.heap.size) _ (Rec.zero) (.agg recLit) rfl rfl (HL2.out) (Rec.zero_ok) HR0.out ?_)
  intro z1 hx hf
  have HX9 := Aside.mk hx
  have HF9 := Aside.mk (HF0.out.trans hf (fun b hb q => by have q2 : b = w.heap.size := q; omega))
  clear hx hf
  go_wp2
  exact bodyPost_ret (rec_results3 recT_ref HX9.out rfl _ rfl) rfl ⟨rfl, HF9.out⟩

set_option maxHeartbeats 3200000 in
set_option maxRecDepth 100000 in
theorem begin_count (w : World) (s : ByteArray) (k : List UInt8) (n c e : Nat) (hs : 32 ≤ s.size) (hs2 : s.size ≤ 140737488355328) (hk : k.length = 32) (HK : BK s k) (HC : BC (s.extract 32 s.size) n c e) (he : ¬ e = 0) : Calls Try.prog 79 #[.string s] w (BPost w (Rec.zero, 0, e)) := by
  have HR0 := Aside.mk (isRec.fresh 25 w (.cells recLit 25) rfl)
  have HF0 := Aside.mk ((Fr.refl (fun _ => False) w).alloc (.cells recLit 25))
  have HL2 : Aside ((Value.agg recLit).cells = (recL Rec.zero).toArray) := ⟨rfl⟩
  have hlt : decide ((s.size : Int) < 32) = false := by simp; omega
  have HB : Aside (∀ W, (Instr.build 25 #[(0, keyV k)]).run Try.prog W = .ok (recV { Rec.zero with key := k }) W) := ⟨fun W => build_key recB_ref k hk W⟩
  have HKO : Aside (({ Rec.zero with key := k } : Rec).Ok) := ⟨hk, rfl⟩
  have heb : ((e : Int) == 0) = false := by simp; omega
  go_enter Try.func79, Try.ntmps79
  go_wp2_with fail
  refine (HK _).mono ?_
  rintro e1 w1 ⟨rfl, hf⟩
  have HF1 := Aside.mk (HF0.out.trans hf (fun _ _ q => q))
  have HR1 := Aside.mk (HR0.out.keep hf id)
  have HX1 := Aside.mk (isRec.fresh 25 w1 (.cells recLit 25) rfl)
  have HR1' : Aside (isRec 25 (w1.alloc (.cells recLit 25)) w.heap.size _) := ⟨HR1.out.keep ((Fr.refl (fun _ => False) _).alloc _) id⟩
  have HF1' := Aside.mk (HF1.out.alloc (.cells recLit 25))
  have hgw := lt_of_heap HR1.out.1
  clear hf
  go_wp2_with (first
    | ((with_reducible refine gate (.build 25 _) rfl ?_); refine bld (by simp [Region.wanted]) _ _ rfl _ (recV { Rec.zero with key := k }) (by simp only [List.map_toArray, List.map_cons, List.map_nil]; rfl) HB.out ?_)
    | ((with_reducible refine gate (.store 25 (.tmp 5) (.tmp 17)) rfl ?_); refine st_all recT_ref rfl rfl (.tmp 5) (.tmp 17) rfl (w1.heap.size) _ ({ Rec.zero with key := k }) (recV { Rec.zero with key := k }) rfl rfl (rfl) (HKO.out) HX1.out ?_))
  intro w2 hx hf
  have HX2 := Aside.mk hx
  have HR2 := Aside.mk (HR1'.out.keep hf (by omega))
  have HF2 := Aside.mk (HF1'.out.trans hf (fun b hb q => by have q2 : b = w1.heap.size := q; omega))
  clear hx hf
  go_wp2_with fail
  refine (HC _).mono ?_
  rintro e1 w3 ⟨rfl, rfl⟩
  go_wp2_with ((with_reducible refine gate (.store 25 (.tmp 2) (.tmp 28)) rfl ?_); refine st_all recT_ref rfl rfl (.tmp 2) (.tmp 28) rfl (w.heap.size) _ (Rec.zero) (.agg recLit) rfl rfl (HL2.out) (Rec.zero_ok) HR2.out ?_)
  intro z1 hx hf
  have HX9 := Aside.mk hx
  have HF9 := Aside.mk (HF2.out.trans hf (fun b hb q => by have q2 : b = w.heap.size := q; omega))
  clear hx hf
  go_wp2
  exact bodyPost_ret (rec_results3 recT_ref HX9.out rfl _ rfl) rfl ⟨rfl, HF9.out⟩

set_option maxHeartbeats 3200000 in
set_option maxRecDepth 100000 in
theorem begin_kind (w : World) (s : ByteArray) (k : List UInt8) (n c : Nat) (hs : 32 ≤ s.size) (hs2 : s.size ≤ 140737488355328) (hk : k.length = 32) (HK : BK s k) (HC : BC (s.extract 32 s.size) n c 0) (hn : 1 < n) : Calls Try.prog 79 #[.string s] w (BPost w (Rec.zero, 0, 3)) := by
  have HR0 := Aside.mk (isRec.fresh 25 w (.cells recLit 25) rfl)
  have HF0 := Aside.mk ((Fr.refl (fun _ => False) w).alloc (.cells recLit 25))
  have HL2 : Aside ((Value.agg recLit).cells = (recL Rec.zero).toArray) := ⟨rfl⟩
  have hlt : decide ((s.size : Int) < 32) = false := by simp; omega
  have HB : Aside (∀ W, (Instr.build 25 #[(0, keyV k)]).run Try.prog W = .ok (recV { Rec.zero with key := k }) W) := ⟨fun W => build_key recB_ref k hk W⟩
  have HKO : Aside (({ Rec.zero with key := k } : Rec).Ok) := ⟨hk, rfl⟩
  have hnb : decide ((1 : Int) < (n : Int)) = true := by simp; omega
  go_enter Try.func79, Try.ntmps79
  go_wp2_with fail
  refine (HK _).mono ?_
  rintro e1 w1 ⟨rfl, hf⟩
  have HF1 := Aside.mk (HF0.out.trans hf (fun _ _ q => q))
  have HR1 := Aside.mk (HR0.out.keep hf id)
  have HX1 := Aside.mk (isRec.fresh 25 w1 (.cells recLit 25) rfl)
  have HR1' : Aside (isRec 25 (w1.alloc (.cells recLit 25)) w.heap.size _) := ⟨HR1.out.keep ((Fr.refl (fun _ => False) _).alloc _) id⟩
  have HF1' := Aside.mk (HF1.out.alloc (.cells recLit 25))
  have hgw := lt_of_heap HR1.out.1
  clear hf
  go_wp2_with (first
    | ((with_reducible refine gate (.build 25 _) rfl ?_); refine bld (by simp [Region.wanted]) _ _ rfl _ (recV { Rec.zero with key := k }) (by simp only [List.map_toArray, List.map_cons, List.map_nil]; rfl) HB.out ?_)
    | ((with_reducible refine gate (.store 25 (.tmp 5) (.tmp 17)) rfl ?_); refine st_all recT_ref rfl rfl (.tmp 5) (.tmp 17) rfl (w1.heap.size) _ ({ Rec.zero with key := k }) (recV { Rec.zero with key := k }) rfl rfl (rfl) (HKO.out) HX1.out ?_))
  intro w2 hx hf
  have HX2 := Aside.mk hx
  have HR2 := Aside.mk (HR1'.out.keep hf (by omega))
  have HF2 := Aside.mk (HF1'.out.trans hf (fun b hb q => by have q2 : b = w1.heap.size := q; omega))
  clear hx hf
  go_wp2_with fail
  refine (HC _).mono ?_
  rintro e1 w3 ⟨rfl, rfl⟩
  go_wp2_with ((with_reducible refine gate (.store 25 (.tmp 2) (.tmp 32)) rfl ?_); refine st_all recT_ref rfl rfl (.tmp 2) (.tmp 32) rfl (w.heap.size) _ (Rec.zero) (.agg recLit) rfl rfl (HL2.out) (Rec.zero_ok) HR2.out ?_)
  intro z1 hx hf
  have HX9 := Aside.mk hx
  have HF9 := Aside.mk (HF2.out.trans hf (fun b hb q => by have q2 : b = w.heap.size := q; omega))
  clear hx hf
  go_wp2
  exact bodyPost_ret (rec_results3 recT_ref HX9.out rfl _ rfl) rfl ⟨rfl, HF9.out⟩

set_option maxHeartbeats 3200000 in
set_option maxRecDepth 100000 in
theorem begin_bare (w : World) (s : ByteArray) (k : List UInt8) (c : Nat) (hs : 32 ≤ s.size) (hs2 : s.size ≤ 140737488355328) (hk : k.length = 32) (HK : BK s k) (HC : BC (s.extract 32 s.size) 1 c 0) (hc : 32 + c ≤ s.size) (hb : s.size < 32 + c + 32) : Calls Try.prog 79 #[.string s] w (BPost w (Rec.zero, 0, 2)) := by
  have HR0 := Aside.mk (isRec.fresh 25 w (.cells recLit 25) rfl)
  have HF0 := Aside.mk ((Fr.refl (fun _ => False) w).alloc (.cells recLit 25))
  have HL2 : Aside ((Value.agg recLit).cells = (recL Rec.zero).toArray) := ⟨rfl⟩
  have hlt : decide ((s.size : Int) < 32) = false := by simp; omega
  have HB : Aside (∀ W, (Instr.build 25 #[(0, keyV k)]).run Try.prog W = .ok (recV { Rec.zero with key := k }) W) := ⟨fun W => build_key recB_ref k hk W⟩
  have HKO : Aside (({ Rec.zero with key := k } : Rec).Ok) := ⟨hk, rfl⟩
  have hwr : IntKind.i64.wrap (32 + (c : Int)) = 32 + (c : Int) := by simp [IntKind.wrap, IntKind.bits, IntKind.signed]; omega
  have hwr2 : IntKind.i64.wrap ((s.size : Int) - (32 + (c : Int))) = (s.size : Int) - (32 + (c : Int)) := by simp [IntKind.wrap, IntKind.bits, IntKind.signed]; omega
  have htn : (32 + (c : Int)).toNat = 32 + c := by omega
  have hc0 : (0 : Int) ≤ 32 + (c : Int) := by omega
  have hlb : decide ((s.size : Int) - (32 + (c : Int)) < 32) = true := by simp; omega
  go_enter Try.func79, Try.ntmps79
  go_wp2_with fail
  refine (HK _).mono ?_
  rintro e1 w1 ⟨rfl, hf⟩
  have HF1 := Aside.mk (HF0.out.trans hf (fun _ _ q => q))
  have HR1 := Aside.mk (HR0.out.keep hf id)
  have HX1 := Aside.mk (isRec.fresh 25 w1 (.cells recLit 25) rfl)
  have HR1' : Aside (isRec 25 (w1.alloc (.cells recLit 25)) w.heap.size _) := ⟨HR1.out.keep ((Fr.refl (fun _ => False) _).alloc _) id⟩
  have HF1' := Aside.mk (HF1.out.alloc (.cells recLit 25))
  have hgw := lt_of_heap HR1.out.1
  clear hf
  go_wp2_with (first
    | ((with_reducible refine gate (.build 25 _) rfl ?_); refine bld (by simp [Region.wanted]) _ _ rfl _ (recV { Rec.zero with key := k }) (by simp only [List.map_toArray, List.map_cons, List.map_nil]; rfl) HB.out ?_)
    | ((with_reducible refine gate (.store 25 (.tmp 5) (.tmp 17)) rfl ?_); refine st_all recT_ref rfl rfl (.tmp 5) (.tmp 17) rfl (w1.heap.size) _ ({ Rec.zero with key := k }) (recV { Rec.zero with key := k }) rfl rfl (rfl) (HKO.out) HX1.out ?_))
  intro w2 hx hf
  have HX2 := Aside.mk hx
  have HR2 := Aside.mk (HR1'.out.keep hf (by omega))
  have HF2 := Aside.mk (HF1'.out.trans hf (fun b hb q => by have q2 : b = w1.heap.size := q; omega))
  clear hx hf
  go_wp2_with fail
  refine (HC _).mono ?_
  rintro e1 w3 ⟨rfl, rfl⟩
  go_wp2_with ((with_reducible refine gate (.store 25 (.tmp 2) (.tmp 43)) rfl ?_); refine st_all recT_ref rfl rfl (.tmp 2) (.tmp 43) rfl (w.heap.size) _ (Rec.zero) (.agg recLit) rfl rfl (HL2.out) (Rec.zero_ok) HR2.out ?_)
  intro z1 hx hf
  have HX9 := Aside.mk hx
  have HF9 := Aside.mk (HF2.out.trans hf (fun b hb q => by have q2 : b = w.heap.size := q; omega))
  clear hx hf
  go_wp2
  exact bodyPost_ret (rec_results3 recT_ref HX9.out rfl _ rfl) rfl ⟨rfl, HF9.out⟩

set_option maxHeartbeats 3200000 in
set_option maxRecDepth 100000 in
theorem begin_full_text (w : World) (s : ByteArray) (k : List UInt8) (c : Nat) (hs : 32 ≤ s.size) (hs2 : s.size ≤ 140737488355328) (hk : k.length = 32) (HK : BK s k) (HC : BC (s.extract 32 s.size) 0 c 0) (hc : 32 + c ≤ s.size) (body : List UInt8) (m e : Nat) (he : ¬ e = 0) (HT : BT (s.extract (32 + c) s.size) body m e) : Calls Try.prog 79 #[.string s] w (BPost w (Rec.zero, 0, e)) := by
  have HR0 := Aside.mk (isRec.fresh 25 w (.cells recLit 25) rfl)
  have HF0 := Aside.mk ((Fr.refl (fun _ => False) w).alloc (.cells recLit 25))
  have HL2 : Aside ((Value.agg recLit).cells = (recL Rec.zero).toArray) := ⟨rfl⟩
  have hlt : decide ((s.size : Int) < 32) = false := by simp; omega
  have HB : Aside (∀ W, (Instr.build 25 #[(0, keyV k)]).run Try.prog W = .ok (recV { Rec.zero with key := k }) W) := ⟨fun W => build_key recB_ref k hk W⟩
  have HKO : Aside (({ Rec.zero with key := k } : Rec).Ok) := ⟨hk, rfl⟩
  have hwr : IntKind.i64.wrap (32 + (c : Int)) = 32 + (c : Int) := by simp [IntKind.wrap, IntKind.bits, IntKind.signed]; omega
  have hwr2 : IntKind.i64.wrap ((s.size : Int) - (32 + (c : Int))) = (s.size : Int) - (32 + (c : Int)) := by simp [IntKind.wrap, IntKind.bits, IntKind.signed]; omega
  have htn : (32 + (c : Int)).toNat = 32 + c := by omega
  have hc0 : (0 : Int) ≤ 32 + (c : Int) := by omega
  have heb : ((e : Int) == 0) = false := by simp; omega
  go_enter Try.func79, Try.ntmps79
  go_wp2_with fail
  refine (HK _).mono ?_
  rintro e1 w1 ⟨rfl, hf⟩
  have HF1 := Aside.mk (HF0.out.trans hf (fun _ _ q => q))
  have HR1 := Aside.mk (HR0.out.keep hf id)
  have HX1 := Aside.mk (isRec.fresh 25 w1 (.cells recLit 25) rfl)
  have HR1' : Aside (isRec 25 (w1.alloc (.cells recLit 25)) w.heap.size _) := ⟨HR1.out.keep ((Fr.refl (fun _ => False) _).alloc _) id⟩
  have HF1' := Aside.mk (HF1.out.alloc (.cells recLit 25))
  have hgw := lt_of_heap HR1.out.1
  clear hf
  go_wp2_with (first
    | ((with_reducible refine gate (.build 25 _) rfl ?_); refine bld (by simp [Region.wanted]) _ _ rfl _ (recV { Rec.zero with key := k }) (by simp only [List.map_toArray, List.map_cons, List.map_nil]; rfl) HB.out ?_)
    | ((with_reducible refine gate (.store 25 (.tmp 5) (.tmp 17)) rfl ?_); refine st_all recT_ref rfl rfl (.tmp 5) (.tmp 17) rfl (w1.heap.size) _ ({ Rec.zero with key := k }) (recV { Rec.zero with key := k }) rfl rfl (rfl) (HKO.out) HX1.out ?_))
  intro w2 hx hf
  have HX2 := Aside.mk hx
  have HR2 := Aside.mk (HR1'.out.keep hf (by omega))
  have HF2 := Aside.mk (HF1'.out.trans hf (fun b hb q => by have q2 : b = w1.heap.size := q; omega))
  clear hx hf
  go_wp2_with fail
  refine (HC _).mono ?_
  rintro e1 w3 ⟨rfl, rfl⟩
  go_wp2_with fail
  refine (HT _).mono ?_
  rintro e1 w6 ⟨rfl, rfl⟩
  go_wp2_with ((with_reducible refine gate (.store 25 (.tmp 2) (.tmp 62)) rfl ?_); refine st_all recT_ref rfl rfl (.tmp 2) (.tmp 62) rfl (w.heap.size) _ (Rec.zero) (.agg recLit) rfl rfl (HL2.out) (Rec.zero_ok) HR2.out ?_)
  intro z1 hx hf
  have HX9 := Aside.mk hx
  have HF9 := Aside.mk (HF2.out.trans hf (fun b hb q => by have q2 : b = w.heap.size := q; omega))
  clear hx hf
  go_wp2
  exact bodyPost_ret (rec_results3 recT_ref HX9.out rfl _ rfl) rfl ⟨rfl, HF9.out⟩

set_option maxHeartbeats 3200000 in
set_option maxRecDepth 100000 in
theorem begin_full_long (w : World) (s : ByteArray) (k : List UInt8) (c : Nat) (hs : 32 ≤ s.size) (hs2 : s.size ≤ 140737488355328) (hk : k.length = 32) (HK : BK s k) (HC : BC (s.extract 32 s.size) 0 c 0) (hc : 32 + c ≤ s.size) (body : List UInt8) (m : Nat) (hl : 8192 < body.length) (HT : BT (s.extract (32 + c) s.size) body m 0) : Calls Try.prog 79 #[.string s] w (BPost w (Rec.zero, 0, 6)) := by
  have HR0 := Aside.mk (isRec.fresh 25 w (.cells recLit 25) rfl)
  have HF0 := Aside.mk ((Fr.refl (fun _ => False) w).alloc (.cells recLit 25))
  have HL2 : Aside ((Value.agg recLit).cells = (recL Rec.zero).toArray) := ⟨rfl⟩
  have hlt : decide ((s.size : Int) < 32) = false := by simp; omega
  have HB : Aside (∀ W, (Instr.build 25 #[(0, keyV k)]).run Try.prog W = .ok (recV { Rec.zero with key := k }) W) := ⟨fun W => build_key recB_ref k hk W⟩
  have HKO : Aside (({ Rec.zero with key := k } : Rec).Ok) := ⟨hk, rfl⟩
  have hwr : IntKind.i64.wrap (32 + (c : Int)) = 32 + (c : Int) := by simp [IntKind.wrap, IntKind.bits, IntKind.signed]; omega
  have hwr2 : IntKind.i64.wrap ((s.size : Int) - (32 + (c : Int))) = (s.size : Int) - (32 + (c : Int)) := by simp [IntKind.wrap, IntKind.bits, IntKind.signed]; omega
  have htn : (32 + (c : Int)).toNat = 32 + c := by omega
  have hc0 : (0 : Int) ≤ 32 + (c : Int) := by omega
  have hbs : (ByteArray.mk body.toArray).size = body.length := by simp [ByteArray.size]
  have hlb2 : decide ((8192 : Int) < (body.length : Int)) = true := by simp; omega
  go_enter Try.func79, Try.ntmps79
  go_wp2_with fail
  refine (HK _).mono ?_
  rintro e1 w1 ⟨rfl, hf⟩
  have HF1 := Aside.mk (HF0.out.trans hf (fun _ _ q => q))
  have HR1 := Aside.mk (HR0.out.keep hf id)
  have HX1 := Aside.mk (isRec.fresh 25 w1 (.cells recLit 25) rfl)
  have HR1' : Aside (isRec 25 (w1.alloc (.cells recLit 25)) w.heap.size _) := ⟨HR1.out.keep ((Fr.refl (fun _ => False) _).alloc _) id⟩
  have HF1' := Aside.mk (HF1.out.alloc (.cells recLit 25))
  have hgw := lt_of_heap HR1.out.1
  clear hf
  go_wp2_with (first
    | ((with_reducible refine gate (.build 25 _) rfl ?_); refine bld (by simp [Region.wanted]) _ _ rfl _ (recV { Rec.zero with key := k }) (by simp only [List.map_toArray, List.map_cons, List.map_nil]; rfl) HB.out ?_)
    | ((with_reducible refine gate (.store 25 (.tmp 5) (.tmp 17)) rfl ?_); refine st_all recT_ref rfl rfl (.tmp 5) (.tmp 17) rfl (w1.heap.size) _ ({ Rec.zero with key := k }) (recV { Rec.zero with key := k }) rfl rfl (rfl) (HKO.out) HX1.out ?_))
  intro w2 hx hf
  have HX2 := Aside.mk hx
  have HR2 := Aside.mk (HR1'.out.keep hf (by omega))
  have HF2 := Aside.mk (HF1'.out.trans hf (fun b hb q => by have q2 : b = w1.heap.size := q; omega))
  clear hx hf
  go_wp2_with fail
  refine (HC _).mono ?_
  rintro e1 w3 ⟨rfl, rfl⟩
  go_wp2_with fail
  refine (HT _).mono ?_
  rintro e1 w6 ⟨rfl, rfl⟩
  go_wp2_with ((with_reducible refine gate (.store 25 (.tmp 2) (.tmp 67)) rfl ?_); refine st_all recT_ref rfl rfl (.tmp 2) (.tmp 67) rfl (w.heap.size) _ (Rec.zero) (.agg recLit) rfl rfl (HL2.out) (Rec.zero_ok) HR2.out ?_)
  intro z1 hx hf
  have HX9 := Aside.mk hx
  have HF9 := Aside.mk (HF2.out.trans hf (fun b hb q => by have q2 : b = w.heap.size := q; omega))
  clear hx hf
  go_wp2
  exact bodyPost_ret (rec_results3 recT_ref HX9.out rfl _ rfl) rfl ⟨rfl, HF9.out⟩

set_option maxHeartbeats 3200000 in
set_option maxRecDepth 100000 in
theorem begin_full_ok (w : World) (s : ByteArray) (k : List UInt8) (c : Nat) (hs : 32 ≤ s.size) (hs2 : s.size ≤ 140737488355328) (hk : k.length = 32) (HK : BK s k) (HC : BC (s.extract 32 s.size) 0 c 0) (hc : 32 + c ≤ s.size) (body : List UInt8) (m : Nat) (hl : ¬ 8192 < body.length) (hm : 32 + c + m ≤ s.size) (HT : BT (s.extract (32 + c) s.size) body m 0) : Calls Try.prog 79 #[.string s] w (BPost w (⟨k, zeros, false, body⟩, 32 + c + m, 0)) := by
  have HR0 := Aside.mk (isRec.fresh 25 w (.cells recLit 25) rfl)
  have HF0 := Aside.mk ((Fr.refl (fun _ => False) w).alloc (.cells recLit 25))
  have HL2 : Aside ((Value.agg recLit).cells = (recL Rec.zero).toArray) := ⟨rfl⟩
  have hlt : decide ((s.size : Int) < 32) = false := by simp; omega
  have HB : Aside (∀ W, (Instr.build 25 #[(0, keyV k)]).run Try.prog W = .ok (recV { Rec.zero with key := k }) W) := ⟨fun W => build_key recB_ref k hk W⟩
  have HKO : Aside (({ Rec.zero with key := k } : Rec).Ok) := ⟨hk, rfl⟩
  have hwr : IntKind.i64.wrap (32 + (c : Int)) = 32 + (c : Int) := by simp [IntKind.wrap, IntKind.bits, IntKind.signed]; omega
  have hwr2 : IntKind.i64.wrap ((s.size : Int) - (32 + (c : Int))) = (s.size : Int) - (32 + (c : Int)) := by simp [IntKind.wrap, IntKind.bits, IntKind.signed]; omega
  have htn : (32 + (c : Int)).toNat = 32 + c := by omega
  have hc0 : (0 : Int) ≤ 32 + (c : Int) := by omega
  have hbs : (ByteArray.mk body.toArray).size = body.length := by simp [ByteArray.size]
  have hlb2 : decide ((8192 : Int) < (body.length : Int)) = false := by simp; omega
  have hwr4 : IntKind.i64.wrap (32 + (c : Int) + (m : Int)) = 32 + (c : Int) + (m : Int) := by simp [IntKind.wrap, IntKind.bits, IntKind.signed]; omega
  have HOK : Aside ((⟨k, zeros, false, body⟩ : Rec).Ok) := ⟨hk, rfl⟩
  go_enter Try.func79, Try.ntmps79
  go_wp2_with fail
  refine (HK _).mono ?_
  rintro e1 w1 ⟨rfl, hf⟩
  have HF1 := Aside.mk (HF0.out.trans hf (fun _ _ q => q))
  have HR1 := Aside.mk (HR0.out.keep hf id)
  have HX1 := Aside.mk (isRec.fresh 25 w1 (.cells recLit 25) rfl)
  have HR1' : Aside (isRec 25 (w1.alloc (.cells recLit 25)) w.heap.size _) := ⟨HR1.out.keep ((Fr.refl (fun _ => False) _).alloc _) id⟩
  have HF1' := Aside.mk (HF1.out.alloc (.cells recLit 25))
  have hgw := lt_of_heap HR1.out.1
  clear hf
  go_wp2_with (first
    | ((with_reducible refine gate (.build 25 _) rfl ?_); refine bld (by simp [Region.wanted]) _ _ rfl _ (recV { Rec.zero with key := k }) (by simp only [List.map_toArray, List.map_cons, List.map_nil]; rfl) HB.out ?_)
    | ((with_reducible refine gate (.store 25 (.tmp 5) (.tmp 17)) rfl ?_); refine st_all recT_ref rfl rfl (.tmp 5) (.tmp 17) rfl (w1.heap.size) _ ({ Rec.zero with key := k }) (recV { Rec.zero with key := k }) rfl rfl (rfl) (HKO.out) HX1.out ?_))
  intro w2 hx hf
  have HX2 := Aside.mk hx
  have HR2 := Aside.mk (HR1'.out.keep hf (by omega))
  have HF2 := Aside.mk (HF1'.out.trans hf (fun b hb q => by have q2 : b = w1.heap.size := q; omega))
  clear hx hf
  go_wp2_with fail
  refine (HC _).mono ?_
  rintro e1 w3 ⟨rfl, rfl⟩
  go_wp2_with fail
  refine (HT _).mono ?_
  rintro e1 w6 ⟨rfl, rfl⟩
  go_wp2_with ((with_reducible refine gate (.store 9 (.tmp 69) (.tmp 68)) rfl ?_); refine st_body rfl rfl (.tmp 69) (.tmp 68) rfl w1.heap.size _ body rfl rfl HX2.out ?_)
  intro w7 hx hf
  have HX7 : Aside (isRec 25 w7 w1.heap.size ⟨k, zeros, false, body⟩) := ⟨hx⟩
  have HR7 := Aside.mk (HR2.out.keep hf (by omega))
  have HF7 := Aside.mk (HF2.out.trans hf (fun b hb q => by have q2 : b = w1.heap.size := q; omega))
  clear hx hf
  go_wp2_with (first | ((with_reducible refine gate (.load 25 (.tmp 5)) rfl ?_); refine ld_all recT_ref (by simp [Region.wanted]) (.tmp 5) rfl w1.heap.size ⟨k, zeros, false, body⟩ rfl HX7.out ?_) | ((with_reducible refine gate (.store 25 (.tmp 2) (.tmp 70)) rfl ?_); refine st_all recT_ref rfl rfl (.tmp 2) (.tmp 70) rfl (w.heap.size) _ (⟨k, zeros, false, body⟩) (recV ⟨k, zeros, false, body⟩) rfl rfl (rfl) (HOK.out) HR7.out ?_))
  intro z1 hx hf
  have HX9 := Aside.mk hx
  have HF9 := Aside.mk (HF7.out.trans hf (fun b hb q => by have q2 : b = w.heap.size := q; omega))
  clear hx hf
  go_wp2
  exact bodyPost_ret (rec_results3 recT_ref HX9.out rfl _ rfl) rfl ⟨rfl, HF9.out⟩

set_option maxHeartbeats 3200000 in
set_option maxRecDepth 100000 in
theorem begin_base_text (w : World) (s : ByteArray) (k : List UInt8) (c : Nat) (hs : 32 ≤ s.size) (hs2 : s.size ≤ 140737488355328) (hk : k.length = 32) (HK : BK s k) (HC : BC (s.extract 32 s.size) 1 c 0) (hc : 32 + c ≤ s.size) (b : List UInt8) (hb0 : 32 + c + 32 ≤ s.size) (hb : b.length = 32) (HK2 : BK (s.extract (32 + c) s.size) b) (body : List UInt8) (m e : Nat) (he : ¬ e = 0) (HT : BT (s.extract (64 + c) s.size) body m e) : Calls Try.prog 79 #[.string s] w (BPost w (Rec.zero, 0, e)) := by
  have HR0 := Aside.mk (isRec.fresh 25 w (.cells recLit 25) rfl)
  have HF0 := Aside.mk ((Fr.refl (fun _ => False) w).alloc (.cells recLit 25))
  have HL2 : Aside ((Value.agg recLit).cells = (recL Rec.zero).toArray) := ⟨rfl⟩
  have hlt : decide ((s.size : Int) < 32) = false := by simp; omega
  have HB : Aside (∀ W, (Instr.build 25 #[(0, keyV k)]).run Try.prog W = .ok (recV { Rec.zero with key := k }) W) := ⟨fun W => build_key recB_ref k hk W⟩
  have HKO : Aside (({ Rec.zero with key := k } : Rec).Ok) := ⟨hk, rfl⟩
  have hwr : IntKind.i64.wrap (32 + (c : Int)) = 32 + (c : Int) := by simp [IntKind.wrap, IntKind.bits, IntKind.signed]; omega
  have hwr2 : IntKind.i64.wrap ((s.size : Int) - (32 + (c : Int))) = (s.size : Int) - (32 + (c : Int)) := by simp [IntKind.wrap, IntKind.bits, IntKind.signed]; omega
  have htn : (32 + (c : Int)).toNat = 32 + c := by omega
  have hc0 : (0 : Int) ≤ 32 + (c : Int) := by omega
  have hlb : decide ((s.size : Int) - (32 + (c : Int)) < 32) = false := by simp; omega
  have hwr3 : IntKind.i64.wrap (32 + (c : Int) + 32) = 64 + (c : Int) := by simp [IntKind.wrap, IntKind.bits, IntKind.signed]; omega
  have htn3 : (64 + (c : Int)).toNat = 64 + c := by omega
  have hc3 : (0 : Int) ≤ 64 + (c : Int) := by omega
  have hsz3 : 64 + (c : Int) ≤ (s.size : Int) := by omega
  have heb : ((e : Int) == 0) = false := by simp; omega
  go_enter Try.func79, Try.ntmps79
  go_wp2_with fail
  refine (HK _).mono ?_
  rintro e1 w1 ⟨rfl, hf⟩
  have HF1 := Aside.mk (HF0.out.trans hf (fun _ _ q => q))
  have HR1 := Aside.mk (HR0.out.keep hf id)
  have HX1 := Aside.mk (isRec.fresh 25 w1 (.cells recLit 25) rfl)
  have HR1' : Aside (isRec 25 (w1.alloc (.cells recLit 25)) w.heap.size _) := ⟨HR1.out.keep ((Fr.refl (fun _ => False) _).alloc _) id⟩
  have HF1' := Aside.mk (HF1.out.alloc (.cells recLit 25))
  have hgw := lt_of_heap HR1.out.1
  clear hf
  go_wp2_with (first
    | ((with_reducible refine gate (.build 25 _) rfl ?_); refine bld (by simp [Region.wanted]) _ _ rfl _ (recV { Rec.zero with key := k }) (by simp only [List.map_toArray, List.map_cons, List.map_nil]; rfl) HB.out ?_)
    | ((with_reducible refine gate (.store 25 (.tmp 5) (.tmp 17)) rfl ?_); refine st_all recT_ref rfl rfl (.tmp 5) (.tmp 17) rfl (w1.heap.size) _ ({ Rec.zero with key := k }) (recV { Rec.zero with key := k }) rfl rfl (rfl) (HKO.out) HX1.out ?_))
  intro w2 hx hf
  have HX2 := Aside.mk hx
  have HR2 := Aside.mk (HR1'.out.keep hf (by omega))
  have HF2 := Aside.mk (HF1'.out.trans hf (fun b hb q => by have q2 : b = w1.heap.size := q; omega))
  clear hx hf
  go_wp2_with fail
  refine (HC _).mono ?_
  rintro e1 w3 ⟨rfl, rfl⟩
  go_wp2_with ((with_reducible refine gate (.store 4 (.tmp 44) (.const (.bool true))) rfl ?_); refine st_patch rfl rfl (.tmp 44) (.const (.bool true)) rfl w1.heap.size _ true rfl rfl HX2.out ?_)
  intro w3 hx hf
  have HX3 := Aside.mk hx
  have HR3 := Aside.mk (HR2.out.keep hf (by omega))
  have HF3 := Aside.mk (HF2.out.trans hf (fun b hb q => by have q2 : b = w1.heap.size := q; omega))
  clear hx hf
  go_wp2_with fail
  refine (HK2 _).mono ?_
  rintro e1 w4 ⟨rfl, hf⟩
  have HX4 := Aside.mk (HX3.out.keep hf id)
  have HR4 := Aside.mk (HR3.out.keep hf id)
  have HF4 := Aside.mk (HF3.out.trans hf (fun _ _ q => q))
  clear hf
  go_wp2_with ((with_reducible refine gate (.store 23 (.tmp 49) (.tmp 48)) rfl ?_); refine st_base rfl rfl (.tmp 49) (.tmp 48) rfl w1.heap.size _ b rfl rfl hb HX4.out ?_)
  intro w5 hx hf
  have HX5 := Aside.mk hx
  have HR5 := Aside.mk (HR4.out.keep hf (by omega))
  have HF5 := Aside.mk (HF4.out.trans hf (fun b hb q => by have q2 : b = w1.heap.size := q; omega))
  clear hx hf
  go_wp2_with fail
  refine (HT _).mono ?_
  rintro e1 w6 ⟨rfl, rfl⟩
  go_wp2_with ((with_reducible refine gate (.store 25 (.tmp 2) (.tmp 62)) rfl ?_); refine st_all recT_ref rfl rfl (.tmp 2) (.tmp 62) rfl (w.heap.size) _ (Rec.zero) (.agg recLit) rfl rfl (HL2.out) (Rec.zero_ok) HR5.out ?_)
  intro z1 hx hf
  have HX9 := Aside.mk hx
  have HF9 := Aside.mk (HF5.out.trans hf (fun b hb q => by have q2 : b = w.heap.size := q; omega))
  clear hx hf
  go_wp2
  exact bodyPost_ret (rec_results3 recT_ref HX9.out rfl _ rfl) rfl ⟨rfl, HF9.out⟩

set_option maxHeartbeats 3200000 in
set_option maxRecDepth 100000 in
theorem begin_base_long (w : World) (s : ByteArray) (k : List UInt8) (c : Nat) (hs : 32 ≤ s.size) (hs2 : s.size ≤ 140737488355328) (hk : k.length = 32) (HK : BK s k) (HC : BC (s.extract 32 s.size) 1 c 0) (hc : 32 + c ≤ s.size) (b : List UInt8) (hb0 : 32 + c + 32 ≤ s.size) (hb : b.length = 32) (HK2 : BK (s.extract (32 + c) s.size) b) (body : List UInt8) (m : Nat) (hl : 8192 < body.length) (HT : BT (s.extract (64 + c) s.size) body m 0) : Calls Try.prog 79 #[.string s] w (BPost w (Rec.zero, 0, 6)) := by
  have HR0 := Aside.mk (isRec.fresh 25 w (.cells recLit 25) rfl)
  have HF0 := Aside.mk ((Fr.refl (fun _ => False) w).alloc (.cells recLit 25))
  have HL2 : Aside ((Value.agg recLit).cells = (recL Rec.zero).toArray) := ⟨rfl⟩
  have hlt : decide ((s.size : Int) < 32) = false := by simp; omega
  have HB : Aside (∀ W, (Instr.build 25 #[(0, keyV k)]).run Try.prog W = .ok (recV { Rec.zero with key := k }) W) := ⟨fun W => build_key recB_ref k hk W⟩
  have HKO : Aside (({ Rec.zero with key := k } : Rec).Ok) := ⟨hk, rfl⟩
  have hwr : IntKind.i64.wrap (32 + (c : Int)) = 32 + (c : Int) := by simp [IntKind.wrap, IntKind.bits, IntKind.signed]; omega
  have hwr2 : IntKind.i64.wrap ((s.size : Int) - (32 + (c : Int))) = (s.size : Int) - (32 + (c : Int)) := by simp [IntKind.wrap, IntKind.bits, IntKind.signed]; omega
  have htn : (32 + (c : Int)).toNat = 32 + c := by omega
  have hc0 : (0 : Int) ≤ 32 + (c : Int) := by omega
  have hlb : decide ((s.size : Int) - (32 + (c : Int)) < 32) = false := by simp; omega
  have hwr3 : IntKind.i64.wrap (32 + (c : Int) + 32) = 64 + (c : Int) := by simp [IntKind.wrap, IntKind.bits, IntKind.signed]; omega
  have htn3 : (64 + (c : Int)).toNat = 64 + c := by omega
  have hc3 : (0 : Int) ≤ 64 + (c : Int) := by omega
  have hsz3 : 64 + (c : Int) ≤ (s.size : Int) := by omega
  have hbs : (ByteArray.mk body.toArray).size = body.length := by simp [ByteArray.size]
  have hlb2 : decide ((8192 : Int) < (body.length : Int)) = true := by simp; omega
  go_enter Try.func79, Try.ntmps79
  go_wp2_with fail
  refine (HK _).mono ?_
  rintro e1 w1 ⟨rfl, hf⟩
  have HF1 := Aside.mk (HF0.out.trans hf (fun _ _ q => q))
  have HR1 := Aside.mk (HR0.out.keep hf id)
  have HX1 := Aside.mk (isRec.fresh 25 w1 (.cells recLit 25) rfl)
  have HR1' : Aside (isRec 25 (w1.alloc (.cells recLit 25)) w.heap.size _) := ⟨HR1.out.keep ((Fr.refl (fun _ => False) _).alloc _) id⟩
  have HF1' := Aside.mk (HF1.out.alloc (.cells recLit 25))
  have hgw := lt_of_heap HR1.out.1
  clear hf
  go_wp2_with (first
    | ((with_reducible refine gate (.build 25 _) rfl ?_); refine bld (by simp [Region.wanted]) _ _ rfl _ (recV { Rec.zero with key := k }) (by simp only [List.map_toArray, List.map_cons, List.map_nil]; rfl) HB.out ?_)
    | ((with_reducible refine gate (.store 25 (.tmp 5) (.tmp 17)) rfl ?_); refine st_all recT_ref rfl rfl (.tmp 5) (.tmp 17) rfl (w1.heap.size) _ ({ Rec.zero with key := k }) (recV { Rec.zero with key := k }) rfl rfl (rfl) (HKO.out) HX1.out ?_))
  intro w2 hx hf
  have HX2 := Aside.mk hx
  have HR2 := Aside.mk (HR1'.out.keep hf (by omega))
  have HF2 := Aside.mk (HF1'.out.trans hf (fun b hb q => by have q2 : b = w1.heap.size := q; omega))
  clear hx hf
  go_wp2_with fail
  refine (HC _).mono ?_
  rintro e1 w3 ⟨rfl, rfl⟩
  go_wp2_with ((with_reducible refine gate (.store 4 (.tmp 44) (.const (.bool true))) rfl ?_); refine st_patch rfl rfl (.tmp 44) (.const (.bool true)) rfl w1.heap.size _ true rfl rfl HX2.out ?_)
  intro w3 hx hf
  have HX3 := Aside.mk hx
  have HR3 := Aside.mk (HR2.out.keep hf (by omega))
  have HF3 := Aside.mk (HF2.out.trans hf (fun b hb q => by have q2 : b = w1.heap.size := q; omega))
  clear hx hf
  go_wp2_with fail
  refine (HK2 _).mono ?_
  rintro e1 w4 ⟨rfl, hf⟩
  have HX4 := Aside.mk (HX3.out.keep hf id)
  have HR4 := Aside.mk (HR3.out.keep hf id)
  have HF4 := Aside.mk (HF3.out.trans hf (fun _ _ q => q))
  clear hf
  go_wp2_with ((with_reducible refine gate (.store 23 (.tmp 49) (.tmp 48)) rfl ?_); refine st_base rfl rfl (.tmp 49) (.tmp 48) rfl w1.heap.size _ b rfl rfl hb HX4.out ?_)
  intro w5 hx hf
  have HX5 := Aside.mk hx
  have HR5 := Aside.mk (HR4.out.keep hf (by omega))
  have HF5 := Aside.mk (HF4.out.trans hf (fun b hb q => by have q2 : b = w1.heap.size := q; omega))
  clear hx hf
  go_wp2_with fail
  refine (HT _).mono ?_
  rintro e1 w6 ⟨rfl, rfl⟩
  go_wp2_with ((with_reducible refine gate (.store 25 (.tmp 2) (.tmp 67)) rfl ?_); refine st_all recT_ref rfl rfl (.tmp 2) (.tmp 67) rfl (w.heap.size) _ (Rec.zero) (.agg recLit) rfl rfl (HL2.out) (Rec.zero_ok) HR5.out ?_)
  intro z1 hx hf
  have HX9 := Aside.mk hx
  have HF9 := Aside.mk (HF5.out.trans hf (fun b hb q => by have q2 : b = w.heap.size := q; omega))
  clear hx hf
  go_wp2
  exact bodyPost_ret (rec_results3 recT_ref HX9.out rfl _ rfl) rfl ⟨rfl, HF9.out⟩

set_option maxHeartbeats 3200000 in
set_option maxRecDepth 100000 in
theorem begin_base_ok (w : World) (s : ByteArray) (k : List UInt8) (c : Nat) (hs : 32 ≤ s.size) (hs2 : s.size ≤ 140737488355328) (hk : k.length = 32) (HK : BK s k) (HC : BC (s.extract 32 s.size) 1 c 0) (hc : 32 + c ≤ s.size) (b : List UInt8) (hb0 : 32 + c + 32 ≤ s.size) (hb : b.length = 32) (HK2 : BK (s.extract (32 + c) s.size) b) (body : List UInt8) (m : Nat) (hl : ¬ 8192 < body.length) (hm : 64 + c + m ≤ s.size) (HT : BT (s.extract (64 + c) s.size) body m 0) : Calls Try.prog 79 #[.string s] w (BPost w (⟨k, b, true, body⟩, 64 + c + m, 0)) := by
  have HR0 := Aside.mk (isRec.fresh 25 w (.cells recLit 25) rfl)
  have HF0 := Aside.mk ((Fr.refl (fun _ => False) w).alloc (.cells recLit 25))
  have HL2 : Aside ((Value.agg recLit).cells = (recL Rec.zero).toArray) := ⟨rfl⟩
  have hlt : decide ((s.size : Int) < 32) = false := by simp; omega
  have HB : Aside (∀ W, (Instr.build 25 #[(0, keyV k)]).run Try.prog W = .ok (recV { Rec.zero with key := k }) W) := ⟨fun W => build_key recB_ref k hk W⟩
  have HKO : Aside (({ Rec.zero with key := k } : Rec).Ok) := ⟨hk, rfl⟩
  have hwr : IntKind.i64.wrap (32 + (c : Int)) = 32 + (c : Int) := by simp [IntKind.wrap, IntKind.bits, IntKind.signed]; omega
  have hwr2 : IntKind.i64.wrap ((s.size : Int) - (32 + (c : Int))) = (s.size : Int) - (32 + (c : Int)) := by simp [IntKind.wrap, IntKind.bits, IntKind.signed]; omega
  have htn : (32 + (c : Int)).toNat = 32 + c := by omega
  have hc0 : (0 : Int) ≤ 32 + (c : Int) := by omega
  have hlb : decide ((s.size : Int) - (32 + (c : Int)) < 32) = false := by simp; omega
  have hwr3 : IntKind.i64.wrap (32 + (c : Int) + 32) = 64 + (c : Int) := by simp [IntKind.wrap, IntKind.bits, IntKind.signed]; omega
  have htn3 : (64 + (c : Int)).toNat = 64 + c := by omega
  have hc3 : (0 : Int) ≤ 64 + (c : Int) := by omega
  have hsz3 : 64 + (c : Int) ≤ (s.size : Int) := by omega
  have hbs : (ByteArray.mk body.toArray).size = body.length := by simp [ByteArray.size]
  have hlb2 : decide ((8192 : Int) < (body.length : Int)) = false := by simp; omega
  have hwr4 : IntKind.i64.wrap (64 + (c : Int) + (m : Int)) = 64 + (c : Int) + (m : Int) := by simp [IntKind.wrap, IntKind.bits, IntKind.signed]; omega
  have HOK : Aside ((⟨k, b, true, body⟩ : Rec).Ok) := ⟨hk, hb⟩
  go_enter Try.func79, Try.ntmps79
  go_wp2_with fail
  refine (HK _).mono ?_
  rintro e1 w1 ⟨rfl, hf⟩
  have HF1 := Aside.mk (HF0.out.trans hf (fun _ _ q => q))
  have HR1 := Aside.mk (HR0.out.keep hf id)
  have HX1 := Aside.mk (isRec.fresh 25 w1 (.cells recLit 25) rfl)
  have HR1' : Aside (isRec 25 (w1.alloc (.cells recLit 25)) w.heap.size _) := ⟨HR1.out.keep ((Fr.refl (fun _ => False) _).alloc _) id⟩
  have HF1' := Aside.mk (HF1.out.alloc (.cells recLit 25))
  have hgw := lt_of_heap HR1.out.1
  clear hf
  go_wp2_with (first
    | ((with_reducible refine gate (.build 25 _) rfl ?_); refine bld (by simp [Region.wanted]) _ _ rfl _ (recV { Rec.zero with key := k }) (by simp only [List.map_toArray, List.map_cons, List.map_nil]; rfl) HB.out ?_)
    | ((with_reducible refine gate (.store 25 (.tmp 5) (.tmp 17)) rfl ?_); refine st_all recT_ref rfl rfl (.tmp 5) (.tmp 17) rfl (w1.heap.size) _ ({ Rec.zero with key := k }) (recV { Rec.zero with key := k }) rfl rfl (rfl) (HKO.out) HX1.out ?_))
  intro w2 hx hf
  have HX2 := Aside.mk hx
  have HR2 := Aside.mk (HR1'.out.keep hf (by omega))
  have HF2 := Aside.mk (HF1'.out.trans hf (fun b hb q => by have q2 : b = w1.heap.size := q; omega))
  clear hx hf
  go_wp2_with fail
  refine (HC _).mono ?_
  rintro e1 w3 ⟨rfl, rfl⟩
  go_wp2_with ((with_reducible refine gate (.store 4 (.tmp 44) (.const (.bool true))) rfl ?_); refine st_patch rfl rfl (.tmp 44) (.const (.bool true)) rfl w1.heap.size _ true rfl rfl HX2.out ?_)
  intro w3 hx hf
  have HX3 := Aside.mk hx
  have HR3 := Aside.mk (HR2.out.keep hf (by omega))
  have HF3 := Aside.mk (HF2.out.trans hf (fun b hb q => by have q2 : b = w1.heap.size := q; omega))
  clear hx hf
  go_wp2_with fail
  refine (HK2 _).mono ?_
  rintro e1 w4 ⟨rfl, hf⟩
  have HX4 := Aside.mk (HX3.out.keep hf id)
  have HR4 := Aside.mk (HR3.out.keep hf id)
  have HF4 := Aside.mk (HF3.out.trans hf (fun _ _ q => q))
  clear hf
  go_wp2_with ((with_reducible refine gate (.store 23 (.tmp 49) (.tmp 48)) rfl ?_); refine st_base rfl rfl (.tmp 49) (.tmp 48) rfl w1.heap.size _ b rfl rfl hb HX4.out ?_)
  intro w5 hx hf
  have HX5 := Aside.mk hx
  have HR5 := Aside.mk (HR4.out.keep hf (by omega))
  have HF5 := Aside.mk (HF4.out.trans hf (fun b hb q => by have q2 : b = w1.heap.size := q; omega))
  clear hx hf
  go_wp2_with fail
  refine (HT _).mono ?_
  rintro e1 w6 ⟨rfl, rfl⟩
  go_wp2_with ((with_reducible refine gate (.store 9 (.tmp 69) (.tmp 68)) rfl ?_); refine st_body rfl rfl (.tmp 69) (.tmp 68) rfl w1.heap.size _ body rfl rfl HX5.out ?_)
  intro w7 hx hf
  have HX7 : Aside (isRec 25 w7 w1.heap.size ⟨k, b, true, body⟩) := ⟨hx⟩
  have HR7 := Aside.mk (HR5.out.keep hf (by omega))
  have HF7 := Aside.mk (HF5.out.trans hf (fun b hb q => by have q2 : b = w1.heap.size := q; omega))
  clear hx hf
  go_wp2_with (first | ((with_reducible refine gate (.load 25 (.tmp 5)) rfl ?_); refine ld_all recT_ref (by simp [Region.wanted]) (.tmp 5) rfl w1.heap.size ⟨k, b, true, body⟩ rfl HX7.out ?_) | ((with_reducible refine gate (.store 25 (.tmp 2) (.tmp 70)) rfl ?_); refine st_all recT_ref rfl rfl (.tmp 2) (.tmp 70) rfl (w.heap.size) _ (⟨k, b, true, body⟩) (recV ⟨k, b, true, body⟩) rfl rfl (rfl) (HOK.out) HR7.out ?_))
  intro z1 hx hf
  have HX9 := Aside.mk hx
  have HF9 := Aside.mk (HF7.out.trans hf (fun b hb q => by have q2 : b = w.heap.size := q; omega))
  clear hx hf
  go_wp2
  exact bodyPost_ret (rec_results3 recT_ref HX9.out rfl _ rfl) rfl ⟨rfl, HF9.out⟩

theorem begin_any (w : World) (s : ByteArray) (hs : s.size ≤ 140737488355328) : Calls Try.prog 79 #[.string s] w (BPost w (rdRec s.data.toList)) := by
  have hsl := ba_size s
  by_cases h1 : s.size < 32
  · have e : rdRec s.data.toList = (Rec.zero, 0, 2) := by unfold rdRec; rw [if_pos (by omega)]
    rw [e]; exact begin_short w s h1
  have hs32 : 32 ≤ s.size := by omega
  have HK : BK s (s.data.toList.take 32) := fun W => rkey_any W s hs32 hs
  have hx : ∀ a, a ≤ s.size → (s.extract a s.size).data.toList = s.data.toList.drop a := fun a ha => by
    have hb := ba_from s.data.toList a
    rw [Array.toArray_toList, ← hsl] at hb
    rw [show s.extract a s.size = _ from hb]
  have hxs : ∀ a, a ≤ s.size → (s.extract a s.size).size = s.size - a := fun a ha => by simp
  have HC : BC (s.extract 32 s.size) (rdCount (s.data.toList.drop 32)).1 (rdCount (s.data.toList.drop 32)).2.1 (rdCount (s.data.toList.drop 32)).2.2 := fun W => by
    have h := rreadcount_any W (s.extract 32 s.size) (by rw [hxs _ hs32]; omega)
    rw [hx _ hs32] at h; exact h
  have HT : ∀ a, a ≤ s.size → BT (s.extract a s.size) (rdText (s.data.toList.drop a)).1 (rdText (s.data.toList.drop a)).2.1 (rdText (s.data.toList.drop a)).2.2 := fun a ha W => by
    have h := rreadtext_any W (s.extract a s.size) (by rw [hxs _ ha]; omega)
    rw [hx _ ha] at h; exact h
  have hk : (s.data.toList.take 32).length = 32 := by simp; omega
  have hcl := rdCount_lt (s.data.toList.drop 32)
  have hcs := rdCount_size (s.data.toList.drop 32)
  rw [List.length_drop, ← hsl] at hcs
  have e0 : rdRec s.data.toList = rdKind (s.data.toList.take 32) (s.data.toList.drop 32) := by unfold rdRec; rw [if_neg (by omega)]
  rw [e0]
  unfold rdKind
  simp only [List.drop_drop]
  generalize rdCount (s.data.toList.drop 32) = Q at *
  obtain ⟨n, c, e⟩ := Q
  simp only at HC hcl hcs ⊢
  generalize s.data.toList.take 32 = k at *
  by_cases he : e = 0
  rotate_left
  · rw [if_pos he]; exact begin_count w s k n c e hs32 hs hk HK HC he
  subst he
  rw [if_neg (by simp)]
  by_cases hn : 1 < n
  · rw [if_pos hn]; exact begin_kind w s k n c hs32 hs hk HK HC hn
  rw [if_neg hn]
  have hc : 32 + c ≤ s.size := by omega
  by_cases hn1 : n = 1
  · subst hn1
    rw [if_pos rfl, List.length_drop, ← hsl]
    by_cases hb : s.size - (32 + c) < 32
    · rw [if_pos hb]; exact begin_bare w s k c hs32 hs hk HK HC hc (by omega)
    rw [if_neg hb]
    have hb0 : 32 + c + 32 ≤ s.size := by omega
    have HK2 : BK (s.extract (32 + c) s.size) ((s.data.toList.drop (32 + c)).take 32) := fun W => by
      have h := rkey_any W (s.extract (32 + c) s.size) (by rw [hxs _ hc]; omega) (by rw [hxs _ hc]; omega)
      rw [hx _ hc] at h; exact h
    have hbl : ((s.data.toList.drop (32 + c)).take 32).length = 32 := by simp; omega
    generalize (s.data.toList.drop (32 + c)).take 32 = b at *
    have HT1 := HT (64 + c) (by omega)
    rw [show 32 + c + 32 = 64 + c by omega]
    have htl := rdText_size (s.data.toList.drop (64 + c))
    rw [List.length_drop, ← hsl] at htl
    unfold rdBody
    generalize rdText (s.data.toList.drop (64 + c)) = T at *
    obtain ⟨body, m, e⟩ := T
    simp only at HT1 htl ⊢
    by_cases he : e = 0
    rotate_left
    · rw [if_pos he]; exact begin_base_text w s k c hs32 hs hk HK HC hc b hb0 hbl HK2 body m e he HT1
    subst he
    rw [if_neg (by simp)]
    by_cases hl : 8192 < body.length
    · rw [if_pos hl]; exact begin_base_long w s k c hs32 hs hk HK HC hc b hb0 hbl HK2 body m hl HT1
    · rw [if_neg hl]; exact begin_base_ok w s k c hs32 hs hk HK HC hc b hb0 hbl HK2 body m hl (by omega) HT1
  · obtain rfl : n = 0 := by omega
    rw [if_neg (by simp)]
    have HT1 := HT (32 + c) (by omega)
    have htl := rdText_size (s.data.toList.drop (32 + c))
    rw [List.length_drop, ← hsl] at htl
    unfold rdBody
    generalize rdText (s.data.toList.drop (32 + c)) = T at *
    obtain ⟨body, m, e⟩ := T
    simp only at HT1 htl ⊢
    by_cases he : e = 0
    rotate_left
    · rw [if_pos he]; exact begin_full_text w s k c hs32 hs hk HK HC hc body m e he HT1
    subst he
    rw [if_neg (by simp)]
    by_cases hl : 8192 < body.length
    · rw [if_pos hl]; exact begin_full_long w s k c hs32 hs hk HK HC hc body m hl HT1
    · rw [if_neg hl]; exact begin_full_ok w s k c hs32 hs hk HK HC hc body m hl (by omega) HT1
end Go.Proofs.Ytodhkdmkkjhnnaa
