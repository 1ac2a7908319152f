/- The walk of silolaw17.BoxOpens. Printed by gen_opens.py. -/
import Derived.Test.YtodhkdmkkjhnnaaAwake17
import Derived.Test.YtodhkdmkkjhnnaaTheirs
import Derived.Test.YtodhkdmkkjhnnaaRefOpen
import Derived.Test.YtodhkdmkkjhnnaaPure17
import Derived.Deep.RegionHeld3
import Derived.Deep.MidRow
set_option linter.unusedVariables false
set_option linter.unusedSimpArgs false
namespace Go.Proofs.Ytodhkdmkkjhnnaa
open Go.RowKit

def OA (T : List UInt8) (r : Rec) (e : Nat) : Prop := ∀ W, Calls Try.prog 20 #[.string ⟨T.toArray⟩] W fun e1 w' => e1 = .returned (.tuple #[recV r, .int .i64 (e : Nat)]) ∧ Fr (fun _ => False) W w'
def OB (T : List UInt8) (r : Rec) (e : Nat) : Prop := ∀ W, Calls Try.prog 21 #[.string ⟨T.toArray⟩] W fun e1 w' => e1 = .returned (.tuple #[recV r, .int .i64 (e : Nat)]) ∧ Fr (fun _ => False) W w'
def PA (r : Rec) (T : List UInt8) : Prop := ∀ W, Calls Try.prog 16 #[recV r] W fun e1 w' => e1 = .returned (.tuple #[.string ⟨T.toArray⟩, .int .i64 0]) ∧ Fr (fun _ => False) W w'
def PU (l T : List UInt8) : Prop := ∀ W, Calls Try.prog 19 #[.string ⟨l.toArray⟩] W fun e1 w' => e1 = .returned (.string ⟨T.toArray⟩) ∧ Fr (fun _ => False) W w'

theorem yi_ld {T : Nat} (hT : RecT T) {ops : Array Oper} {S : World → Prop} {o : Oper} {a : Act} (hw : Region.wanted o (yielded ops a.tmps) = true) (x : Operand) (ho : o.op = .load T x) (g : Nat) (r : Rec) (u : Value) (hu : recV r = u) (hx : a.eval x = .pointer (some ⟨g, 0, none⟩))
    (hS : ∀ w, S w → isRec T w g r) : YieldsIf Try.prog ops S o u a := .inl ⟨hw, fun w hw' => by
  obtain ⟨d, hun, hd⟩ := hT.under
  have hr := hS w hw'
  have hl := run_loadVar_part w g 0 66 T T _ _ d hr.1 hun hd hT.info (by simp [recL_len hr.2])
  rw [List.drop_zero, List.take_of_length_le (by simp [recL_len hr.2]), Array.toArray_toList] at hl
  unfold execOp
  simp only [ho, hx, Instr.loadAt, Instr.sureAddr, Sem.run_bind, Sem.run_pure, Result.andThen_ok, hl]
  rw [← hu]; rfl⟩

set_option maxHeartbeats 3200000 in
set_option maxRecDepth 100000 in
theorem opens_long (w : World) (s : ByteArray) (b : Bool) (hl : 30000 < s.size) : Calls Try.prog 4 #[.string s, .bool b] w fun e w' => e = .returned (.bool true) ∧ Fr (fun _ => False) w w' := by
  have HA := Aside.mk (fun W => awake_any W)
  have hl1 : decide ((30000:Int) < (s.size : Int)) = true := by simp; omega
  go_enter Try.func4, Try.ntmps4
  go_wp2_with fail
  refine (HA.out _).mono ?_
  rintro e w1 ⟨rfl, hf⟩
  have HF1 := Aside.mk hf
  clear hf
  go_wp2_with fail
  refine (HA.out _).mono ?_
  rintro e w2 ⟨rfl, hf⟩
  have HF2 := Aside.mk (HF1.out.trans hf (fun _ _ q => q))
  clear hf
  go_wp2
  go_ret
  exact ⟨rfl, HF2.out⟩

set_option maxHeartbeats 6400000 in
set_option maxRecDepth 100000 in
theorem opens_raw_ok (w : World) (S : List UInt8) (r : Rec) (hr : r.Ok) (hl : ¬ 30000 < S.length) (HOA : OA S r 0) (HOB : OB S r 0) (HPA : PA r S) : Calls Try.prog 4 #[.string ⟨S.toArray⟩, .bool false] w fun e w' => e = .returned (.bool true) ∧ Fr (fun _ => False) w w' := by
  have HA := Aside.mk (fun W => awake_any W)
  have HTH := Aside.mk (fun W => theirs_any W r hr)
  have hbs : (ByteArray.mk S.toArray).size = S.length := by simp [ByteArray.size]
  have hl1 : decide ((30000:Int) < (S.length : Int)) = false := by simp; omega
  unfold OA at HOA
  unfold OB at HOB
  unfold PA at HPA
  unfold recV at *
  generalize hL : recL r = L at *
  have HV : Aside (recV r = .agg L.toArray) := ⟨by rw [recV, hL]⟩
  have HC : Aside ((Value.agg L.toArray).cells = (recL r).toArray) := ⟨by rw [hL]; rfl⟩
  replace HOA := Aside.mk HOA
  replace HOB := Aside.mk HOB
  have hL2 := Aside.mk hL
  replace HPA := Aside.mk HPA
  clear hL
  go_enter Try.func4, Try.ntmps4
  go_wp2_with fail
  refine (HA.out _).mono ?_
  rintro e1 w1 ⟨rfl, hf⟩
  have HF1 := Aside.mk hf
  clear hf
  go_wp2_with fail
  refine (HOA.out _).mono ?_
  rintro e1 w3 ⟨rfl, hf⟩
  have HF3 := Aside.mk (HF1.out.trans hf (fun _ _ q => q))
  have HX3 := Aside.mk (isRec.fresh 30 w3 (.cells recLit 30) rfl)
  have HW3 := Aside.mk (HF3.out.alloc (.cells recLit 30))
  have hlw3 := HF3.out.size
  clear hf
  go_wp2_with ((with_reducible refine gate (.store 30 (.tmp 5) (.tmp 25)) rfl ?_); refine st_all recT_box rfl rfl (.tmp 5) (.tmp 25) rfl w3.heap.size _ r (.agg L.toArray) rfl rfl HC.out hr HX3.out ?_)
  intro w4 hx hf
  have HX4 := Aside.mk hx
  have HF4 := Aside.mk (HW3.out.trans hf (fun b hb q => by have q2 : b = w3.heap.size := q; omega))
  have hlt3 := lt_of_heap hx.1
  clear hx hf
  go_wp2_with fail
  refine (HOB.out _).mono ?_
  rintro e1 w5 ⟨rfl, hf⟩
  have HF5 := Aside.mk (HF4.out.trans hf (fun _ _ q => q))
  have HX5 := Aside.mk (HX4.out.keep hf id)
  have HX5' : Aside (isRec 30 (w5.alloc (.cells recLit 25)) w3.heap.size _) := ⟨HX5.out.keep ((Fr.refl (fun _ => False) _).alloc _) id⟩
  have hlt5 := lt_of_heap HX5.out.1
  have HY5 := Aside.mk (isRec.fresh 25 w5 (.cells recLit 25) rfl)
  have HW5 := Aside.mk (HF5.out.alloc (.cells recLit 25))
  have hlw5 := HF5.out.size
  clear hf
  go_wp2_with ((with_reducible refine gate (.store 25 (.tmp 7) (.tmp 30)) rfl ?_); refine st_all recT_ref rfl rfl (.tmp 7) (.tmp 30) rfl w5.heap.size _ r (.agg L.toArray) rfl rfl HC.out hr HY5.out ?_)
  intro w6 hx hf
  have HY6 := Aside.mk hx
  have HX6 := Aside.mk (HX5'.out.keep hf (by omega))
  have HF6 := Aside.mk (HW5.out.trans hf (fun b hb q => by have q2 : b = w5.heap.size := q; omega))
  have HXd : Aside (isRec 30 w6.drew w3.heap.size r) := ⟨HX6.out⟩
  have HYd : Aside (isRec 25 w6.drew w5.heap.size r) := ⟨HY6.out⟩
  have HFd := Aside.mk (HF6.out.drew)
  clear hx hf
  go_wp2_with fail
  refine wp_region_held_drew (S := fun w' => isRec 30 w' w3.heap.size r ∧ isRec 25 w' w5.heap.size r) (by kernel_rfl) ⟨HXd.out, HYd.out⟩ (fun hHeld => ?_)
  refine wpAnyH_take (i := 0) (v := .agg L.toArray) rfl (by kernel_rfl) (by kernel_rfl) (by kernel_rfl) (fun _ _ _ h => h) (yi_ld recT_box (by simp [Region.wanted, yielded]) (.tmp 5) rfl w3.heap.size r _ HV.out rfl (fun w h => h.1)) hHeld ?_
  simp only [Act.put, List.setIfInBounds_toArray, List.set_cons_zero, List.set_cons_succ]
  refine wpAnyH_take (i := 1) (v := .agg L.toArray) rfl (by kernel_rfl) (by kernel_rfl) (by kernel_rfl) (fun _ _ _ h => h) (yi_ld recT_ref (by simp [Region.wanted, yielded]) (.tmp 7) rfl w5.heap.size r _ HV.out rfl (fun w h => h.2)) hHeld ?_
  simp only [Act.put, List.setIfInBounds_toArray, List.set_cons_zero, List.set_cons_succ]
  have HHd := Aside.mk hHeld
  clear hHeld
  refine wpAnyH_ready (rs := [2]) (by kernel_rfl) (by simp) ?_
  refine AllReadyH.cons rfl (fun K hK => ?_) AllReadyH.nil
  go_simp
  refine (HTH.out _).mono ?_
  rintro e1 w7 ⟨rfl, hf⟩
  have HX7 := Aside.mk (HXd.out.keep hf id)
  have HF7 := Aside.mk (HFd.out.trans hf (fun _ _ q => q))
  have HH7 : Aside (isRec 30 w7 w3.heap.size r ∧ isRec 25 w7 w5.heap.size r) := ⟨⟨HX7.out, HYd.out.keep hf id⟩⟩
  clear hf
  go_wp2_with fail
  refine hK.out _ _ HH7.out (fun _ => ?_)
  clear hK K
  have hk1 : L.take 32 = r.key.map byt := by rw [← hL2.out]; simp [recL, hr.1]
  have hk2 : (L.drop 32).take 32 = r.base.map byt := by rw [← hL2.out]; simp [recL, hr.1, hr.2]
  have h64 : L[64]? = some (.bool r.patch) := by rw [← hL2.out]; exact recL_patch hr
  have h65 : L[65]? = some (.string ⟨r.body.toArray⟩) := by rw [← hL2.out]; exact recL_body hr
  have hE1 : ∀ W, (Op.equalIn 9999 23 (.agg (r.key.map byt).toArray) (.agg (r.key.map byt).toArray)).run Try.prog W = .ok true W := fun W => by rw [eq_bytes 9997 23 32 r.key r.key W Try.underlying23 hr.1 hr.1, decide_eq_true rfl]
  have hE2 : ∀ W, (Op.equalIn 9999 23 (.agg (r.base.map byt).toArray) (.agg (r.base.map byt).toArray)).run Try.prog W = .ok true W := fun W => by rw [eq_bytes 9997 23 32 r.base r.base W Try.underlying23 hr.2 hr.2, decide_eq_true rfl]
  refine wpAnyH_take (i := 3) (v := ?_) rfl (by kernel_rfl) (by kernel_rfl) (by kernel_rfl) (fun _ _ _ h => h) (Or.inl ⟨by rfl, ?_⟩) HH7.out ?_
  rotate_left
  · intro w hSw; clear hSw; go_simp; with_reducible rfl
  rotate_left
  try simp only [Act.put, List.setIfInBounds_toArray, List.set_cons_zero, List.set_cons_succ]
  refine wpAnyH_take (i := 4) (v := ?_) rfl (by kernel_rfl) (by kernel_rfl) (by kernel_rfl) (fun _ _ _ h => h) (Or.inl ⟨by rfl, ?_⟩) HH7.out ?_
  rotate_left
  · intro w hSw; clear hSw; go_simp; with_reducible rfl
  rotate_left
  try simp only [Act.put, List.setIfInBounds_toArray, List.set_cons_zero, List.set_cons_succ]
  refine wpAnyH_take (i := 5) (v := ?_) rfl (by kernel_rfl) (by kernel_rfl) (by kernel_rfl) (fun _ _ _ h => h) (Or.inl ⟨by rfl, ?_⟩) HH7.out ?_
  rotate_left
  · intro w hSw; clear hSw; go_simp; with_reducible rfl
  rotate_left
  try simp only [Act.put, List.setIfInBounds_toArray, List.set_cons_zero, List.set_cons_succ]
  refine wpAnyH_take (i := 6) (v := ?_) rfl (by kernel_rfl) (by kernel_rfl) (by kernel_rfl) (fun _ _ _ h => h) (Or.inl ⟨by rfl, ?_⟩) HH7.out ?_
  rotate_left
  · intro w hSw; clear hSw; go_simp; with_reducible rfl
  rotate_left
  try simp only [Act.put, List.setIfInBounds_toArray, List.set_cons_zero, List.set_cons_succ]
  refine wpAnyH_take (i := 7) (v := ?_) rfl (by kernel_rfl) (by kernel_rfl) (by kernel_rfl) (fun _ _ _ h => h) (Or.inl ⟨by rfl, ?_⟩) HH7.out ?_
  rotate_left
  · intro w hSw; clear hSw; go_simp; with_reducible rfl
  rotate_left
  try simp only [Act.put, List.setIfInBounds_toArray, List.set_cons_zero, List.set_cons_succ]
  refine wpAnyH_take (i := 8) (v := ?_) rfl (by kernel_rfl) (by kernel_rfl) (by kernel_rfl) (fun _ _ _ h => h) (Or.inl ⟨by rfl, ?_⟩) HH7.out ?_
  rotate_left
  · intro w hSw; clear hSw; go_simp; with_reducible rfl
  rotate_left
  try simp only [Act.put, List.setIfInBounds_toArray, List.set_cons_zero, List.set_cons_succ]
  refine wpAnyH_done (by kernel_rfl) ?_ _
  clear hk1 hk2 h64 h65 hE1 hE2
  go_wp2_with ((with_reducible refine gate (.load 30 (.tmp 5)) rfl ?_); refine ld_all recT_box (by simp [Region.wanted]) (.tmp 5) rfl w3.heap.size r rfl HX7.out ?_; rw [HV.out])
  refine (HPA.out _).mono ?_
  rintro e1 w8 ⟨rfl, hf⟩
  have HF8 := Aside.mk (HF7.out.trans hf (fun _ _ q => q))
  clear hf
  go_wp2
  go_ret
  exact ⟨rfl, HF8.out⟩

set_option maxHeartbeats 6400000 in
set_option maxRecDepth 100000 in
theorem opens_raw_no (w : World) (S : List UInt8) (r : Rec) (e : Nat) (hr : r.Ok) (hl : ¬ 30000 < S.length) (he : ¬ e = 0) (HOA : OA S r e) (HOB : OB S r e) : Calls Try.prog 4 #[.string ⟨S.toArray⟩, .bool false] w fun e w' => e = .returned (.bool true) ∧ Fr (fun _ => False) w w' := by
  have HA := Aside.mk (fun W => awake_any W)
  have HTH := Aside.mk (fun W => theirs_any W r hr)
  have hbs : (ByteArray.mk S.toArray).size = S.length := by simp [ByteArray.size]
  have hl1 : decide ((30000:Int) < (S.length : Int)) = false := by simp; omega
  have heb : ((e : Int) == 0) = false := by simp; omega
  unfold OA at HOA
  unfold OB at HOB
  unfold recV at *
  generalize hL : recL r = L at *
  have HV : Aside (recV r = .agg L.toArray) := ⟨by rw [recV, hL]⟩
  have HC : Aside ((Value.agg L.toArray).cells = (recL r).toArray) := ⟨by rw [hL]; rfl⟩
  replace HOA := Aside.mk HOA
  replace HOB := Aside.mk HOB
  have hL2 := Aside.mk hL
  clear hL
  go_enter Try.func4, Try.ntmps4
  go_wp2_with fail
  refine (HA.out _).mono ?_
  rintro e1 w1 ⟨rfl, hf⟩
  have HF1 := Aside.mk hf
  clear hf
  go_wp2_with fail
  refine (HOA.out _).mono ?_
  rintro e1 w3 ⟨rfl, hf⟩
  have HF3 := Aside.mk (HF1.out.trans hf (fun _ _ q => q))
  have HX3 := Aside.mk (isRec.fresh 30 w3 (.cells recLit 30) rfl)
  have HW3 := Aside.mk (HF3.out.alloc (.cells recLit 30))
  have hlw3 := HF3.out.size
  clear hf
  go_wp2_with ((with_reducible refine gate (.store 30 (.tmp 5) (.tmp 25)) rfl ?_); refine st_all recT_box rfl rfl (.tmp 5) (.tmp 25) rfl w3.heap.size _ r (.agg L.toArray) rfl rfl HC.out hr HX3.out ?_)
  intro w4 hx hf
  have HX4 := Aside.mk hx
  have HF4 := Aside.mk (HW3.out.trans hf (fun b hb q => by have q2 : b = w3.heap.size := q; omega))
  have hlt3 := lt_of_heap hx.1
  clear hx hf
  go_wp2_with fail
  refine (HOB.out _).mono ?_
  rintro e1 w5 ⟨rfl, hf⟩
  have HF5 := Aside.mk (HF4.out.trans hf (fun _ _ q => q))
  have HX5 := Aside.mk (HX4.out.keep hf id)
  have HX5' : Aside (isRec 30 (w5.alloc (.cells recLit 25)) w3.heap.size _) := ⟨HX5.out.keep ((Fr.refl (fun _ => False) _).alloc _) id⟩
  have hlt5 := lt_of_heap HX5.out.1
  have HY5 := Aside.mk (isRec.fresh 25 w5 (.cells recLit 25) rfl)
  have HW5 := Aside.mk (HF5.out.alloc (.cells recLit 25))
  have hlw5 := HF5.out.size
  clear hf
  go_wp2_with ((with_reducible refine gate (.store 25 (.tmp 7) (.tmp 30)) rfl ?_); refine st_all recT_ref rfl rfl (.tmp 7) (.tmp 30) rfl w5.heap.size _ r (.agg L.toArray) rfl rfl HC.out hr HY5.out ?_)
  intro w6 hx hf
  have HY6 := Aside.mk hx
  have HX6 := Aside.mk (HX5'.out.keep hf (by omega))
  have HF6 := Aside.mk (HW5.out.trans hf (fun b hb q => by have q2 : b = w5.heap.size := q; omega))
  have HXd : Aside (isRec 30 w6.drew w3.heap.size r) := ⟨HX6.out⟩
  have HYd : Aside (isRec 25 w6.drew w5.heap.size r) := ⟨HY6.out⟩
  have HFd := Aside.mk (HF6.out.drew)
  clear hx hf
  go_wp2_with fail
  refine wp_region_held_drew (S := fun w' => isRec 30 w' w3.heap.size r ∧ isRec 25 w' w5.heap.size r) (by kernel_rfl) ⟨HXd.out, HYd.out⟩ (fun hHeld => ?_)
  refine wpAnyH_take (i := 0) (v := .agg L.toArray) rfl (by kernel_rfl) (by kernel_rfl) (by kernel_rfl) (fun _ _ _ h => h) (yi_ld recT_box (by simp [Region.wanted, yielded]) (.tmp 5) rfl w3.heap.size r _ HV.out rfl (fun w h => h.1)) hHeld ?_
  simp only [Act.put, List.setIfInBounds_toArray, List.set_cons_zero, List.set_cons_succ]
  refine wpAnyH_take (i := 1) (v := .agg L.toArray) rfl (by kernel_rfl) (by kernel_rfl) (by kernel_rfl) (fun _ _ _ h => h) (yi_ld recT_ref (by simp [Region.wanted, yielded]) (.tmp 7) rfl w5.heap.size r _ HV.out rfl (fun w h => h.2)) hHeld ?_
  simp only [Act.put, List.setIfInBounds_toArray, List.set_cons_zero, List.set_cons_succ]
  have HHd := Aside.mk hHeld
  clear hHeld
  refine wpAnyH_ready (rs := [2]) (by kernel_rfl) (by simp) ?_
  refine AllReadyH.cons rfl (fun K hK => ?_) AllReadyH.nil
  go_simp
  refine (HTH.out _).mono ?_
  rintro e1 w7 ⟨rfl, hf⟩
  have HX7 := Aside.mk (HXd.out.keep hf id)
  have HF7 := Aside.mk (HFd.out.trans hf (fun _ _ q => q))
  have HH7 : Aside (isRec 30 w7 w3.heap.size r ∧ isRec 25 w7 w5.heap.size r) := ⟨⟨HX7.out, HYd.out.keep hf id⟩⟩
  clear hf
  go_wp2_with fail
  refine hK.out _ _ HH7.out (fun _ => ?_)
  clear hK K
  have hk1 : L.take 32 = r.key.map byt := by rw [← hL2.out]; simp [recL, hr.1]
  have hk2 : (L.drop 32).take 32 = r.base.map byt := by rw [← hL2.out]; simp [recL, hr.1, hr.2]
  have h64 : L[64]? = some (.bool r.patch) := by rw [← hL2.out]; exact recL_patch hr
  have h65 : L[65]? = some (.string ⟨r.body.toArray⟩) := by rw [← hL2.out]; exact recL_body hr
  have hE1 : ∀ W, (Op.equalIn 9999 23 (.agg (r.key.map byt).toArray) (.agg (r.key.map byt).toArray)).run Try.prog W = .ok true W := fun W => by rw [eq_bytes 9997 23 32 r.key r.key W Try.underlying23 hr.1 hr.1, decide_eq_true rfl]
  have hE2 : ∀ W, (Op.equalIn 9999 23 (.agg (r.base.map byt).toArray) (.agg (r.base.map byt).toArray)).run Try.prog W = .ok true W := fun W => by rw [eq_bytes 9997 23 32 r.base r.base W Try.underlying23 hr.2 hr.2, decide_eq_true rfl]
  refine wpAnyH_take (i := 3) (v := ?_) rfl (by kernel_rfl) (by kernel_rfl) (by kernel_rfl) (fun _ _ _ h => h) (Or.inl ⟨by rfl, ?_⟩) HH7.out ?_
  rotate_left
  · intro w hSw; clear hSw; go_simp; with_reducible rfl
  rotate_left
  try simp only [Act.put, List.setIfInBounds_toArray, List.set_cons_zero, List.set_cons_succ]
  refine wpAnyH_take (i := 4) (v := ?_) rfl (by kernel_rfl) (by kernel_rfl) (by kernel_rfl) (fun _ _ _ h => h) (Or.inl ⟨by rfl, ?_⟩) HH7.out ?_
  rotate_left
  · intro w hSw; clear hSw; go_simp; with_reducible rfl
  rotate_left
  try simp only [Act.put, List.setIfInBounds_toArray, List.set_cons_zero, List.set_cons_succ]
  refine wpAnyH_take (i := 5) (v := ?_) rfl (by kernel_rfl) (by kernel_rfl) (by kernel_rfl) (fun _ _ _ h => h) (Or.inl ⟨by rfl, ?_⟩) HH7.out ?_
  rotate_left
  · intro w hSw; clear hSw; go_simp; with_reducible rfl
  rotate_left
  try simp only [Act.put, List.setIfInBounds_toArray, List.set_cons_zero, List.set_cons_succ]
  refine wpAnyH_take (i := 6) (v := ?_) rfl (by kernel_rfl) (by kernel_rfl) (by kernel_rfl) (fun _ _ _ h => h) (Or.inl ⟨by rfl, ?_⟩) HH7.out ?_
  rotate_left
  · intro w hSw; clear hSw; go_simp; with_reducible rfl
  rotate_left
  try simp only [Act.put, List.setIfInBounds_toArray, List.set_cons_zero, List.set_cons_succ]
  refine wpAnyH_take (i := 7) (v := ?_) rfl (by kernel_rfl) (by kernel_rfl) (by kernel_rfl) (fun _ _ _ h => h) (Or.inl ⟨by rfl, ?_⟩) HH7.out ?_
  rotate_left
  · intro w hSw; clear hSw; go_simp; with_reducible rfl
  rotate_left
  try simp only [Act.put, List.setIfInBounds_toArray, List.set_cons_zero, List.set_cons_succ]
  refine wpAnyH_take (i := 8) (v := ?_) rfl (by kernel_rfl) (by kernel_rfl) (by kernel_rfl) (fun _ _ _ h => h) (Or.inl ⟨by rfl, ?_⟩) HH7.out ?_
  rotate_left
  · intro w hSw; clear hSw; go_simp; with_reducible rfl
  rotate_left
  try simp only [Act.put, List.setIfInBounds_toArray, List.set_cons_zero, List.set_cons_succ]
  refine wpAnyH_done (by kernel_rfl) ?_ _
  clear hk1 hk2 h64 h65 hE1 hE2
  go_wp2
  go_ret
  exact ⟨rfl, HF7.out⟩

set_option maxHeartbeats 6400000 in
set_option maxRecDepth 100000 in
theorem opens_sum_ok (w : World) (S : List UInt8) (l : List UInt8) (r : Rec) (hr : r.Ok) (hl : ¬ 30000 < l.length) (HOA : OA S r 0) (HOB : OB S r 0) (HPA : PA r S) (HPU : PU l S) : Calls Try.prog 4 #[.string ⟨l.toArray⟩, .bool true] w fun e w' => e = .returned (.bool true) ∧ Fr (fun _ => False) w w' := by
  have HA := Aside.mk (fun W => awake_any W)
  have HTH := Aside.mk (fun W => theirs_any W r hr)
  have hbs : (ByteArray.mk l.toArray).size = l.length := by simp [ByteArray.size]
  have hl1 : decide ((30000:Int) < (l.length : Int)) = false := by simp; omega
  unfold OA at HOA
  unfold OB at HOB
  unfold PA at HPA
  unfold recV at *
  generalize hL : recL r = L at *
  have HV : Aside (recV r = .agg L.toArray) := ⟨by rw [recV, hL]⟩
  have HC : Aside ((Value.agg L.toArray).cells = (recL r).toArray) := ⟨by rw [hL]; rfl⟩
  replace HOA := Aside.mk HOA
  replace HOB := Aside.mk HOB
  have hL2 := Aside.mk hL
  replace HPA := Aside.mk HPA
  clear hL
  go_enter Try.func4, Try.ntmps4
  go_wp2_with fail
  refine (HA.out _).mono ?_
  rintro e1 w1 ⟨rfl, hf⟩
  have HF1 := Aside.mk hf
  clear hf
  go_wp2_with fail
  refine (HPU _).mono ?_
  rintro e1 w2 ⟨rfl, hf⟩
  have HF2 := Aside.mk (HF1.out.trans hf (fun _ _ q => q))
  clear hf
  go_wp2_with fail
  refine (HOA.out _).mono ?_
  rintro e1 w3 ⟨rfl, hf⟩
  have HF3 := Aside.mk (HF2.out.trans hf (fun _ _ q => q))
  have HX3 := Aside.mk (isRec.fresh 30 w3 (.cells recLit 30) rfl)
  have HW3 := Aside.mk (HF3.out.alloc (.cells recLit 30))
  have hlw3 := HF3.out.size
  clear hf
  go_wp2_with ((with_reducible refine gate (.store 30 (.tmp 5) (.tmp 25)) rfl ?_); refine st_all recT_box rfl rfl (.tmp 5) (.tmp 25) rfl w3.heap.size _ r (.agg L.toArray) rfl rfl HC.out hr HX3.out ?_)
  intro w4 hx hf
  have HX4 := Aside.mk hx
  have HF4 := Aside.mk (HW3.out.trans hf (fun b hb q => by have q2 : b = w3.heap.size := q; omega))
  have hlt3 := lt_of_heap hx.1
  clear hx hf
  go_wp2_with fail
  refine (HOB.out _).mono ?_
  rintro e1 w5 ⟨rfl, hf⟩
  have HF5 := Aside.mk (HF4.out.trans hf (fun _ _ q => q))
  have HX5 := Aside.mk (HX4.out.keep hf id)
  have HX5' : Aside (isRec 30 (w5.alloc (.cells recLit 25)) w3.heap.size _) := ⟨HX5.out.keep ((Fr.refl (fun _ => False) _).alloc _) id⟩
  have hlt5 := lt_of_heap HX5.out.1
  have HY5 := Aside.mk (isRec.fresh 25 w5 (.cells recLit 25) rfl)
  have HW5 := Aside.mk (HF5.out.alloc (.cells recLit 25))
  have hlw5 := HF5.out.size
  clear hf
  go_wp2_with ((with_reducible refine gate (.store 25 (.tmp 7) (.tmp 30)) rfl ?_); refine st_all recT_ref rfl rfl (.tmp 7) (.tmp 30) rfl w5.heap.size _ r (.agg L.toArray) rfl rfl HC.out hr HY5.out ?_)
  intro w6 hx hf
  have HY6 := Aside.mk hx
  have HX6 := Aside.mk (HX5'.out.keep hf (by omega))
  have HF6 := Aside.mk (HW5.out.trans hf (fun b hb q => by have q2 : b = w5.heap.size := q; omega))
  have HXd : Aside (isRec 30 w6.drew w3.heap.size r) := ⟨HX6.out⟩
  have HYd : Aside (isRec 25 w6.drew w5.heap.size r) := ⟨HY6.out⟩
  have HFd := Aside.mk (HF6.out.drew)
  clear hx hf
  go_wp2_with fail
  refine wp_region_held_drew (S := fun w' => isRec 30 w' w3.heap.size r ∧ isRec 25 w' w5.heap.size r) (by kernel_rfl) ⟨HXd.out, HYd.out⟩ (fun hHeld => ?_)
  refine wpAnyH_take (i := 0) (v := .agg L.toArray) rfl (by kernel_rfl) (by kernel_rfl) (by kernel_rfl) (fun _ _ _ h => h) (yi_ld recT_box (by simp [Region.wanted, yielded]) (.tmp 5) rfl w3.heap.size r _ HV.out rfl (fun w h => h.1)) hHeld ?_
  simp only [Act.put, List.setIfInBounds_toArray, List.set_cons_zero, List.set_cons_succ]
  refine wpAnyH_take (i := 1) (v := .agg L.toArray) rfl (by kernel_rfl) (by kernel_rfl) (by kernel_rfl) (fun _ _ _ h => h) (yi_ld recT_ref (by simp [Region.wanted, yielded]) (.tmp 7) rfl w5.heap.size r _ HV.out rfl (fun w h => h.2)) hHeld ?_
  simp only [Act.put, List.setIfInBounds_toArray, List.set_cons_zero, List.set_cons_succ]
  have HHd := Aside.mk hHeld
  clear hHeld
  refine wpAnyH_ready (rs := [2]) (by kernel_rfl) (by simp) ?_
  refine AllReadyH.cons rfl (fun K hK => ?_) AllReadyH.nil
  go_simp
  refine (HTH.out _).mono ?_
  rintro e1 w7 ⟨rfl, hf⟩
  have HX7 := Aside.mk (HXd.out.keep hf id)
  have HF7 := Aside.mk (HFd.out.trans hf (fun _ _ q => q))
  have HH7 : Aside (isRec 30 w7 w3.heap.size r ∧ isRec 25 w7 w5.heap.size r) := ⟨⟨HX7.out, HYd.out.keep hf id⟩⟩
  clear hf
  go_wp2_with fail
  refine hK.out _ _ HH7.out (fun _ => ?_)
  clear hK K
  have hk1 : L.take 32 = r.key.map byt := by rw [← hL2.out]; simp [recL, hr.1]
  have hk2 : (L.drop 32).take 32 = r.base.map byt := by rw [← hL2.out]; simp [recL, hr.1, hr.2]
  have h64 : L[64]? = some (.bool r.patch) := by rw [← hL2.out]; exact recL_patch hr
  have h65 : L[65]? = some (.string ⟨r.body.toArray⟩) := by rw [← hL2.out]; exact recL_body hr
  have hE1 : ∀ W, (Op.equalIn 9999 23 (.agg (r.key.map byt).toArray) (.agg (r.key.map byt).toArray)).run Try.prog W = .ok true W := fun W => by rw [eq_bytes 9997 23 32 r.key r.key W Try.underlying23 hr.1 hr.1, decide_eq_true rfl]
  have hE2 : ∀ W, (Op.equalIn 9999 23 (.agg (r.base.map byt).toArray) (.agg (r.base.map byt).toArray)).run Try.prog W = .ok true W := fun W => by rw [eq_bytes 9997 23 32 r.base r.base W Try.underlying23 hr.2 hr.2, decide_eq_true rfl]
  refine wpAnyH_take (i := 3) (v := ?_) rfl (by kernel_rfl) (by kernel_rfl) (by kernel_rfl) (fun _ _ _ h => h) (Or.inl ⟨by rfl, ?_⟩) HH7.out ?_
  rotate_left
  · intro w hSw; clear hSw; go_simp; with_reducible rfl
  rotate_left
  try simp only [Act.put, List.setIfInBounds_toArray, List.set_cons_zero, List.set_cons_succ]
  refine wpAnyH_take (i := 4) (v := ?_) rfl (by kernel_rfl) (by kernel_rfl) (by kernel_rfl) (fun _ _ _ h => h) (Or.inl ⟨by rfl, ?_⟩) HH7.out ?_
  rotate_left
  · intro w hSw; clear hSw; go_simp; with_reducible rfl
  rotate_left
  try simp only [Act.put, List.setIfInBounds_toArray, List.set_cons_zero, List.set_cons_succ]
  refine wpAnyH_take (i := 5) (v := ?_) rfl (by kernel_rfl) (by kernel_rfl) (by kernel_rfl) (fun _ _ _ h => h) (Or.inl ⟨by rfl, ?_⟩) HH7.out ?_
  rotate_left
  · intro w hSw; clear hSw; go_simp; with_reducible rfl
  rotate_left
  try simp only [Act.put, List.setIfInBounds_toArray, List.set_cons_zero, List.set_cons_succ]
  refine wpAnyH_take (i := 6) (v := ?_) rfl (by kernel_rfl) (by kernel_rfl) (by kernel_rfl) (fun _ _ _ h => h) (Or.inl ⟨by rfl, ?_⟩) HH7.out ?_
  rotate_left
  · intro w hSw; clear hSw; go_simp; with_reducible rfl
  rotate_left
  try simp only [Act.put, List.setIfInBounds_toArray, List.set_cons_zero, List.set_cons_succ]
  refine wpAnyH_take (i := 7) (v := ?_) rfl (by kernel_rfl) (by kernel_rfl) (by kernel_rfl) (fun _ _ _ h => h) (Or.inl ⟨by rfl, ?_⟩) HH7.out ?_
  rotate_left
  · intro w hSw; clear hSw; go_simp; with_reducible rfl
  rotate_left
  try simp only [Act.put, List.setIfInBounds_toArray, List.set_cons_zero, List.set_cons_succ]
  refine wpAnyH_take (i := 8) (v := ?_) rfl (by kernel_rfl) (by kernel_rfl) (by kernel_rfl) (fun _ _ _ h => h) (Or.inl ⟨by rfl, ?_⟩) HH7.out ?_
  rotate_left
  · intro w hSw; clear hSw; go_simp; with_reducible rfl
  rotate_left
  try simp only [Act.put, List.setIfInBounds_toArray, List.set_cons_zero, List.set_cons_succ]
  refine wpAnyH_done (by kernel_rfl) ?_ _
  clear hk1 hk2 h64 h65 hE1 hE2
  go_wp2_with ((with_reducible refine gate (.load 30 (.tmp 5)) rfl ?_); refine ld_all recT_box (by simp [Region.wanted]) (.tmp 5) rfl w3.heap.size r rfl HX7.out ?_; rw [HV.out])
  refine (HPA.out _).mono ?_
  rintro e1 w8 ⟨rfl, hf⟩
  have HF8 := Aside.mk (HF7.out.trans hf (fun _ _ q => q))
  clear hf
  go_wp2
  go_ret
  exact ⟨rfl, HF8.out⟩

set_option maxHeartbeats 6400000 in
set_option maxRecDepth 100000 in
theorem opens_sum_no (w : World) (S : List UInt8) (l : List UInt8) (r : Rec) (e : Nat) (hr : r.Ok) (hl : ¬ 30000 < l.length) (he : ¬ e = 0) (HOA : OA S r e) (HOB : OB S r e) (HPU : PU l S) : Calls Try.prog 4 #[.string ⟨l.toArray⟩, .bool true] w fun e w' => e = .returned (.bool true) ∧ Fr (fun _ => False) w w' := by
  have HA := Aside.mk (fun W => awake_any W)
  have HTH := Aside.mk (fun W => theirs_any W r hr)
  have hbs : (ByteArray.mk l.toArray).size = l.length := by simp [ByteArray.size]
  have hl1 : decide ((30000:Int) < (l.length : Int)) = false := by simp; omega
  have heb : ((e : Int) == 0) = false := by simp; omega
  unfold OA at HOA
  unfold OB at HOB
  unfold recV at *
  generalize hL : recL r = L at *
  have HV : Aside (recV r = .agg L.toArray) := ⟨by rw [recV, hL]⟩
  have HC : Aside ((Value.agg L.toArray).cells = (recL r).toArray) := ⟨by rw [hL]; rfl⟩
  replace HOA := Aside.mk HOA
  replace HOB := Aside.mk HOB
  have hL2 := Aside.mk hL
  clear hL
  go_enter Try.func4, Try.ntmps4
  go_wp2_with fail
  refine (HA.out _).mono ?_
  rintro e1 w1 ⟨rfl, hf⟩
  have HF1 := Aside.mk hf
  clear hf
  go_wp2_with fail
  refine (HPU _).mono ?_
  rintro e1 w2 ⟨rfl, hf⟩
  have HF2 := Aside.mk (HF1.out.trans hf (fun _ _ q => q))
  clear hf
  go_wp2_with fail
  refine (HOA.out _).mono ?_
  rintro e1 w3 ⟨rfl, hf⟩
  have HF3 := Aside.mk (HF2.out.trans hf (fun _ _ q => q))
  have HX3 := Aside.mk (isRec.fresh 30 w3 (.cells recLit 30) rfl)
  have HW3 := Aside.mk (HF3.out.alloc (.cells recLit 30))
  have hlw3 := HF3.out.size
  clear hf
  go_wp2_with ((with_reducible refine gate (.store 30 (.tmp 5) (.tmp 25)) rfl ?_); refine st_all recT_box rfl rfl (.tmp 5) (.tmp 25) rfl w3.heap.size _ r (.agg L.toArray) rfl rfl HC.out hr HX3.out ?_)
  intro w4 hx hf
  have HX4 := Aside.mk hx
  have HF4 := Aside.mk (HW3.out.trans hf (fun b hb q => by have q2 : b = w3.heap.size := q; omega))
  have hlt3 := lt_of_heap hx.1
  clear hx hf
  go_wp2_with fail
  refine (HOB.out _).mono ?_
  rintro e1 w5 ⟨rfl, hf⟩
  have HF5 := Aside.mk (HF4.out.trans hf (fun _ _ q => q))
  have HX5 := Aside.mk (HX4.out.keep hf id)
  have HX5' : Aside (isRec 30 (w5.alloc (.cells recLit 25)) w3.heap.size _) := ⟨HX5.out.keep ((Fr.refl (fun _ => False) _).alloc _) id⟩
  have hlt5 := lt_of_heap HX5.out.1
  have HY5 := Aside.mk (isRec.fresh 25 w5 (.cells recLit 25) rfl)
  have HW5 := Aside.mk (HF5.out.alloc (.cells recLit 25))
  have hlw5 := HF5.out.size
  clear hf
  go_wp2_with ((with_reducible refine gate (.store 25 (.tmp 7) (.tmp 30)) rfl ?_); refine st_all recT_ref rfl rfl (.tmp 7) (.tmp 30) rfl w5.heap.size _ r (.agg L.toArray) rfl rfl HC.out hr HY5.out ?_)
  intro w6 hx hf
  have HY6 := Aside.mk hx
  have HX6 := Aside.mk (HX5'.out.keep hf (by omega))
  have HF6 := Aside.mk (HW5.out.trans hf (fun b hb q => by have q2 : b = w5.heap.size := q; omega))
  have HXd : Aside (isRec 30 w6.drew w3.heap.size r) := ⟨HX6.out⟩
  have HYd : Aside (isRec 25 w6.drew w5.heap.size r) := ⟨HY6.out⟩
  have HFd := Aside.mk (HF6.out.drew)
  clear hx hf
  go_wp2_with fail
  refine wp_region_held_drew (S := fun w' => isRec 30 w' w3.heap.size r ∧ isRec 25 w' w5.heap.size r) (by kernel_rfl) ⟨HXd.out, HYd.out⟩ (fun hHeld => ?_)
  refine wpAnyH_take (i := 0) (v := .agg L.toArray) rfl (by kernel_rfl) (by kernel_rfl) (by kernel_rfl) (fun _ _ _ h => h) (yi_ld recT_box (by simp [Region.wanted, yielded]) (.tmp 5) rfl w3.heap.size r _ HV.out rfl (fun w h => h.1)) hHeld ?_
  simp only [Act.put, List.setIfInBounds_toArray, List.set_cons_zero, List.set_cons_succ]
  refine wpAnyH_take (i := 1) (v := .agg L.toArray) rfl (by kernel_rfl) (by kernel_rfl) (by kernel_rfl) (fun _ _ _ h => h) (yi_ld recT_ref (by simp [Region.wanted, yielded]) (.tmp 7) rfl w5.heap.size r _ HV.out rfl (fun w h => h.2)) hHeld ?_
  simp only [Act.put, List.setIfInBounds_toArray, List.set_cons_zero, List.set_cons_succ]
  have HHd := Aside.mk hHeld
  clear hHeld
  refine wpAnyH_ready (rs := [2]) (by kernel_rfl) (by simp) ?_
  refine AllReadyH.cons rfl (fun K hK => ?_) AllReadyH.nil
  go_simp
  refine (HTH.out _).mono ?_
  rintro e1 w7 ⟨rfl, hf⟩
  have HX7 := Aside.mk (HXd.out.keep hf id)
  have HF7 := Aside.mk (HFd.out.trans hf (fun _ _ q => q))
  have HH7 : Aside (isRec 30 w7 w3.heap.size r ∧ isRec 25 w7 w5.heap.size r) := ⟨⟨HX7.out, HYd.out.keep hf id⟩⟩
  clear hf
  go_wp2_with fail
  refine hK.out _ _ HH7.out (fun _ => ?_)
  clear hK K
  have hk1 : L.take 32 = r.key.map byt := by rw [← hL2.out]; simp [recL, hr.1]
  have hk2 : (L.drop 32).take 32 = r.base.map byt := by rw [← hL2.out]; simp [recL, hr.1, hr.2]
  have h64 : L[64]? = some (.bool r.patch) := by rw [← hL2.out]; exact recL_patch hr
  have h65 : L[65]? = some (.string ⟨r.body.toArray⟩) := by rw [← hL2.out]; exact recL_body hr
  have hE1 : ∀ W, (Op.equalIn 9999 23 (.agg (r.key.map byt).toArray) (.agg (r.key.map byt).toArray)).run Try.prog W = .ok true W := fun W => by rw [eq_bytes 9997 23 32 r.key r.key W Try.underlying23 hr.1 hr.1, decide_eq_true rfl]
  have hE2 : ∀ W, (Op.equalIn 9999 23 (.agg (r.base.map byt).toArray) (.agg (r.base.map byt).toArray)).run Try.prog W = .ok true W := fun W => by rw [eq_bytes 9997 23 32 r.base r.base W Try.underlying23 hr.2 hr.2, decide_eq_true rfl]
  refine wpAnyH_take (i := 3) (v := ?_) rfl (by kernel_rfl) (by kernel_rfl) (by kernel_rfl) (fun _ _ _ h => h) (Or.inl ⟨by rfl, ?_⟩) HH7.out ?_
  rotate_left
  · intro w hSw; clear hSw; go_simp; with_reducible rfl
  rotate_left
  try simp only [Act.put, List.setIfInBounds_toArray, List.set_cons_zero, List.set_cons_succ]
  refine wpAnyH_take (i := 4) (v := ?_) rfl (by kernel_rfl) (by kernel_rfl) (by kernel_rfl) (fun _ _ _ h => h) (Or.inl ⟨by rfl, ?_⟩) HH7.out ?_
  rotate_left
  · intro w hSw; clear hSw; go_simp; with_reducible rfl
  rotate_left
  try simp only [Act.put, List.setIfInBounds_toArray, List.set_cons_zero, List.set_cons_succ]
  refine wpAnyH_take (i := 5) (v := ?_) rfl (by kernel_rfl) (by kernel_rfl) (by kernel_rfl) (fun _ _ _ h => h) (Or.inl ⟨by rfl, ?_⟩) HH7.out ?_
  rotate_left
  · intro w hSw; clear hSw; go_simp; with_reducible rfl
  rotate_left
  try simp only [Act.put, List.setIfInBounds_toArray, List.set_cons_zero, List.set_cons_succ]
  refine wpAnyH_take (i := 6) (v := ?_) rfl (by kernel_rfl) (by kernel_rfl) (by kernel_rfl) (fun _ _ _ h => h) (Or.inl ⟨by rfl, ?_⟩) HH7.out ?_
  rotate_left
  · intro w hSw; clear hSw; go_simp; with_reducible rfl
  rotate_left
  try simp only [Act.put, List.setIfInBounds_toArray, List.set_cons_zero, List.set_cons_succ]
  refine wpAnyH_take (i := 7) (v := ?_) rfl (by kernel_rfl) (by kernel_rfl) (by kernel_rfl) (fun _ _ _ h => h) (Or.inl ⟨by rfl, ?_⟩) HH7.out ?_
  rotate_left
  · intro w hSw; clear hSw; go_simp; with_reducible rfl
  rotate_left
  try simp only [Act.put, List.setIfInBounds_toArray, List.set_cons_zero, List.set_cons_succ]
  refine wpAnyH_take (i := 8) (v := ?_) rfl (by kernel_rfl) (by kernel_rfl) (by kernel_rfl) (fun _ _ _ h => h) (Or.inl ⟨by rfl, ?_⟩) HH7.out ?_
  rotate_left
  · intro w hSw; clear hSw; go_simp; with_reducible rfl
  rotate_left
  try simp only [Act.put, List.setIfInBounds_toArray, List.set_cons_zero, List.set_cons_succ]
  refine wpAnyH_done (by kernel_rfl) ?_ _
  clear hk1 hk2 h64 h65 hE1 hE2
  go_wp2
  go_ret
  exact ⟨rfl, HF7.out⟩

theorem opens_any (w : World) (s : ByteArray) (b : Bool) : Calls Try.prog 4 #[.string s, .bool b] w fun e w' => e = .returned (.bool true) ∧ Fr (fun _ => False) w w' := by
  by_cases hl : 30000 < s.size
  · exact opens_long w s b hl
  have hsl := ba_size s
  have hss : s = ⟨s.data.toList.toArray⟩ := by rw [Array.toArray_toList]
  have hA : ∀ T : List UInt8, T.length ≤ 140737488355328 → OA T (openR T).1 (openR T).2 := fun T hT W => boxopen_any W ⟨T.toArray⟩ (by simp only [ByteArray.size, List.size_toArray]; omega)
  have hB : ∀ T : List UInt8, T.length ≤ 140737488355328 → OB T (openR T).1 (openR T).2 := fun T hT W => refopen_any W ⟨T.toArray⟩ (by simp only [ByteArray.size, List.size_toArray]; omega)
  have hP : ∀ (T : List UInt8) (r : Rec), openR T = (r, 0) → PA r T := fun T r h W => by
    have hp := openR_pack h
    have ho := openR_ok T
    rw [h] at ho
    have hb : r.body.length ≤ 8192 := by
      unfold packR at hp
      split at hp
      · simp at hp
      · omega
    have hw := boxpack_any W r ho (by omega)
    rw [hp] at hw; exact hw
  generalize hl2 : s.data.toList = l at *
  cases b with
  | false =>
    have ho := openR_ok l
    have h1 := hA l (by omega)
    have h2 := hB l (by omega)
    have h3 := hP l
    generalize openR l = Q at *
    obtain ⟨r, e⟩ := Q
    rw [hss]
    by_cases he : e = 0
    · subst he; exact opens_raw_ok w l r ho (by omega) h1 h2 (h3 r rfl)
    · exact opens_raw_no w l r e ho (by omega) he h1 h2
  | true =>
    have hpl := Crc.put_len l
    have HPU : PU l (Crc.put l) := fun W => rput_any W ⟨l.toArray⟩ (by simp only [ByteArray.size, List.size_toArray]; omega)
    generalize Crc.put l = T at *
    have ho := openR_ok T
    have h1 := hA T (by omega)
    have h2 := hB T (by omega)
    have h3 := hP T
    generalize openR T = Q at *
    obtain ⟨r, e⟩ := Q
    rw [hss]
    by_cases he : e = 0
    · subst he; exact opens_sum_ok w T l r ho (by omega) h1 h2 (h3 r rfl) HPU
    · exact opens_sum_no w T l r e ho (by omega) he h1 h2 HPU

end Go.Proofs.Ytodhkdmkkjhnnaa
