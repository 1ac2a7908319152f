/- The walk of box.next (printed by wip/gen_next.py). -/
import Derived.Test.YtodhkdmkkjhnnaaBoxKey
set_option linter.unusedVariables false
namespace Go.Proofs.Ytodhkdmkkjhnnaa
open Go.RowKit

/-- What next answers, and what is left. -/
def NextPost (w : World) (g : Nat) (l : List UInt8) (R : Rec × Nat × Nat) (e : Ending) (w' : World) : Prop :=
  e = .returned (.tuple #[recV R.1, .int .i64 (R.2.2 : Nat)]) ∧ (∃ l', isR w' g l' ∧ (R.2.2 = 0 → l' = l.drop R.2.1)) ∧ Fr (fun k => k = g) w w'

def RK (g : Nat) (l K l1 : List UInt8) (e : Nat) : Prop := ∀ W, isR W g l → Calls Try.prog 94 #[.pointer (some ⟨g, 0, none⟩)] W fun e1 w' => e1 = .returned (.tuple #[keyV K, .int .i64 (e : Nat)]) ∧ isR w' g l1 ∧ Fr (fun k => k = g) W w'
def RC (g : Nat) (l l1 : List UInt8) (n e : Nat) : Prop := ∀ W, isR W g l → Calls Try.prog 95 #[.pointer (some ⟨g, 0, none⟩)] W fun e1 w' => e1 = .returned (.tuple #[.int .i64 (n : Nat), .int .i64 (e : Nat)]) ∧ isR w' g l1 ∧ Fr (fun k => k = g) W w'
def RT (g : Nat) (l l1 t : List UInt8) (e : Nat) : Prop := ∀ W, isR W g l → Calls Try.prog 96 #[.pointer (some ⟨g, 0, none⟩)] W fun e1 w' => e1 = .returned (.tuple #[.string ⟨t.toArray⟩, .int .i64 (e : Nat)]) ∧ isR w' g l1 ∧ Fr (fun k => k = g) W w'

set_option maxHeartbeats 3200000 in
set_option maxRecDepth 100000 in
theorem next_short (w : World) (g : Nat) (l l1 K : List UInt8) (HI : isR w g l) (hgl : g < w.heap.size) (HKL : K.length = 32) (HK : RK g l K l1 2) :
    Calls Try.prog 76 #[.pointer (some ⟨g, 0, none⟩)] w (NextPost w g l (Rec.zero, 0, 2)) := by
  unfold NextPost
  have hne : ¬ (2 : Nat) = 0 := by omega
  have HFR := Aside.mk (isRec.fresh 30 w (.cells recLit 30) rfl)
  have HL2 : Aside ((Value.agg recLit).cells = (recL Rec.zero).toArray) := ⟨rfl⟩
  go_enter Try.func76, Try.ntmps76
  go_wp2_with fail
  refine (HK _ (HI.keep ((Fr.refl (fun _ => False) _).alloc _) id)).mono ?_
  rintro e w1 ⟨rfl, hr, hf⟩
  have HR1 := Aside.mk hr
  have HF1 : Aside (Fr (fun k => k = g) w w1) := ⟨((Fr.refl _ w).alloc _).trans hf (fun _ _ q => q)⟩
  have HX1 : Aside (isRec 30 w1 w.heap.size Rec.zero) := ⟨HFR.out.keep hf (by omega)⟩
  clear hr hf
  go_wp2_with (with_reducible refine gate (.store 23 (.tmp 10) (.tmp 8)) rfl ?_; refine st_key rfl rfl (.tmp 10) (.tmp 8) rfl w.heap.size _ K rfl rfl HKL HX1.out ?_)
  intro w2 hx hf
  have HX2 := Aside.mk hx
  have HF2 : Aside (Fr (fun k => k = g) w w2) := ⟨HF1.out.trans hf (fun b hb q => by omega)⟩
  have HR2 := Aside.mk (HR1.out.keep hf (by omega))
  clear hx hf
  go_wp2_with (with_reducible refine gate (.store 30 (.tmp 2) (.tmp 13)) rfl ?_; refine st_all recT_box rfl rfl (.tmp 2) (.tmp 13) rfl w.heap.size _ Rec.zero (.agg recLit) rfl rfl HL2.out Rec.zero_ok HX2.out ?_)
  intro w3 hx hf
  have HX3 := Aside.mk hx
  have HF3 : Aside (Fr (fun k => k = g) w w3) := ⟨HF2.out.trans hf (fun b hb q => by omega)⟩
  have HR3 := Aside.mk (HR2.out.keep hf (by omega))
  clear hx hf
  go_wp2
  exact bodyPost_ret (HX3.out.results recT_box rfl _ rfl) rfl ⟨rfl, ⟨_, HR3.out, fun q => absurd q hne⟩, HF3.out⟩

set_option maxHeartbeats 3200000 in
set_option maxRecDepth 100000 in
theorem next_count (w : World) (g : Nat) (l l1 K : List UInt8) (HI : isR w g l) (hgl : g < w.heap.size) (HKL : K.length = 32) (HK : RK g l K l1 0) (l2 : List UInt8) (n e : Nat) (he : ¬ e = 0) (HC : RC g l1 l2 n e) :
    Calls Try.prog 76 #[.pointer (some ⟨g, 0, none⟩)] w (NextPost w g l (Rec.zero, 0, e)) := by
  unfold NextPost
  have hne : ¬ e = 0 := he
  have heb : ((e : Int) == 0) = false := by simp; omega
  have HFR := Aside.mk (isRec.fresh 30 w (.cells recLit 30) rfl)
  have HL2 : Aside ((Value.agg recLit).cells = (recL Rec.zero).toArray) := ⟨rfl⟩
  go_enter Try.func76, Try.ntmps76
  go_wp2_with fail
  refine (HK _ (HI.keep ((Fr.refl (fun _ => False) _).alloc _) id)).mono ?_
  rintro e w1 ⟨rfl, hr, hf⟩
  have HR1 := Aside.mk hr
  have HF1 : Aside (Fr (fun k => k = g) w w1) := ⟨((Fr.refl _ w).alloc _).trans hf (fun _ _ q => q)⟩
  have HX1 : Aside (isRec 30 w1 w.heap.size Rec.zero) := ⟨HFR.out.keep hf (by omega)⟩
  clear hr hf
  go_wp2_with (with_reducible refine gate (.store 23 (.tmp 10) (.tmp 8)) rfl ?_; refine st_key rfl rfl (.tmp 10) (.tmp 8) rfl w.heap.size _ K rfl rfl HKL HX1.out ?_)
  intro w2 hx hf
  have HX2 := Aside.mk hx
  have HF2 : Aside (Fr (fun k => k = g) w w2) := ⟨HF1.out.trans hf (fun b hb q => by omega)⟩
  have HR2 := Aside.mk (HR1.out.keep hf (by omega))
  clear hx hf
  go_wp2_with fail
  refine (HC _ HR2.out).mono ?_
  rintro e w3 ⟨rfl, hr, hf⟩
  have HR3 := Aside.mk hr
  have HF3 : Aside (Fr (fun k => k = g) w w3) := ⟨HF2.out.trans hf (fun _ _ q => q)⟩
  have HX3 : Aside (isRec 30 w3 w.heap.size _) := ⟨HX2.out.keep hf (by omega)⟩
  clear hr hf
  go_wp2_with (with_reducible refine gate (.store 30 (.tmp 2) (.tmp 57)) rfl ?_; refine st_all recT_box rfl rfl (.tmp 2) (.tmp 57) rfl w.heap.size _ Rec.zero (.agg recLit) rfl rfl HL2.out Rec.zero_ok HX3.out ?_)
  intro w4 hx hf
  have HX4 := Aside.mk hx
  have HF4 : Aside (Fr (fun k => k = g) w w4) := ⟨HF3.out.trans hf (fun b hb q => by omega)⟩
  have HR4 := Aside.mk (HR3.out.keep hf (by omega))
  clear hx hf
  go_wp2
  exact bodyPost_ret (HX4.out.results recT_box rfl _ rfl) rfl ⟨rfl, ⟨_, HR4.out, fun q => absurd q hne⟩, HF4.out⟩

set_option maxHeartbeats 3200000 in
set_option maxRecDepth 100000 in
theorem next_kind (w : World) (g : Nat) (l l1 K : List UInt8) (HI : isR w g l) (hgl : g < w.heap.size) (HKL : K.length = 32) (HK : RK g l K l1 0) (l2 : List UInt8) (n : Nat) (hn : 1 < n) (hn2 : n < 9223372036854775808) (HC : RC g l1 l2 n 0) :
    Calls Try.prog 76 #[.pointer (some ⟨g, 0, none⟩)] w (NextPost w g l (Rec.zero, 0, 3)) := by
  unfold NextPost
  have hne : ¬ (3 : Nat) = 0 := by omega
  have HFR := Aside.mk (isRec.fresh 30 w (.cells recLit 30) rfl)
  have HL2 : Aside ((Value.agg recLit).cells = (recL Rec.zero).toArray) := ⟨rfl⟩
  go_enter Try.func76, Try.ntmps76
  go_wp2_with fail
  refine (HK _ (HI.keep ((Fr.refl (fun _ => False) _).alloc _) id)).mono ?_
  rintro e w1 ⟨rfl, hr, hf⟩
  have HR1 := Aside.mk hr
  have HF1 : Aside (Fr (fun k => k = g) w w1) := ⟨((Fr.refl _ w).alloc _).trans hf (fun _ _ q => q)⟩
  have HX1 : Aside (isRec 30 w1 w.heap.size Rec.zero) := ⟨HFR.out.keep hf (by omega)⟩
  clear hr hf
  go_wp2_with (with_reducible refine gate (.store 23 (.tmp 10) (.tmp 8)) rfl ?_; refine st_key rfl rfl (.tmp 10) (.tmp 8) rfl w.heap.size _ K rfl rfl HKL HX1.out ?_)
  intro w2 hx hf
  have HX2 := Aside.mk hx
  have HF2 : Aside (Fr (fun k => k = g) w w2) := ⟨HF1.out.trans hf (fun b hb q => by omega)⟩
  have HR2 := Aside.mk (HR1.out.keep hf (by omega))
  clear hx hf
  go_wp2_with fail
  refine (HC _ HR2.out).mono ?_
  rintro e w3 ⟨rfl, hr, hf⟩
  have HR3 := Aside.mk hr
  have HF3 : Aside (Fr (fun k => k = g) w w3) := ⟨HF2.out.trans hf (fun _ _ q => q)⟩
  have HX3 : Aside (isRec 30 w3 w.heap.size _) := ⟨HX2.out.keep hf (by omega)⟩
  clear hr hf
  go_wp2_with (with_reducible refine gate (.store 30 (.tmp 2) (.tmp 57)) rfl ?_; refine st_all recT_box rfl rfl (.tmp 2) (.tmp 57) rfl w.heap.size _ Rec.zero (.agg recLit) rfl rfl HL2.out Rec.zero_ok HX3.out ?_)
  intro w4 hx hf
  have HX4 := Aside.mk hx
  have HF4 : Aside (Fr (fun k => k = g) w w4) := ⟨HF3.out.trans hf (fun b hb q => by omega)⟩
  have HR4 := Aside.mk (HR3.out.keep hf (by omega))
  clear hx hf
  go_wp2
  exact bodyPost_ret (HX4.out.results recT_box rfl _ rfl) rfl ⟨rfl, ⟨_, HR4.out, fun q => absurd q hne⟩, HF4.out⟩

set_option maxHeartbeats 3200000 in
set_option maxRecDepth 100000 in
theorem next_plain_text (w : World) (g : Nat) (l l1 K : List UInt8) (HI : isR w g l) (hgl : g < w.heap.size) (HKL : K.length = 32) (HK : RK g l K l1 0) (l2 : List UInt8) (HC : RC g l1 l2 0 0) (l3 T1 : List UInt8) (e : Nat) (he : ¬ e = 0) (HT : RT g l2 l3 T1 e) :
    Calls Try.prog 76 #[.pointer (some ⟨g, 0, none⟩)] w (NextPost w g l (Rec.zero, 0, e)) := by
  unfold NextPost
  have hne : ¬ e = 0 := he
  have heb : ((e : Int) == 0) = false := by simp; omega
  have HFR := Aside.mk (isRec.fresh 30 w (.cells recLit 30) rfl)
  have HL2 : Aside ((Value.agg recLit).cells = (recL Rec.zero).toArray) := ⟨rfl⟩
  go_enter Try.func76, Try.ntmps76
  go_wp2_with fail
  refine (HK _ (HI.keep ((Fr.refl (fun _ => False) _).alloc _) id)).mono ?_
  rintro e w1 ⟨rfl, hr, hf⟩
  have HR1 := Aside.mk hr
  have HF1 : Aside (Fr (fun k => k = g) w w1) := ⟨((Fr.refl _ w).alloc _).trans hf (fun _ _ q => q)⟩
  have HX1 : Aside (isRec 30 w1 w.heap.size Rec.zero) := ⟨HFR.out.keep hf (by omega)⟩
  clear hr hf
  go_wp2_with (with_reducible refine gate (.store 23 (.tmp 10) (.tmp 8)) rfl ?_; refine st_key rfl rfl (.tmp 10) (.tmp 8) rfl w.heap.size _ K rfl rfl HKL HX1.out ?_)
  intro w2 hx hf
  have HX2 := Aside.mk hx
  have HF2 : Aside (Fr (fun k => k = g) w w2) := ⟨HF1.out.trans hf (fun b hb q => by omega)⟩
  have HR2 := Aside.mk (HR1.out.keep hf (by omega))
  clear hx hf
  go_wp2_with fail
  refine (HC _ HR2.out).mono ?_
  rintro e w3 ⟨rfl, hr, hf⟩
  have HR3 := Aside.mk hr
  have HF3 : Aside (Fr (fun k => k = g) w w3) := ⟨HF2.out.trans hf (fun _ _ q => q)⟩
  have HX3 : Aside (isRec 30 w3 w.heap.size _) := ⟨HX2.out.keep hf (by omega)⟩
  clear hr hf
  go_wp2_with fail
  refine (HT _ HR3.out).mono ?_
  rintro e w4 ⟨rfl, hr, hf⟩
  have HR4 := Aside.mk hr
  have HF4 : Aside (Fr (fun k => k = g) w w4) := ⟨HF3.out.trans hf (fun _ _ q => q)⟩
  have HX4 : Aside (isRec 30 w4 w.heap.size _) := ⟨HX3.out.keep hf (by omega)⟩
  clear hr hf
  go_wp2_with (with_reducible refine gate (.store 9 (.tmp 46) (.tmp 44)) rfl ?_; refine st_body rfl rfl (.tmp 46) (.tmp 44) rfl w.heap.size _ T1 rfl rfl HX4.out ?_)
  intro w5 hx hf
  have HX5 := Aside.mk hx
  have HF5 : Aside (Fr (fun k => k = g) w w5) := ⟨HF4.out.trans hf (fun b hb q => by omega)⟩
  have HR5 := Aside.mk (HR4.out.keep hf (by omega))
  clear hx hf
  go_wp2_with (with_reducible refine gate (.store 30 (.tmp 2) (.tmp 57)) rfl ?_; refine st_all recT_box rfl rfl (.tmp 2) (.tmp 57) rfl w.heap.size _ Rec.zero (.agg recLit) rfl rfl HL2.out Rec.zero_ok HX5.out ?_)
  intro w6 hx hf
  have HX6 := Aside.mk hx
  have HF6 : Aside (Fr (fun k => k = g) w w6) := ⟨HF5.out.trans hf (fun b hb q => by omega)⟩
  have HR6 := Aside.mk (HR5.out.keep hf (by omega))
  clear hx hf
  go_wp2
  exact bodyPost_ret (HX6.out.results recT_box rfl _ rfl) rfl ⟨rfl, ⟨_, HR6.out, fun q => absurd q hne⟩, HF6.out⟩

set_option maxHeartbeats 3200000 in
set_option maxRecDepth 100000 in
theorem next_plain_long (w : World) (g : Nat) (l l1 K : List UInt8) (HI : isR w g l) (hgl : g < w.heap.size) (HKL : K.length = 32) (HK : RK g l K l1 0) (l2 : List UInt8) (HC : RC g l1 l2 0 0) (l3 T1 : List UInt8) (hl : 8192 < T1.length) (hl2 : T1.length ≤ 140737488355328) (HT : RT g l2 l3 T1 0) :
    Calls Try.prog 76 #[.pointer (some ⟨g, 0, none⟩)] w (NextPost w g l (Rec.zero, 0, 6)) := by
  unfold NextPost
  have hne : ¬ (6 : Nat) = 0 := by omega
  have HFR := Aside.mk (isRec.fresh 30 w (.cells recLit 30) rfl)
  have HL2 : Aside ((Value.agg recLit).cells = (recL Rec.zero).toArray) := ⟨rfl⟩
  go_enter Try.func76, Try.ntmps76
  go_wp2_with fail
  refine (HK _ (HI.keep ((Fr.refl (fun _ => False) _).alloc _) id)).mono ?_
  rintro e w1 ⟨rfl, hr, hf⟩
  have HR1 := Aside.mk hr
  have HF1 : Aside (Fr (fun k => k = g) w w1) := ⟨((Fr.refl _ w).alloc _).trans hf (fun _ _ q => q)⟩
  have HX1 : Aside (isRec 30 w1 w.heap.size Rec.zero) := ⟨HFR.out.keep hf (by omega)⟩
  clear hr hf
  go_wp2_with (with_reducible refine gate (.store 23 (.tmp 10) (.tmp 8)) rfl ?_; refine st_key rfl rfl (.tmp 10) (.tmp 8) rfl w.heap.size _ K rfl rfl HKL HX1.out ?_)
  intro w2 hx hf
  have HX2 := Aside.mk hx
  have HF2 : Aside (Fr (fun k => k = g) w w2) := ⟨HF1.out.trans hf (fun b hb q => by omega)⟩
  have HR2 := Aside.mk (HR1.out.keep hf (by omega))
  clear hx hf
  go_wp2_with fail
  refine (HC _ HR2.out).mono ?_
  rintro e w3 ⟨rfl, hr, hf⟩
  have HR3 := Aside.mk hr
  have HF3 : Aside (Fr (fun k => k = g) w w3) := ⟨HF2.out.trans hf (fun _ _ q => q)⟩
  have HX3 : Aside (isRec 30 w3 w.heap.size _) := ⟨HX2.out.keep hf (by omega)⟩
  clear hr hf
  go_wp2_with fail
  refine (HT _ HR3.out).mono ?_
  rintro e w4 ⟨rfl, hr, hf⟩
  have HR4 := Aside.mk hr
  have HF4 : Aside (Fr (fun k => k = g) w w4) := ⟨HF3.out.trans hf (fun _ _ q => q)⟩
  have HX4 : Aside (isRec 30 w4 w.heap.size _) := ⟨HX3.out.keep hf (by omega)⟩
  clear hr hf
  go_wp2_with (with_reducible refine gate (.store 9 (.tmp 46) (.tmp 44)) rfl ?_; refine st_body rfl rfl (.tmp 46) (.tmp 44) rfl w.heap.size _ T1 rfl rfl HX4.out ?_)
  intro w5 hx hf
  have HX5 := Aside.mk hx
  have HF5 : Aside (Fr (fun k => k = g) w w5) := ⟨HF4.out.trans hf (fun b hb q => by omega)⟩
  have HR5 := Aside.mk (HR4.out.keep hf (by omega))
  clear hx hf
  have hcb := HX5.out.body
  go_wp2_with (with_reducible refine gate (.store 30 (.tmp 2) (.tmp 57)) rfl ?_; refine st_all recT_box rfl rfl (.tmp 2) (.tmp 57) rfl w.heap.size _ Rec.zero (.agg recLit) rfl rfl HL2.out Rec.zero_ok HX5.out ?_)
  intro w6 hx hf
  have HX6 := Aside.mk hx
  have HF6 : Aside (Fr (fun k => k = g) w w6) := ⟨HF5.out.trans hf (fun b hb q => by omega)⟩
  have HR6 := Aside.mk (HR5.out.keep hf (by omega))
  clear hx hf
  go_wp2
  exact bodyPost_ret (HX6.out.results recT_box rfl _ rfl) rfl ⟨rfl, ⟨_, HR6.out, fun q => absurd q hne⟩, HF6.out⟩

set_option maxHeartbeats 3200000 in
set_option maxRecDepth 100000 in
theorem next_plain_ok (w : World) (g : Nat) (l l1 K : List UInt8) (HI : isR w g l) (hgl : g < w.heap.size) (HKL : K.length = 32) (HK : RK g l K l1 0) (l2 : List UInt8) (HC : RC g l1 l2 0 0) (l3 T1 : List UInt8) (hl : ¬ 8192 < T1.length) (m : Nat) (hl3 : l3 = l.drop m) (HT : RT g l2 l3 T1 0) :
    Calls Try.prog 76 #[.pointer (some ⟨g, 0, none⟩)] w (NextPost w g l (⟨K, zeros, false, T1⟩, m, 0)) := by
  unfold NextPost
  have HFR := Aside.mk (isRec.fresh 30 w (.cells recLit 30) rfl)
  have HL2 : Aside ((Value.agg recLit).cells = (recL Rec.zero).toArray) := ⟨rfl⟩
  go_enter Try.func76, Try.ntmps76
  go_wp2_with fail
  refine (HK _ (HI.keep ((Fr.refl (fun _ => False) _).alloc _) id)).mono ?_
  rintro e w1 ⟨rfl, hr, hf⟩
  have HR1 := Aside.mk hr
  have HF1 : Aside (Fr (fun k => k = g) w w1) := ⟨((Fr.refl _ w).alloc _).trans hf (fun _ _ q => q)⟩
  have HX1 : Aside (isRec 30 w1 w.heap.size Rec.zero) := ⟨HFR.out.keep hf (by omega)⟩
  clear hr hf
  go_wp2_with (with_reducible refine gate (.store 23 (.tmp 10) (.tmp 8)) rfl ?_; refine st_key rfl rfl (.tmp 10) (.tmp 8) rfl w.heap.size _ K rfl rfl HKL HX1.out ?_)
  intro w2 hx hf
  have HX2 := Aside.mk hx
  have HF2 : Aside (Fr (fun k => k = g) w w2) := ⟨HF1.out.trans hf (fun b hb q => by omega)⟩
  have HR2 := Aside.mk (HR1.out.keep hf (by omega))
  clear hx hf
  go_wp2_with fail
  refine (HC _ HR2.out).mono ?_
  rintro e w3 ⟨rfl, hr, hf⟩
  have HR3 := Aside.mk hr
  have HF3 : Aside (Fr (fun k => k = g) w w3) := ⟨HF2.out.trans hf (fun _ _ q => q)⟩
  have HX3 : Aside (isRec 30 w3 w.heap.size _) := ⟨HX2.out.keep hf (by omega)⟩
  clear hr hf
  go_wp2_with fail
  refine (HT _ HR3.out).mono ?_
  rintro e w4 ⟨rfl, hr, hf⟩
  have HR4 := Aside.mk hr
  have HF4 : Aside (Fr (fun k => k = g) w w4) := ⟨HF3.out.trans hf (fun _ _ q => q)⟩
  have HX4 : Aside (isRec 30 w4 w.heap.size _) := ⟨HX3.out.keep hf (by omega)⟩
  clear hr hf
  go_wp2_with (with_reducible refine gate (.store 9 (.tmp 46) (.tmp 44)) rfl ?_; refine st_body rfl rfl (.tmp 46) (.tmp 44) rfl w.heap.size _ T1 rfl rfl HX4.out ?_)
  intro w5 hx hf
  have HX5 := Aside.mk hx
  have HF5 : Aside (Fr (fun k => k = g) w w5) := ⟨HF4.out.trans hf (fun b hb q => by omega)⟩
  have HR5 := Aside.mk (HR4.out.keep hf (by omega))
  clear hx hf
  have hcb := HX5.out.body
  go_wp2_with (first | (with_reducible refine gate (.load 30 (.tmp 2)) rfl ?_; refine ld_all recT_box (by simp [Region.wanted]) (.tmp 2) rfl w.heap.size _ rfl HX5.out ?_) | (with_reducible refine gate (.store 30 (.tmp 2) (.tmp 59)) rfl ?_; refine st_all recT_box rfl rfl (.tmp 2) (.tmp 59) rfl w.heap.size _ _ _ rfl rfl rfl HX5.out.ok HX5.out ?_))
  intro w6 hx hf
  have HX6 := Aside.mk hx
  have HF6 : Aside (Fr (fun k => k = g) w w6) := ⟨HF5.out.trans hf (fun b hb q => by omega)⟩
  have HR6 := Aside.mk (HR5.out.keep hf (by omega))
  clear hx hf hcb
  go_wp2
  exact bodyPost_ret (HX6.out.results recT_box rfl _ rfl) rfl ⟨rfl, ⟨_, HR6.out, fun _ => hl3⟩, HF6.out⟩

set_option maxHeartbeats 3200000 in
set_option maxRecDepth 100000 in
theorem next_patch_short (w : World) (g : Nat) (l l1 K : List UInt8) (HI : isR w g l) (hgl : g < w.heap.size) (HKL : K.length = 32) (HK : RK g l K l1 0) (l2 : List UInt8) (HC : RC g l1 l2 1 0) (l3 B : List UInt8) (HBL : B.length = 32) (HK2 : RK g l2 B l3 2) :
    Calls Try.prog 76 #[.pointer (some ⟨g, 0, none⟩)] w (NextPost w g l (Rec.zero, 0, 2)) := by
  unfold NextPost
  have hne : ¬ (2 : Nat) = 0 := by omega
  have HFR := Aside.mk (isRec.fresh 30 w (.cells recLit 30) rfl)
  have HL2 : Aside ((Value.agg recLit).cells = (recL Rec.zero).toArray) := ⟨rfl⟩
  go_enter Try.func76, Try.ntmps76
  go_wp2_with fail
  refine (HK _ (HI.keep ((Fr.refl (fun _ => False) _).alloc _) id)).mono ?_
  rintro e w1 ⟨rfl, hr, hf⟩
  have HR1 := Aside.mk hr
  have HF1 : Aside (Fr (fun k => k = g) w w1) := ⟨((Fr.refl _ w).alloc _).trans hf (fun _ _ q => q)⟩
  have HX1 : Aside (isRec 30 w1 w.heap.size Rec.zero) := ⟨HFR.out.keep hf (by omega)⟩
  clear hr hf
  go_wp2_with (with_reducible refine gate (.store 23 (.tmp 10) (.tmp 8)) rfl ?_; refine st_key rfl rfl (.tmp 10) (.tmp 8) rfl w.heap.size _ K rfl rfl HKL HX1.out ?_)
  intro w2 hx hf
  have HX2 := Aside.mk hx
  have HF2 : Aside (Fr (fun k => k = g) w w2) := ⟨HF1.out.trans hf (fun b hb q => by omega)⟩
  have HR2 := Aside.mk (HR1.out.keep hf (by omega))
  clear hx hf
  go_wp2_with fail
  refine (HC _ HR2.out).mono ?_
  rintro e w3 ⟨rfl, hr, hf⟩
  have HR3 := Aside.mk hr
  have HF3 : Aside (Fr (fun k => k = g) w w3) := ⟨HF2.out.trans hf (fun _ _ q => q)⟩
  have HX3 : Aside (isRec 30 w3 w.heap.size _) := ⟨HX2.out.keep hf (by omega)⟩
  clear hr hf
  go_wp2_with (with_reducible refine gate (.store 4 (.tmp 32) (.const (.bool true))) rfl ?_; refine st_patch rfl rfl (.tmp 32) (.const (.bool true)) rfl w.heap.size _ true rfl rfl HX3.out ?_)
  intro w4 hx hf
  have HX4 := Aside.mk hx
  have HF4 : Aside (Fr (fun k => k = g) w w4) := ⟨HF3.out.trans hf (fun b hb q => by omega)⟩
  have HR4 := Aside.mk (HR3.out.keep hf (by omega))
  clear hx hf
  go_wp2_with fail
  refine (HK2 _ HR4.out).mono ?_
  rintro e w5 ⟨rfl, hr, hf⟩
  have HR5 := Aside.mk hr
  have HF5 : Aside (Fr (fun k => k = g) w w5) := ⟨HF4.out.trans hf (fun _ _ q => q)⟩
  have HX5 : Aside (isRec 30 w5 w.heap.size _) := ⟨HX4.out.keep hf (by omega)⟩
  clear hr hf
  go_wp2_with (with_reducible refine gate (.store 23 (.tmp 38) (.tmp 36)) rfl ?_; refine st_base rfl rfl (.tmp 38) (.tmp 36) rfl w.heap.size _ B rfl rfl HBL HX5.out ?_)
  intro w6 hx hf
  have HX6 := Aside.mk hx
  have HF6 : Aside (Fr (fun k => k = g) w w6) := ⟨HF5.out.trans hf (fun b hb q => by omega)⟩
  have HR6 := Aside.mk (HR5.out.keep hf (by omega))
  clear hx hf
  go_wp2_with (with_reducible refine gate (.store 30 (.tmp 2) (.tmp 57)) rfl ?_; refine st_all recT_box rfl rfl (.tmp 2) (.tmp 57) rfl w.heap.size _ Rec.zero (.agg recLit) rfl rfl HL2.out Rec.zero_ok HX6.out ?_)
  intro w7 hx hf
  have HX7 := Aside.mk hx
  have HF7 : Aside (Fr (fun k => k = g) w w7) := ⟨HF6.out.trans hf (fun b hb q => by omega)⟩
  have HR7 := Aside.mk (HR6.out.keep hf (by omega))
  clear hx hf
  go_wp2
  exact bodyPost_ret (HX7.out.results recT_box rfl _ rfl) rfl ⟨rfl, ⟨_, HR7.out, fun q => absurd q hne⟩, HF7.out⟩

set_option maxHeartbeats 3200000 in
set_option maxRecDepth 100000 in
theorem next_patch_text (w : World) (g : Nat) (l l1 K : List UInt8) (HI : isR w g l) (hgl : g < w.heap.size) (HKL : K.length = 32) (HK : RK g l K l1 0) (l2 : List UInt8) (HC : RC g l1 l2 1 0) (l3 B : List UInt8) (HBL : B.length = 32) (HK2 : RK g l2 B l3 0) (l4 T1 : List UInt8) (e : Nat) (he : ¬ e = 0) (HT : RT g l3 l4 T1 e) :
    Calls Try.prog 76 #[.pointer (some ⟨g, 0, none⟩)] w (NextPost w g l (Rec.zero, 0, e)) := by
  unfold NextPost
  have hne : ¬ e = 0 := he
  have heb : ((e : Int) == 0) = false := by simp; omega
  have HFR := Aside.mk (isRec.fresh 30 w (.cells recLit 30) rfl)
  have HL2 : Aside ((Value.agg recLit).cells = (recL Rec.zero).toArray) := ⟨rfl⟩
  go_enter Try.func76, Try.ntmps76
  go_wp2_with fail
  refine (HK _ (HI.keep ((Fr.refl (fun _ => False) _).alloc _) id)).mono ?_
  rintro e w1 ⟨rfl, hr, hf⟩
  have HR1 := Aside.mk hr
  have HF1 : Aside (Fr (fun k => k = g) w w1) := ⟨((Fr.refl _ w).alloc _).trans hf (fun _ _ q => q)⟩
  have HX1 : Aside (isRec 30 w1 w.heap.size Rec.zero) := ⟨HFR.out.keep hf (by omega)⟩
  clear hr hf
  go_wp2_with (with_reducible refine gate (.store 23 (.tmp 10) (.tmp 8)) rfl ?_; refine st_key rfl rfl (.tmp 10) (.tmp 8) rfl w.heap.size _ K rfl rfl HKL HX1.out ?_)
  intro w2 hx hf
  have HX2 := Aside.mk hx
  have HF2 : Aside (Fr (fun k => k = g) w w2) := ⟨HF1.out.trans hf (fun b hb q => by omega)⟩
  have HR2 := Aside.mk (HR1.out.keep hf (by omega))
  clear hx hf
  go_wp2_with fail
  refine (HC _ HR2.out).mono ?_
  rintro e w3 ⟨rfl, hr, hf⟩
  have HR3 := Aside.mk hr
  have HF3 : Aside (Fr (fun k => k = g) w w3) := ⟨HF2.out.trans hf (fun _ _ q => q)⟩
  have HX3 : Aside (isRec 30 w3 w.heap.size _) := ⟨HX2.out.keep hf (by omega)⟩
  clear hr hf
  go_wp2_with (with_reducible refine gate (.store 4 (.tmp 32) (.const (.bool true))) rfl ?_; refine st_patch rfl rfl (.tmp 32) (.const (.bool true)) rfl w.heap.size _ true rfl rfl HX3.out ?_)
  intro w4 hx hf
  have HX4 := Aside.mk hx
  have HF4 : Aside (Fr (fun k => k = g) w w4) := ⟨HF3.out.trans hf (fun b hb q => by omega)⟩
  have HR4 := Aside.mk (HR3.out.keep hf (by omega))
  clear hx hf
  go_wp2_with fail
  refine (HK2 _ HR4.out).mono ?_
  rintro e w5 ⟨rfl, hr, hf⟩
  have HR5 := Aside.mk hr
  have HF5 : Aside (Fr (fun k => k = g) w w5) := ⟨HF4.out.trans hf (fun _ _ q => q)⟩
  have HX5 : Aside (isRec 30 w5 w.heap.size _) := ⟨HX4.out.keep hf (by omega)⟩
  clear hr hf
  go_wp2_with (with_reducible refine gate (.store 23 (.tmp 38) (.tmp 36)) rfl ?_; refine st_base rfl rfl (.tmp 38) (.tmp 36) rfl w.heap.size _ B rfl rfl HBL HX5.out ?_)
  intro w6 hx hf
  have HX6 := Aside.mk hx
  have HF6 : Aside (Fr (fun k => k = g) w w6) := ⟨HF5.out.trans hf (fun b hb q => by omega)⟩
  have HR6 := Aside.mk (HR5.out.keep hf (by omega))
  clear hx hf
  go_wp2_with fail
  refine (HT _ HR6.out).mono ?_
  rintro e w7 ⟨rfl, hr, hf⟩
  have HR7 := Aside.mk hr
  have HF7 : Aside (Fr (fun k => k = g) w w7) := ⟨HF6.out.trans hf (fun _ _ q => q)⟩
  have HX7 : Aside (isRec 30 w7 w.heap.size _) := ⟨HX6.out.keep hf (by omega)⟩
  clear hr hf
  go_wp2_with (with_reducible refine gate (.store 9 (.tmp 46) (.tmp 44)) rfl ?_; refine st_body rfl rfl (.tmp 46) (.tmp 44) rfl w.heap.size _ T1 rfl rfl HX7.out ?_)
  intro w8 hx hf
  have HX8 := Aside.mk hx
  have HF8 : Aside (Fr (fun k => k = g) w w8) := ⟨HF7.out.trans hf (fun b hb q => by omega)⟩
  have HR8 := Aside.mk (HR7.out.keep hf (by omega))
  clear hx hf
  go_wp2_with (with_reducible refine gate (.store 30 (.tmp 2) (.tmp 57)) rfl ?_; refine st_all recT_box rfl rfl (.tmp 2) (.tmp 57) rfl w.heap.size _ Rec.zero (.agg recLit) rfl rfl HL2.out Rec.zero_ok HX8.out ?_)
  intro w9 hx hf
  have HX9 := Aside.mk hx
  have HF9 : Aside (Fr (fun k => k = g) w w9) := ⟨HF8.out.trans hf (fun b hb q => by omega)⟩
  have HR9 := Aside.mk (HR8.out.keep hf (by omega))
  clear hx hf
  go_wp2
  exact bodyPost_ret (HX9.out.results recT_box rfl _ rfl) rfl ⟨rfl, ⟨_, HR9.out, fun q => absurd q hne⟩, HF9.out⟩

set_option maxHeartbeats 3200000 in
set_option maxRecDepth 100000 in
theorem next_patch_long (w : World) (g : Nat) (l l1 K : List UInt8) (HI : isR w g l) (hgl : g < w.heap.size) (HKL : K.length = 32) (HK : RK g l K l1 0) (l2 : List UInt8) (HC : RC g l1 l2 1 0) (l3 B : List UInt8) (HBL : B.length = 32) (HK2 : RK g l2 B l3 0) (l4 T1 : List UInt8) (hl : 8192 < T1.length) (hl2 : T1.length ≤ 140737488355328) (HT : RT g l3 l4 T1 0) :
    Calls Try.prog 76 #[.pointer (some ⟨g, 0, none⟩)] w (NextPost w g l (Rec.zero, 0, 6)) := by
  unfold NextPost
  have hne : ¬ (6 : Nat) = 0 := by omega
  have HFR := Aside.mk (isRec.fresh 30 w (.cells recLit 30) rfl)
  have HL2 : Aside ((Value.agg recLit).cells = (recL Rec.zero).toArray) := ⟨rfl⟩
  go_enter Try.func76, Try.ntmps76
  go_wp2_with fail
  refine (HK _ (HI.keep ((Fr.refl (fun _ => False) _).alloc _) id)).mono ?_
  rintro e w1 ⟨rfl, hr, hf⟩
  have HR1 := Aside.mk hr
  have HF1 : Aside (Fr (fun k => k = g) w w1) := ⟨((Fr.refl _ w).alloc _).trans hf (fun _ _ q => q)⟩
  have HX1 : Aside (isRec 30 w1 w.heap.size Rec.zero) := ⟨HFR.out.keep hf (by omega)⟩
  clear hr hf
  go_wp2_with (with_reducible refine gate (.store 23 (.tmp 10) (.tmp 8)) rfl ?_; refine st_key rfl rfl (.tmp 10) (.tmp 8) rfl w.heap.size _ K rfl rfl HKL HX1.out ?_)
  intro w2 hx hf
  have HX2 := Aside.mk hx
  have HF2 : Aside (Fr (fun k => k = g) w w2) := ⟨HF1.out.trans hf (fun b hb q => by omega)⟩
  have HR2 := Aside.mk (HR1.out.keep hf (by omega))
  clear hx hf
  go_wp2_with fail
  refine (HC _ HR2.out).mono ?_
  rintro e w3 ⟨rfl, hr, hf⟩
  have HR3 := Aside.mk hr
  have HF3 : Aside (Fr (fun k => k = g) w w3) := ⟨HF2.out.trans hf (fun _ _ q => q)⟩
  have HX3 : Aside (isRec 30 w3 w.heap.size _) := ⟨HX2.out.keep hf (by omega)⟩
  clear hr hf
  go_wp2_with (with_reducible refine gate (.store 4 (.tmp 32) (.const (.bool true))) rfl ?_; refine st_patch rfl rfl (.tmp 32) (.const (.bool true)) rfl w.heap.size _ true rfl rfl HX3.out ?_)
  intro w4 hx hf
  have HX4 := Aside.mk hx
  have HF4 : Aside (Fr (fun k => k = g) w w4) := ⟨HF3.out.trans hf (fun b hb q => by omega)⟩
  have HR4 := Aside.mk (HR3.out.keep hf (by omega))
  clear hx hf
  go_wp2_with fail
  refine (HK2 _ HR4.out).mono ?_
  rintro e w5 ⟨rfl, hr, hf⟩
  have HR5 := Aside.mk hr
  have HF5 : Aside (Fr (fun k => k = g) w w5) := ⟨HF4.out.trans hf (fun _ _ q => q)⟩
  have HX5 : Aside (isRec 30 w5 w.heap.size _) := ⟨HX4.out.keep hf (by omega)⟩
  clear hr hf
  go_wp2_with (with_reducible refine gate (.store 23 (.tmp 38) (.tmp 36)) rfl ?_; refine st_base rfl rfl (.tmp 38) (.tmp 36) rfl w.heap.size _ B rfl rfl HBL HX5.out ?_)
  intro w6 hx hf
  have HX6 := Aside.mk hx
  have HF6 : Aside (Fr (fun k => k = g) w w6) := ⟨HF5.out.trans hf (fun b hb q => by omega)⟩
  have HR6 := Aside.mk (HR5.out.keep hf (by omega))
  clear hx hf
  go_wp2_with fail
  refine (HT _ HR6.out).mono ?_
  rintro e w7 ⟨rfl, hr, hf⟩
  have HR7 := Aside.mk hr
  have HF7 : Aside (Fr (fun k => k = g) w w7) := ⟨HF6.out.trans hf (fun _ _ q => q)⟩
  have HX7 : Aside (isRec 30 w7 w.heap.size _) := ⟨HX6.out.keep hf (by omega)⟩
  clear hr hf
  go_wp2_with (with_reducible refine gate (.store 9 (.tmp 46) (.tmp 44)) rfl ?_; refine st_body rfl rfl (.tmp 46) (.tmp 44) rfl w.heap.size _ T1 rfl rfl HX7.out ?_)
  intro w8 hx hf
  have HX8 := Aside.mk hx
  have HF8 : Aside (Fr (fun k => k = g) w w8) := ⟨HF7.out.trans hf (fun b hb q => by omega)⟩
  have HR8 := Aside.mk (HR7.out.keep hf (by omega))
  clear hx hf
  have hcb := HX8.out.body
  go_wp2_with (with_reducible refine gate (.store 30 (.tmp 2) (.tmp 57)) rfl ?_; refine st_all recT_box rfl rfl (.tmp 2) (.tmp 57) rfl w.heap.size _ Rec.zero (.agg recLit) rfl rfl HL2.out Rec.zero_ok HX8.out ?_)
  intro w9 hx hf
  have HX9 := Aside.mk hx
  have HF9 : Aside (Fr (fun k => k = g) w w9) := ⟨HF8.out.trans hf (fun b hb q => by omega)⟩
  have HR9 := Aside.mk (HR8.out.keep hf (by omega))
  clear hx hf
  go_wp2
  exact bodyPost_ret (HX9.out.results recT_box rfl _ rfl) rfl ⟨rfl, ⟨_, HR9.out, fun q => absurd q hne⟩, HF9.out⟩

set_option maxHeartbeats 3200000 in
set_option maxRecDepth 100000 in
theorem next_patch_ok (w : World) (g : Nat) (l l1 K : List UInt8) (HI : isR w g l) (hgl : g < w.heap.size) (HKL : K.length = 32) (HK : RK g l K l1 0) (l2 : List UInt8) (HC : RC g l1 l2 1 0) (l3 B : List UInt8) (HBL : B.length = 32) (HK2 : RK g l2 B l3 0) (l4 T1 : List UInt8) (hl : ¬ 8192 < T1.length) (m : Nat) (hl3 : l4 = l.drop m) (HT : RT g l3 l4 T1 0) :
    Calls Try.prog 76 #[.pointer (some ⟨g, 0, none⟩)] w (NextPost w g l (⟨K, B, true, T1⟩, m, 0)) := by
  unfold NextPost
  have HFR := Aside.mk (isRec.fresh 30 w (.cells recLit 30) rfl)
  have HL2 : Aside ((Value.agg recLit).cells = (recL Rec.zero).toArray) := ⟨rfl⟩
  go_enter Try.func76, Try.ntmps76
  go_wp2_with fail
  refine (HK _ (HI.keep ((Fr.refl (fun _ => False) _).alloc _) id)).mono ?_
  rintro e w1 ⟨rfl, hr, hf⟩
  have HR1 := Aside.mk hr
  have HF1 : Aside (Fr (fun k => k = g) w w1) := ⟨((Fr.refl _ w).alloc _).trans hf (fun _ _ q => q)⟩
  have HX1 : Aside (isRec 30 w1 w.heap.size Rec.zero) := ⟨HFR.out.keep hf (by omega)⟩
  clear hr hf
  go_wp2_with (with_reducible refine gate (.store 23 (.tmp 10) (.tmp 8)) rfl ?_; refine st_key rfl rfl (.tmp 10) (.tmp 8) rfl w.heap.size _ K rfl rfl HKL HX1.out ?_)
  intro w2 hx hf
  have HX2 := Aside.mk hx
  have HF2 : Aside (Fr (fun k => k = g) w w2) := ⟨HF1.out.trans hf (fun b hb q => by omega)⟩
  have HR2 := Aside.mk (HR1.out.keep hf (by omega))
  clear hx hf
  go_wp2_with fail
  refine (HC _ HR2.out).mono ?_
  rintro e w3 ⟨rfl, hr, hf⟩
  have HR3 := Aside.mk hr
  have HF3 : Aside (Fr (fun k => k = g) w w3) := ⟨HF2.out.trans hf (fun _ _ q => q)⟩
  have HX3 : Aside (isRec 30 w3 w.heap.size _) := ⟨HX2.out.keep hf (by omega)⟩
  clear hr hf
  go_wp2_with (with_reducible refine gate (.store 4 (.tmp 32) (.const (.bool true))) rfl ?_; refine st_patch rfl rfl (.tmp 32) (.const (.bool true)) rfl w.heap.size _ true rfl rfl HX3.out ?_)
  intro w4 hx hf
  have HX4 := Aside.mk hx
  have HF4 : Aside (Fr (fun k => k = g) w w4) := ⟨HF3.out.trans hf (fun b hb q => by omega)⟩
  have HR4 := Aside.mk (HR3.out.keep hf (by omega))
  clear hx hf
  go_wp2_with fail
  refine (HK2 _ HR4.out).mono ?_
  rintro e w5 ⟨rfl, hr, hf⟩
  have HR5 := Aside.mk hr
  have HF5 : Aside (Fr (fun k => k = g) w w5) := ⟨HF4.out.trans hf (fun _ _ q => q)⟩
  have HX5 : Aside (isRec 30 w5 w.heap.size _) := ⟨HX4.out.keep hf (by omega)⟩
  clear hr hf
  go_wp2_with (with_reducible refine gate (.store 23 (.tmp 38) (.tmp 36)) rfl ?_; refine st_base rfl rfl (.tmp 38) (.tmp 36) rfl w.heap.size _ B rfl rfl HBL HX5.out ?_)
  intro w6 hx hf
  have HX6 := Aside.mk hx
  have HF6 : Aside (Fr (fun k => k = g) w w6) := ⟨HF5.out.trans hf (fun b hb q => by omega)⟩
  have HR6 := Aside.mk (HR5.out.keep hf (by omega))
  clear hx hf
  go_wp2_with fail
  refine (HT _ HR6.out).mono ?_
  rintro e w7 ⟨rfl, hr, hf⟩
  have HR7 := Aside.mk hr
  have HF7 : Aside (Fr (fun k => k = g) w w7) := ⟨HF6.out.trans hf (fun _ _ q => q)⟩
  have HX7 : Aside (isRec 30 w7 w.heap.size _) := ⟨HX6.out.keep hf (by omega)⟩
  clear hr hf
  go_wp2_with (with_reducible refine gate (.store 9 (.tmp 46) (.tmp 44)) rfl ?_; refine st_body rfl rfl (.tmp 46) (.tmp 44) rfl w.heap.size _ T1 rfl rfl HX7.out ?_)
  intro w8 hx hf
  have HX8 := Aside.mk hx
  have HF8 : Aside (Fr (fun k => k = g) w w8) := ⟨HF7.out.trans hf (fun b hb q => by omega)⟩
  have HR8 := Aside.mk (HR7.out.keep hf (by omega))
  clear hx hf
  have hcb := HX8.out.body
  go_wp2_with (first | (with_reducible refine gate (.load 30 (.tmp 2)) rfl ?_; refine ld_all recT_box (by simp [Region.wanted]) (.tmp 2) rfl w.heap.size _ rfl HX8.out ?_) | (with_reducible refine gate (.store 30 (.tmp 2) (.tmp 59)) rfl ?_; refine st_all recT_box rfl rfl (.tmp 2) (.tmp 59) rfl w.heap.size _ _ _ rfl rfl rfl HX8.out.ok HX8.out ?_))
  intro w9 hx hf
  have HX9 := Aside.mk hx
  have HF9 : Aside (Fr (fun k => k = g) w w9) := ⟨HF8.out.trans hf (fun b hb q => by omega)⟩
  have HR9 := Aside.mk (HR8.out.keep hf (by omega))
  clear hx hf hcb
  go_wp2
  exact bodyPost_ret (HX9.out.results recT_box rfl _ rfl) rfl ⟨rfl, ⟨_, HR9.out, fun _ => hl3⟩, HF9.out⟩

end Go.Proofs.Ytodhkdmkkjhnnaa
