/- The walk of silolaw17.BoxReads: its guarded way. -/
import Derived.Test.YtodhkdmkkjhnnaaAwake17
import Derived.Test.YtodhkdmkkjhnnaaTheirs
set_option linter.unusedVariables false
set_option linter.unusedSimpArgs false
namespace Go.Proofs.Ytodhkdmkkjhnnaa
open Go.RowKit

/-- A place and two more: too long a body. -/
def RdCall (w : World) (r : Rec) (s : ByteArray) (n a k at_ : Int) (y : Int) : Prop := Calls Try.prog 8 #[recV r, .string s, .agg #[.int .i64 n, .int .i64 a, .int .i64 k], .int .i64 at_, .int .u8 y] w fun e w' => e = .returned (.bool true) ∧ Fr (fun _ => False) w w'

set_option maxHeartbeats 3200000 in
set_option maxRecDepth 100000 in
theorem reads_long (w : World) (r : Rec) (hr : r.Ok) (s : ByteArray) (n a k at_ y : Int) (hl : 30000 < r.body.length ∨ 30000 < s.size) : RdCall w r s n a k at_ y := by
  unfold RdCall
  have HI : Aside (isRec 25 ((w.alloc (.cells (recL r).toArray 25)).alloc (.cells #[.int .i64 n, .int .i64 a, .int .i64 k] 78)) w.heap.size r) := ⟨(isRec.new 25 w r hr).keep ((Fr.refl (fun _ => False) _).alloc _) id⟩
  have HF0 : Aside (Fr (fun _ => False) w ((w.alloc (.cells (recL r).toArray 25)).alloc (.cells #[.int .i64 n, .int .i64 a, .int .i64 k] 78))) := ⟨((Fr.refl _ w).alloc _).alloc _⟩
  have h64 := recL_patch hr
  have h65 := recL_body hr
  have HA := Aside.mk (fun W => awake_any W)
  have hbs : (ByteArray.mk r.body.toArray).size = r.body.length := by simp [ByteArray.size]
  unfold recV at *
  generalize hL : recL r = L at *
  generalize r.body.length = nb at *
  clear hL
  by_cases h1 : 30000 < nb
  · have q1 : decide ((30000 : Int) < (nb : Int)) = true := by simp; omega
    clear hl h1
    go_enter Try.func8, Try.ntmps8
    go_wp2_with fail
    refine (HA.out _).mono ?_
    rintro e w1 ⟨rfl, hf⟩
    have HF1 := Aside.mk (HF0.out.trans hf (fun _ _ q => q))
    have HI1 := Aside.mk (HI.out.keep hf id)
    clear hf
    have hbd := HI1.out.body
    go_wp2_with fail
    refine (HA.out _).mono ?_
    rintro e w2 ⟨rfl, hf⟩
    have HF2 := Aside.mk (HF1.out.trans hf (fun _ _ q => q))
    clear hf hbd
    go_wp2
    go_ret
    exact ⟨rfl, HF2.out⟩
  · have q1 : decide ((30000 : Int) < (nb : Int)) = false := by simp; omega
    have q2 : decide ((30000 : Int) < (s.size : Int)) = true := by simp; omega
    clear hl h1
    go_enter Try.func8, Try.ntmps8
    go_wp2_with fail
    refine (HA.out _).mono ?_
    rintro e w1 ⟨rfl, hf⟩
    have HF1 := Aside.mk (HF0.out.trans hf (fun _ _ q => q))
    have HI1 := Aside.mk (HI.out.keep hf id)
    clear hf
    have hbd := HI1.out.body
    go_wp2_with fail
    refine (HA.out _).mono ?_
    rintro e w2 ⟨rfl, hf⟩
    have HF2 := Aside.mk (HF1.out.trans hf (fun _ _ q => q))
    clear hf hbd
    go_wp2
    go_ret
    exact ⟨rfl, HF2.out⟩
end Go.Proofs.Ytodhkdmkkjhnnaa
