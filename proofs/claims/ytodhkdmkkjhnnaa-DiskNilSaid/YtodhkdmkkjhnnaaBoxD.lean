/- The walks of box: Begin, Add, Read, File, Size, Sync, on the ways that BoxNil takes. -/
import Derived.Test.YtodhkdmkkjhnnaaDisk
set_option linter.unusedVariables false
set_option linter.unusedSimpArgs false
namespace Go.Proofs.Ytodhkdmkkjhnnaa
open Go.RowKit

def PLc : List Value := [.int .i64 0, .int .i64 0, .int .i64 0]
def PL : Value := .agg PLc.toArray
theorem info_place : (Try.prog.info? 78).map (·.size) = some PLc.length := by kernel_rfl

set_option maxRecDepth 100000 in
theorem bfile_nil (w : World) : Calls Try.prog 46 #[.pointer none] w fun e w' => e = .returned (.int .i64 0) ∧ w' = w := by
  go_enter Try.func46, Try.ntmps46
  go_wp2
  go_ret
  exact ⟨rfl, rfl⟩
set_option maxRecDepth 100000 in
theorem bsize_nil (w : World) : Calls Try.prog 47 #[.pointer none] w fun e w' => e = .returned (.int .i64 0) ∧ w' = w := by
  go_enter Try.func47, Try.ntmps47
  go_wp2
  go_ret
  exact ⟨rfl, rfl⟩
set_option maxRecDepth 100000 in
theorem bsize_any (w : World) (b : Nat) (n : Int) (h : w.cell? ⟨b, 2, none⟩ = some (.int .i64 n)) : Calls Try.prog 47 #[.pointer (some ⟨b, 0, none⟩)] w fun e w' => e = .returned (.int .i64 n) ∧ w' = w := by
  go_enter Try.func47, Try.ntmps47
  go_wp2
  go_ret
  exact ⟨rfl, rfl⟩
set_option maxRecDepth 100000 in
theorem bsync_nil (w : World) : Calls Try.prog 48 #[.pointer none] w fun e w' => e = .returned (.int .i64 1) ∧ w' = w := by
  go_enter Try.func48, Try.ntmps48
  go_wp2
  go_ret
  exact ⟨rfl, rfl⟩

set_option maxRecDepth 100000 in
theorem bbegin_nil (w : World) (t n : Int) : Calls Try.prog 45 #[.pointer none, .int .i64 t, .int .i64 n] w fun e w' => e = .returned (.tuple #[.pointer none, .int .i64 8]) ∧ w' = w := by
  have HF := Aside.mk (fun W => make_nil W t n)
  go_enter Try.func45, Try.ntmps45
  go_wp2_with fail
  refine (HF.out _).mono ?_
  rintro e w1 ⟨rfl, rfl⟩
  go_wp2
  go_ret2
  exact ⟨rfl, rfl⟩
set_option maxRecDepth 100000 in
theorem bbegin_full (w : World) (g : Nat) (n : Int) (HC : Calls Try.prog 24 #[.pointer (some ⟨g, 0, none⟩), .int .i64 0, .int .i64 n] w fun e w' => e = .returned (.int .i64 7) ∧ Fr (fun _ => False) w w') :
    Calls Try.prog 45 #[.pointer (some ⟨g, 0, none⟩), .int .i64 0, .int .i64 n] w fun e w' => e = .returned (.tuple #[.pointer none, .int .i64 7]) ∧ Fr (fun _ => False) w w' := by
  replace HC := Aside.mk HC
  go_enter Try.func45, Try.ntmps45
  go_wp2_with fail
  refine HC.out.mono ?_
  rintro e w1 ⟨rfl, hf⟩
  have HF := Aside.mk hf
  clear hf
  go_wp2
  go_ret2
  exact ⟨rfl, HF.out⟩
set_option maxRecDepth 100000 in
theorem bbegin_ok (w : World) (g : Nat) (n : Int) (D : World → Prop) (HC : Calls Try.prog 24 #[.pointer (some ⟨g, 0, none⟩), .int .i64 0, .int .i64 n] w fun e w' => e = .returned (.int .i64 0) ∧ D w') :
    Calls Try.prog 45 #[.pointer (some ⟨g, 0, none⟩), .int .i64 0, .int .i64 n] w fun e w' => ∃ w1, D w1 ∧ e = .returned (.tuple #[.pointer (some ⟨w1.heap.size, 0, none⟩), .int .i64 0]) ∧ w' = w1.alloc (.cells #[.pointer (some ⟨g, 0, none⟩), .int .i64 n, .int .i64 0] 146) := by
  replace HC := Aside.mk HC
  go_enter Try.func45, Try.ntmps45
  go_wp2_with fail
  refine HC.out.mono ?_
  rintro e w1 ⟨rfl, hf⟩
  have HF := Aside.mk hf
  clear hf
  go_wp2
  go_ret2
  exact ⟨_, HF.out, rfl, rfl⟩

set_option maxHeartbeats 1600000 in
set_option maxRecDepth 100000 in
theorem bread_nil (w : World) (n : Int) : Calls Try.prog 41 #[.pointer none, .agg #[.int .i64 n, .int .i64 0, .int .i64 0]] w fun e w' => e = .returned (.tuple #[recV Rec.zero, .int .i64 8]) ∧ Fr (fun _ => False) w w' := by
  have HD := Aside.mk (fun W => dread_nil W n 0 0)
  have HL2 : Aside ((Value.agg recLit).cells = (recL Rec.zero).toArray) := ⟨rfl⟩
  have HR := Aside.mk (isRec.fresh 30 (w.alloc (.cells #[.int .i64 n, .int .i64 0, .int .i64 0] 78)) (.cells recLit 30) rfl)
  have HF0 := Aside.mk (((Fr.refl (fun _ => False) w).alloc (.cells #[.int .i64 n, .int .i64 0, .int .i64 0] 78)).alloc (.cells recLit 30))
  go_enter Try.func41, Try.ntmps41
  go_wp2_with fail
  refine (HD.out _).mono ?_
  rintro e w1 ⟨rfl, rfl⟩
  go_wp2_with ((with_reducible refine gate (.store 30 (.tmp 4) (.tmp 21)) rfl ?_); refine st_all recT_box rfl rfl (.tmp 4) (.tmp 21) rfl (w.heap.size + 1) _ Rec.zero (.agg recLit) rfl rfl HL2.out Rec.zero_ok (by have := HR.out; rw [World.size_alloc] at this; exact this) ?_)
  intro w2 hx hf
  have HX := Aside.mk hx
  have HF := Aside.mk (HF0.out.trans hf (fun b hb q => by have q2 : b = w.heap.size + 1 := q; omega))
  clear hx hf
  go_wp2
  exact bodyPost_ret (HX.out.results recT_box rfl _ rfl) rfl ⟨rfl, HF.out⟩

set_option maxHeartbeats 1600000 in
set_option maxRecDepth 100000 in
theorem badd_nil (w : World) (r : Rec) (hr : r.Ok) : Calls Try.prog 44 #[.pointer none, recV r] w fun e w' => e = .returned (.tuple #[PL, .int .i64 1]) ∧ Fr (fun _ => False) w w' := by
  have HP4 : Aside (((w.alloc (.cells (recL r).toArray 30)).alloc (.cells #[.int .i64 0, .int .i64 0, .int .i64 0] 78)).heap[w.heap.size + 1]? = some (.cells PLc.toArray 78 (0, 0))) := ⟨by
    have h := heap_new (w.alloc (.cells (recL r).toArray 30)) (.cells #[.int .i64 0, .int .i64 0, .int .i64 0] 78)
    rw [World.size_alloc] at h; exact h⟩
  have HF0 := Aside.mk (((Fr.refl (fun _ => False) w).alloc (.cells (recL r).toArray 30)).alloc (.cells #[.int .i64 0, .int .i64 0, .int .i64 0] 78))
  unfold recV
  generalize recL r = L at *
  go_enter Try.func44, Try.ntmps44
  go_wp2_with ((with_reducible refine gate (.store 78 (.tmp 4) (.tmp 11)) rfl ?_); refine store_part rfl rfl 78 (.tmp 4) (.tmp 11) rfl (w.heap.size + 1) 0 PL rfl rfl 78 _ PLc HP4.out rfl info_place (by simp [PLc]) (by simp [PLc, Value.oneCell']) ?_)
  intro w2 hx hf
  have HX := Aside.mk hx
  have HF := Aside.mk (HF0.out.trans hf (fun b hb q => by have q2 : b = w.heap.size + 1 := q; omega))
  clear hx hf
  go_wp2
  refine bodyPost_ret (results_ct rfl _ w2 (w.heap.size + 1) 78 _ _ _ rfl HX.out Try.underlying78 rfl info_place) rfl ⟨rfl, HF.out⟩

set_option maxHeartbeats 3200000 in
set_option maxRecDepth 100000 in
theorem badd_full (w : World) (b g m f h c uc root st : Nat) (n : Int) (r : Rec) (hr : r.Ok) (S : List UInt8) (hS : 0 < S.length) (hS2 : S.length ≤ 1000000000)
    (HP : ∀ W, Calls Try.prog 16 #[recV r] W fun e w' => e = .returned (.tuple #[.string ⟨S.toArray⟩, .int .i64 0]) ∧ Fr (fun _ => False) W w')
    (Hb : w.heap[b]? = some (.cells #[.pointer (some ⟨g, 0, none⟩), .int .i64 n, .int .i64 0] 146 (0, 0)))
    (H : isD w g m h c h uc root st (-1) false) (HM : isM w m #[⟨.int .i64 n, .pointer (some ⟨f, 0, none⟩), 0⟩] 1) (Hf : w.heap[f]? = some (.cells #[.int .i64 0, .slice none 0 0, .int .i64 (-1)] 140 (0, 0))) :
    Calls Try.prog 44 #[.pointer (some ⟨b, 0, none⟩), recV r] w fun e w' => e = .returned (.tuple #[PL, .int .i64 7]) ∧ Fr (fun _ => False) w w' := by
  have HP4 : Aside (((w.alloc (.cells (recL r).toArray 30)).alloc (.cells #[.int .i64 0, .int .i64 0, .int .i64 0] 78)).heap[w.heap.size + 1]? = some (.cells PLc.toArray 78 (0, 0))) := ⟨by
    have h := heap_new (w.alloc (.cells (recL r).toArray 30)) (.cells #[.int .i64 0, .int .i64 0, .int .i64 0] 78)
    rw [World.size_alloc] at h; exact h⟩
  have HF0 := Aside.mk (((Fr.refl (fun _ => False) w).alloc (.cells (recL r).toArray 30)).alloc (.cells #[.int .i64 0, .int .i64 0, .int .i64 0] 78))
  have HR0 : Aside (isRec 30 ((w.alloc (.cells (recL r).toArray 30)).alloc (.cells #[.int .i64 0, .int .i64 0, .int .i64 0] 78)) w.heap.size r) := ⟨(isRec.new _ w r hr).keep ((Fr.refl (fun _ => False) _).alloc _) id⟩
  have hlen : (ByteArray.mk S.toArray).size = S.length := by simp [ByteArray.size]
  replace HP := Aside.mk HP
  replace Hb := Aside.mk (HF0.out.heap Hb id)
  replace H := Aside.mk (HF0.out.heap H id)
  replace HM := Aside.mk (HF0.out.heap HM id)
  replace Hf := Aside.mk (HF0.out.heap Hf id)
  unfold recV at HP ⊢
  generalize hL : recL r = L at *
  have HV : Aside (recV r = .agg L.toArray) := ⟨by rw [recV, hL]⟩
  clear hL
  go_enter Try.func44, Try.ntmps44
  go_wp2_with ((with_reducible refine gate (.load 30 (.tmp 3)) rfl ?_); refine ld_all recT_box (by simp [Region.wanted]) (.tmp 3) rfl w.heap.size r rfl HR0.out ?_; rw [HV.out])
  refine (HP.out _).mono ?_
  rintro e w1 ⟨rfl, hf⟩
  have HF1 := Aside.mk (HF0.out.trans hf (fun _ _ q => q))
  replace Hb := Aside.mk (hf.heap Hb.out id)
  replace H := Aside.mk (hf.heap H.out id)
  replace HM := Aside.mk (hf.heap HM.out id)
  replace Hf := Aside.mk (hf.heap Hf.out id)
  replace HP4 := Aside.mk (hf.heap HP4.out id)
  clear hf
  have HADD : Aside (∀ k, Calls Try.prog 25 #[.pointer (some ⟨g, 0, none⟩), .int .i64 n, .string ⟨S.toArray⟩] (w1.drewN k) _) := ⟨fun k => dadd_full (w1.drewN k) g m f h c uc root st n ⟨S.toArray⟩ (by rw [hlen]; exact hS) (by rw [hlen]; exact hS2) H.out (heap_cell (w := w1.drewN k) Hf.out 0) (heap_cell (w := w1.drewN k) Hf.out 1)
    (by have q := lk_one (w1.drewN k) m 1 0 n n (.pointer (some ⟨f, 0, none⟩)) HM.out; rw [if_pos rfl] at q; exact q)⟩
  have hb0 : w1.cell? ⟨b, 0, none⟩ = some (.pointer (some ⟨g, 0, none⟩)) := heap_cell Hb.out 0
  have hb1 : w1.cell? ⟨b, 1, none⟩ = some (.int .i64 n) := heap_cell Hb.out 1
  go_wp2_with fail
  go_quiet (first | (go_at_call 25; refine Calls.quiet_of (HADD.out _)))
  replace HP4 : Aside ((w1.drewN nq).heap[w.heap.size + 1]? = some (.cells PLc.toArray 78 (0, 0))) := ⟨HP4.out⟩
  have HF2 := Aside.mk (HF1.out.drewN nq)
  go_wp2_with ((with_reducible refine gate (.store 78 (.tmp 4) (.tmp 31)) rfl ?_); refine store_part rfl rfl 78 (.tmp 4) (.tmp 31) rfl (w.heap.size + 1) 0 PL rfl rfl 78 _ PLc HP4.out rfl info_place (by simp [PLc]) (by simp [PLc, Value.oneCell']) ?_)
  intro w2 hx hf
  have HX := Aside.mk hx
  have HF := Aside.mk (HF2.out.trans hf (fun b hb q => by have q2 : b = w.heap.size + 1 := q; omega))
  clear hx hf
  go_wp2
  refine bodyPost_ret (results_ct rfl _ w2 (w.heap.size + 1) 78 _ _ _ rfl HX.out Try.underlying78 rfl info_place) rfl ⟨rfl, HF.out⟩

end Go.Proofs.Ytodhkdmkkjhnnaa
