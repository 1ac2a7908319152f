/- disk.Read on the refused ways; box.Read by what the disk's Read answers. -/
import Derived.Test.YtodhkdmkkjhnnaaDiskAdd
import Derived.Test.YtodhkdmkkjhnnaaBoxD
set_option linter.unusedVariables false
set_option linter.unusedSimpArgs false
namespace Go.Proofs.Ytodhkdmkkjhnnaa
open Go.RowKit

set_option maxRecDepth 100000 in
theorem dread_none (w : World) (g m : Nat) (n a k : Int) (hc0 : w.cell? ⟨g, 0, none⟩ = some (.map (some m))) (hc8 : w.cell? ⟨g, 8, none⟩ = some (.bool false))
    (HL : (Instr.lookup 132 (.map (some m)) (.int .i64 n) false).run Try.prog w = .ok (.pointer none) w) :
    Calls Try.prog 39 #[.pointer (some ⟨g, 0, none⟩), .int .i64 n, .int .i64 a, .int .i64 k] w fun e w' => e = .returned (.tuple #[.string ⟨#[]⟩, .int .i64 9]) ∧ w' = w := by
  have HF := Aside.mk (find_no w g m n hc0 hc8 HL)
  clear HL hc0 hc8
  go_enter Try.func39, Try.ntmps39
  go_wp2_with fail
  refine HF.out.mono ?_
  rintro e x1 ⟨rfl, rfl⟩
  go_wp2
  go_ret2
  exact ⟨rfl, rfl⟩

set_option maxHeartbeats 1600000 in
set_option maxRecDepth 100000 in
theorem dread_bad (w : World) (g m f : Nat) (n sure t a k : Int) (v : Value) (bs : List UInt8) (hbs : bs.length ≤ 1000000000) (hbad : a < 0 ∨ k < 0 ∨ (bs.length : Int) < a ∨ (bs.length : Int) - a < k) (hc0 : w.cell? ⟨g, 0, none⟩ = some (.map (some m))) (hc8 : w.cell? ⟨g, 8, none⟩ = some (.bool false)) (HFI : isF w f t v bs sure)
    (HL : (Instr.lookup 132 (.map (some m)) (.int .i64 n) false).run Try.prog w = .ok (.pointer (some ⟨f, 0, none⟩)) w) :
    Calls Try.prog 39 #[.pointer (some ⟨g, 0, none⟩), .int .i64 n, .int .i64 a, .int .i64 k] w fun e w' => e = .returned (.tuple #[.string ⟨#[]⟩, .int .i64 1]) ∧ w' = w := by
  have HF := Aside.mk (find_yes w g m f n hc0 hc8 HL)
  have hsh : ∃ a0 c0, v = .slice a0 bs.length c0 := by
    rcases HFI.2.2 with ⟨hv, h0⟩ | ⟨b, cap, cur, hv, _⟩
    · rw [hv, h0]; exact ⟨_, _, rfl⟩
    · exact ⟨_, _, hv⟩
  obtain ⟨a0, c0, rfl⟩ := hsh
  have hf1 : w.cell? ⟨f, 1, none⟩ = some (.slice a0 bs.length c0) := heap_cell HFI.1 1
  clear HL HFI hc0 hc8
  by_cases h1 : a < 0
  · have q1 : decide (a < 0) = true := by simp [h1]
    clear hbad h1
    go_enter Try.func39, Try.ntmps39
    go_wp2_with fail
    refine HF.out.mono ?_
    rintro e x1 ⟨rfl, rfl⟩
    go_wp2
    go_ret2
    exact ⟨rfl, rfl⟩
  by_cases h2 : k < 0
  · have q1 : decide (a < 0) = false := by simp [h1]
    have q2 : decide (k < 0) = true := by simp [h2]
    clear hbad h1 h2
    go_enter Try.func39, Try.ntmps39
    go_wp2_with fail
    refine HF.out.mono ?_
    rintro e x1 ⟨rfl, rfl⟩
    go_wp2
    go_ret2
    exact ⟨rfl, rfl⟩
  by_cases h3 : (bs.length : Int) < a
  · have q1 : decide (a < 0) = false := by simp [h1]
    have q2 : decide (k < 0) = false := by simp [h2]
    have q3 : decide ((bs.length : Int) < a) = true := by simp [h3]
    clear hbad h1 h2 h3
    go_enter Try.func39, Try.ntmps39
    go_wp2_with fail
    refine HF.out.mono ?_
    rintro e x1 ⟨rfl, rfl⟩
    go_wp2
    go_ret2
    exact ⟨rfl, rfl⟩
  · have q1 : decide (a < 0) = false := by simp [h1]
    have q2 : decide (k < 0) = false := by simp [h2]
    have q3 : decide ((bs.length : Int) < a) = false := by simp [h3]
    have w1 : IntKind.i64.wrap ((bs.length : Int) - a) = (bs.length : Int) - a := by simp [IntKind.wrap, IntKind.bits, IntKind.signed]; omega
    have q4 : decide ((bs.length : Int) - a < k) = true := by simp; omega
    clear hbad h1 h2 h3
    go_enter Try.func39, Try.ntmps39
    go_wp2_with fail
    refine HF.out.mono ?_
    rintro e x1 ⟨rfl, rfl⟩
    go_wp2
    go_ret2
    exact ⟨rfl, rfl⟩

set_option maxHeartbeats 1600000 in
set_option maxRecDepth 100000 in
theorem bread_err (w : World) (g : Nat) (n a k : Int) (e0 : Nat) (he : ¬ e0 = 0) (HC : Calls Try.prog 39 #[.pointer (some ⟨g, 0, none⟩), .int .i64 n, .int .i64 a, .int .i64 k] ((w.alloc (.cells #[.int .i64 n, .int .i64 a, .int .i64 k] 78)).alloc (.cells recLit 30)) fun e w' => e = .returned (.tuple #[.string ⟨#[]⟩, .int .i64 (e0 : Nat)]) ∧ w' = (w.alloc (.cells #[.int .i64 n, .int .i64 a, .int .i64 k] 78)).alloc (.cells recLit 30)) : Calls Try.prog 41 #[.pointer (some ⟨g, 0, none⟩), .agg #[.int .i64 n, .int .i64 a, .int .i64 k]] w fun e w' => e = .returned (.tuple #[recV Rec.zero, .int .i64 (e0 : Nat)]) ∧ Fr (fun _ => False) w w' := by
  have HL2 : Aside ((Value.agg recLit).cells = (recL Rec.zero).toArray) := ⟨rfl⟩
  have HR := Aside.mk (isRec.fresh 30 (w.alloc (.cells #[.int .i64 n, .int .i64 a, .int .i64 k] 78)) (.cells recLit 30) rfl)
  have HF0 := Aside.mk (((Fr.refl (fun _ => False) w).alloc (.cells #[.int .i64 n, .int .i64 a, .int .i64 k] 78)).alloc (.cells recLit 30))
  have heb : ((e0 : Int) == 0) = false := by simp; omega
  have HD := Aside.mk HC
  clear HC
  go_enter Try.func41, Try.ntmps41
  go_wp2_with fail
  refine HD.out.mono ?_
  rintro e w1 ⟨rfl, rfl⟩
  go_wp2_with ((with_reducible refine gate (.store 30 (.tmp 4) (.tmp 21)) rfl ?_); refine st_all recT_box rfl rfl (.tmp 4) (.tmp 21) rfl (w.heap.size + 1) _ Rec.zero (.agg recLit) rfl rfl HL2.out Rec.zero_ok (by have := HR.out; rw [World.size_alloc] at this; exact this) ?_)
  intro w2 hx hf
  have HX := Aside.mk hx
  have HF := Aside.mk (HF0.out.trans hf (fun b hb q => by have q2 : b = w.heap.size + 1 := q; omega))
  clear hx hf
  go_wp2
  exact bodyPost_ret (HX.out.results recT_box rfl _ rfl) rfl ⟨rfl, HF.out⟩

set_option maxHeartbeats 1600000 in
set_option maxRecDepth 100000 in
theorem bread_ok (w : World) (g : Nat) (n a k : Int) (S : List UInt8) (r : Rec) (hr : r.Ok) (e0 : Nat) (HC : Calls Try.prog 39 #[.pointer (some ⟨g, 0, none⟩), .int .i64 n, .int .i64 a, .int .i64 k] ((w.alloc (.cells #[.int .i64 n, .int .i64 a, .int .i64 k] 78)).alloc (.cells recLit 30)) fun e w' => e = .returned (.tuple #[.string ⟨S.toArray⟩, .int .i64 0]) ∧ w' = (w.alloc (.cells #[.int .i64 n, .int .i64 a, .int .i64 k] 78)).alloc (.cells recLit 30))
    (HO : ∀ W, Calls Try.prog 20 #[.string ⟨S.toArray⟩] W fun e w' => e = .returned (.tuple #[recV r, .int .i64 (e0 : Nat)]) ∧ Fr (fun _ => False) W w') : Calls Try.prog 41 #[.pointer (some ⟨g, 0, none⟩), .agg #[.int .i64 n, .int .i64 a, .int .i64 k]] w fun e w' => e = .returned (.tuple #[recV r, .int .i64 (e0 : Nat)]) ∧ Fr (fun _ => False) w w' := by
  have HL2 : Aside ((Value.agg recLit).cells = (recL Rec.zero).toArray) := ⟨rfl⟩
  have HR := Aside.mk (isRec.fresh 30 (w.alloc (.cells #[.int .i64 n, .int .i64 a, .int .i64 k] 78)) (.cells recLit 30) rfl)
  have HF0 := Aside.mk (((Fr.refl (fun _ => False) w).alloc (.cells #[.int .i64 n, .int .i64 a, .int .i64 k] 78)).alloc (.cells recLit 30))
  have HD := Aside.mk HC
  have HOO := Aside.mk HO
  clear HC HO
  go_enter Try.func41, Try.ntmps41
  go_wp2_with fail
  refine HD.out.mono ?_
  rintro e w1 ⟨rfl, rfl⟩
  go_wp2_with fail
  refine (HOO.out _).mono ?_
  rintro e w1 ⟨rfl, hf⟩
  have HF1 := Aside.mk (HF0.out.trans hf (fun _ _ q => q))
  have HR1 : Aside (isRec 30 w1 (w.heap.size + 1) Rec.zero) := ⟨by have q := HR.out.keep hf id; rw [World.size_alloc] at q; exact q⟩
  clear hf
  go_wp2_with ((with_reducible refine gate (.store 30 (.tmp 4) (.tmp 25)) rfl ?_); refine st_all recT_box rfl rfl (.tmp 4) (.tmp 25) rfl (w.heap.size + 1) _ r (recV r) rfl rfl rfl hr HR1.out ?_)
  intro w2 hx hf
  have HX := Aside.mk hx
  have HF := Aside.mk (HF1.out.trans hf (fun b hb q => by have q2 : b = w.heap.size + 1 := q; omega))
  clear hx hf
  go_wp2
  exact bodyPost_ret (HX.out.results recT_box rfl _ rfl) rfl ⟨rfl, HF.out⟩

set_option maxHeartbeats 1600000 in
set_option maxRecDepth 100000 in
theorem dsize_ok (w : World) (g m f : Nat) (n sure t : Int) (v : Value) (bs : List UInt8) (hc0 : w.cell? ⟨g, 0, none⟩ = some (.map (some m))) (hc8 : w.cell? ⟨g, 8, none⟩ = some (.bool false)) (HFI : isF w f t v bs sure)
    (HL : (Instr.lookup 132 (.map (some m)) (.int .i64 n) false).run Try.prog w = .ok (.pointer (some ⟨f, 0, none⟩)) w) :
    Calls Try.prog 38 #[.pointer (some ⟨g, 0, none⟩), .int .i64 n] w fun e w' => e = .returned (.tuple #[.int .i64 bs.length, .int .i64 t, .int .i64 0]) ∧ Fr (fun _ => False) w w' := by
  have HF := Aside.mk (find_yes w g m f n hc0 hc8 HL)
  have hsh : ∃ a0 c0, v = .slice a0 bs.length c0 := by
    rcases HFI.2.2 with ⟨hv, h0⟩ | ⟨b, cap, cur, hv, _⟩
    · rw [hv, h0]; exact ⟨_, _, rfl⟩
    · exact ⟨_, _, hv⟩
  obtain ⟨a0, c0, rfl⟩ := hsh
  have hf0 : w.cell? ⟨f, 0, none⟩ = some (.int .i64 t) := heap_cell HFI.1 0
  have hf1 : w.cell? ⟨f, 1, none⟩ = some (.slice a0 bs.length c0) := heap_cell HFI.1 1
  clear HL HFI hc0 hc8
  go_enter Try.func38, Try.ntmps38
  go_wp2_with fail
  refine HF.out.mono ?_
  rintro e x1 ⟨rfl, rfl⟩
  go_wp2_with fail
  go_quiet (fail)
  go_wp2
  go_ret3
  exact ⟨rfl, (Fr.refl _ _).drewN _⟩
end Go.Proofs.Ytodhkdmkkjhnnaa
