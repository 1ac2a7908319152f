/- A nil disk, and what silolaw04.do does with it; disk.Used; disk.Make where the cold tier has no room. -/
import Derived.Test.YtodhkdmkkjhnnaaLk
set_option linter.unusedVariables false
set_option linter.unusedSimpArgs false
namespace Go.Proofs.Ytodhkdmkkjhnnaa
open Go.RowKit

theorem OwnB.pre {w : World} {a0 c0 : Nat} {bs : List UInt8} (h : OwnB w (.slice (some ⟨a0, 0, none⟩) bs.length c0) bs) (n : Nat) (hn : n ≤ bs.length) : OwnB w (.slice (some ⟨a0, 0, none⟩) n c0) (bs.take n) := by
  have hl : (bs.take n).length = n := by simp; omega
  rcases h.2 with ⟨hq, _⟩ | ⟨g, cap, cur, hv, hbg, hg, hnc, hcm, hcs, htake⟩
  · simp at hq
  · unfold OwnB
    rw [hl]
    refine ⟨by simp; omega, .inr ⟨g, cap, cur, ?_, hbg, hg, by omega, hcm, hcs, ?_⟩⟩
    · simp only [Value.slice.injEq] at hv ⊢; exact ⟨hv.1, trivial, hv.2.2⟩
    · rw [List.map_take, ← htake, List.take_take]
      congr 1; omega
theorem OwnB.cap {w : World} {a : Option Addr} {n c : Nat} {bs : List UInt8} (h : OwnB w (.slice a n c) bs) : n = bs.length ∧ (bs ≠ [] → ∃ g, a = some ⟨g, 0, none⟩ ∧ bs.length ≤ c) := by
  rcases h.2 with ⟨hq, h0⟩ | ⟨g, cap, cur, hv, hbg, hg, hnc, _⟩
  · simp at hq; simp at h0; subst h0; exact ⟨by simp [hq.2.1], fun q => absurd rfl q⟩
  · simp only [Value.slice.injEq] at hv
    obtain ⟨rfl, rfl, rfl⟩ := hv
    exact ⟨rfl, fun _ => ⟨g, rfl, hnc⟩⟩

theorem results_no {fn : Func} (h : fn.results = #[]) (tmps : Array Value) (P : Program) (w : World) : (results fn tmps).run P w = .ok (.tuple #[]) w := by simp [results, h]
section
set_option maxRecDepth 100000
theorem dadd_nil (w : World) (n : Int) (s : ByteArray) : Calls Try.prog 25 #[.pointer none, .int .i64 n, .string s] w fun e w' => e = .returned (.int .i64 8) ∧ w' = w := by
  have HF := Aside.mk (fun W => find_nil W n)
  go_enter Try.func25, Try.ntmps25
  go_wp2_with fail
  refine (HF.out _).mono ?_
  rintro e w1 ⟨rfl, rfl⟩
  go_wp2
  go_ret
  exact ⟨rfl, rfl⟩
theorem dsync_nil (w : World) (n : Int) : Calls Try.prog 87 #[.pointer none, .int .i64 n] w fun e w' => e = .returned (.int .i64 8) ∧ w' = w := by
  have HF := Aside.mk (fun W => find_nil W n)
  go_enter Try.func87, Try.ntmps87
  go_wp2_with fail
  refine (HF.out _).mono ?_
  rintro e w1 ⟨rfl, rfl⟩
  go_wp2
  go_ret
  exact ⟨rfl, rfl⟩
theorem ddrop_nil (w : World) (n : Int) : Calls Try.prog 58 #[.pointer none, .int .i64 n] w fun e w' => e = .returned (.int .i64 8) ∧ w' = w := by
  have HF := Aside.mk (fun W => find_nil W n)
  go_enter Try.func58, Try.ntmps58
  go_wp2_with fail
  refine (HF.out _).mono ?_
  rintro e w1 ⟨rfl, rfl⟩
  go_wp2
  go_ret
  exact ⟨rfl, rfl⟩
theorem dpoint_nil (w : World) (n : Int) : Calls Try.prog 90 #[.pointer none, .int .i64 n] w fun e w' => e = .returned (.int .i64 8) ∧ w' = w := by
  have HF := Aside.mk (fun W => find_nil W n)
  go_enter Try.func90, Try.ntmps90
  go_wp2_with fail
  refine (HF.out _).mono ?_
  rintro e w1 ⟨rfl, rfl⟩
  go_wp2
  go_ret
  exact ⟨rfl, rfl⟩
theorem dsize_nil2 (w : World) (n : Int) : Calls Try.prog 38 #[.pointer none, .int .i64 n] w fun e w' => e = .returned (.tuple #[.int .i64 0, .int .i64 0, .int .i64 8]) ∧ w' = w := by
  have HF := Aside.mk (fun W => find_nil W n)
  go_enter Try.func38, Try.ntmps38
  go_wp2_with fail
  refine (HF.out _).mono ?_
  rintro e w1 ⟨rfl, rfl⟩
  go_wp2
  go_ret3
  exact ⟨rfl, rfl⟩
theorem dback_nil (w : World) (v : Value) : Calls Try.prog 51 #[.pointer none, v] w fun e w' => e = .returned (.tuple #[]) ∧ w' = w := by
  go_enter Try.func51, Try.ntmps51
  go_wp2
  exact bodyPost_ret (results_no rfl _ _ _) rfl ⟨rfl, rfl⟩
theorem dfiles_nil (w : World) : Calls Try.prog 55 #[.pointer none] w fun e w' => e = .returned (.slice none 0 0) ∧ w' = w := by
  go_enter Try.func55, Try.ntmps55
  go_wp2
  go_ret
  exact ⟨rfl, rfl⟩
theorem droot_nil (w : World) : Calls Try.prog 56 #[.pointer none] w fun e w' => e = .returned (.int .i64 0) ∧ w' = w := by
  go_enter Try.func56, Try.ntmps56
  go_wp2
  go_ret
  exact ⟨rfl, rfl⟩
theorem dsteps_nil (w : World) : Calls Try.prog 61 #[.pointer none] w fun e w' => e = .returned (.int .i64 0) ∧ w' = w := by
  go_enter Try.func61, Try.ntmps61
  go_wp2
  go_ret
  exact ⟨rfl, rfl⟩
theorem dused_nil (w : World) (t : Int) : Calls Try.prog 54 #[.pointer none, .int .i64 t] w fun e w' => e = .returned (.int .i64 0) ∧ w' = w := by
  go_enter Try.func54, Try.ntmps54
  go_wp2
  go_ret
  exact ⟨rfl, rfl⟩
theorem droom_nil (w : World) (t : Int) : Calls Try.prog 62 #[.pointer none, .int .i64 t] w fun e w' => e = .returned (.int .i64 0) ∧ w' = w := by
  go_enter Try.func62, Try.ntmps62
  go_wp2
  go_ret
  exact ⟨rfl, rfl⟩
theorem ddown_nil (w : World) : Calls Try.prog 63 #[.pointer none] w fun e w' => e = .returned (.bool true) ∧ w' = w := by
  go_enter Try.func63, Try.ntmps63
  go_wp2
  go_ret
  exact ⟨rfl, rfl⟩
theorem darm_nil (w : World) (t : Int) : Calls Try.prog 60 #[.pointer none, .int .i64 t] w fun e w' => e = .returned (.tuple #[]) ∧ w' = w := by
  go_enter Try.func60, Try.ntmps60
  go_wp2
  exact bodyPost_end (results_no rfl _ _ _) rfl ⟨rfl, rfl⟩
theorem dused_hot (w : World) (g u : Nat) (h3 : w.cell? ⟨g, 3, none⟩ = some (.int .i64 (u : Nat))) : Calls Try.prog 54 #[.pointer (some ⟨g, 0, none⟩), .int .i64 0] w fun e w' => e = .returned (.int .i64 (u : Nat)) ∧ w' = w := by
  go_enter Try.func54, Try.ntmps54
  go_wp2
  go_ret
  exact ⟨rfl, rfl⟩
set_option maxHeartbeats 1600000 in
theorem make_full1 (w : World) (g m h c uh root st : Nat) (n : Int) (hn : 1 ≤ n) (H : isD w g m h c uh c root st (-1) false) (HL : (Instr.lookup 132 (.map (some m)) (.int .i64 n) false).run Try.prog w = .ok (.pointer none) w) :
    Calls Try.prog 24 #[.pointer (some ⟨g, 0, none⟩), .int .i64 1, .int .i64 n] w fun e w' => e = .returned (.int .i64 7) ∧ Fr (fun _ => False) w w' := by
  have HF := Aside.mk (find_no w g m n H.c0 H.c8 HL)
  have h1 := H.c2
  have h3 := H.c4
  have q1 : decide (n < 1) = false := by simp; omega
  clear HL H
  go_enter Try.func24, Try.ntmps24
  go_wp2_with fail
  refine HF.out.mono ?_
  rintro e w1 ⟨rfl, rfl⟩
  go_wp2_with fail
  go_quiet (fail)
  go_wp2
  go_ret
  exact ⟨rfl, (Fr.refl _ _).drewN _⟩
end
end Go.Proofs.Ytodhkdmkkjhnnaa
