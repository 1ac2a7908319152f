/- The walk of silolaw12.WalNil. -/
import Derived.Test.YtodhkdmkkjhnnaaWalS
import Derived.Test.YtodhkdmkkjhnnaaBoxD
import Derived.Test.YtodhkdmkkjhnnaaRefA
set_option linter.unusedVariables false
set_option linter.unusedSimpArgs false
namespace Go.Proofs.Ytodhkdmkkjhnnaa
open Go.RowKit

theorem results_none {fn : Func} (h : fn.results = #[]) (tmps : Array Value) (P : Program) (w : World) : (results fn tmps).run P w = .ok (.tuple #[]) w := by simp [results, h]

set_option maxHeartbeats 1600000 in
set_option maxRecDepth 100000 in
theorem make_ok1 (w : World) (g m h c uh uc root st : Nat) (n : Int) (hn : 1 ≤ n) (hu : uc < c) (hh : c ≤ 1048576) (hst : st < 1000000) (H : isD w g m h c uh uc root st (-1) false) (HM : isM w m #[] 0) :
    Calls Try.prog 24 #[.pointer (some ⟨g, 0, none⟩), .int .i64 1, .int .i64 n] w fun e w' => e = .returned (.int .i64 0) ∧ isD w' g m h c uh (uc + 1) root (st + 1) (-1) false ∧
      isM w' m #[⟨.int .i64 n, .pointer (some ⟨w.heap.size, 0, none⟩), 0⟩] 1 ∧ w'.heap[w.heap.size]? = some (.cells #[.int .i64 1, .slice none 0 0, .int .i64 (-1)] 140 (0, 0)) ∧ Fr (fun k => k = g ∨ k = m) w w' := by
  have HF := Aside.mk (find_no w g m n H.c0 H.c8 (lk_empty w m 0 n HM))
  have HS := Aside.mk (fun W q6 q7 qz => step_any W g st hst q6 q7 qz)
  have h1 := H.c2
  have h3 := H.c4
  have HD := Aside.mk H
  have HMM := Aside.mk HM
  have hgm : g ≠ m := by
    rintro rfl
    have := H.symm.trans HM
    simp at this
  have q1 : decide (n < 1) = false := by simp; omega
  have q2 : ((uc : Int) == (c : Int)) = false := by simp; omega
  have hne : ¬ (uc : Int) = (c : Int) := by omega
  clear HM H
  go_enter Try.func24, Try.ntmps24
  go_wp2_with fail
  refine HF.out.mono ?_
  rintro e w1 ⟨rfl, rfl⟩
  go_wp2_with fail
  go_quiet (fail)
  go_wp2_with fail
  have HD2 : Aside (isD (w1.drewN nq) g m h c uh uc root st (-1) false) := ⟨HD.out⟩
  have HM2 : Aside (isM (w1.drewN nq) m #[] 0) := ⟨HMM.out⟩
  have HF2 : Aside (Fr (fun k => k = g ∨ k = m) w1 (w1.drewN nq)) := ⟨(Fr.refl _ _).drewN _⟩
  have hsz2 : (w1.drewN nq).heap.size = w1.heap.size := rfl
  clear h1 h3 HF HD HMM
  generalize w1.drewN nq = W at *
  refine (HS.out W HD2.out.c6 HD2.out.c7 (heap_frozen HD2.out 6)).mono ?_
  rintro e W1 ⟨rfl, hW1⟩
  have HD3 : Aside (isD W1 g m h c uh uc root (st + 1) (-1) false) := ⟨by
    have q := heap_set HD2.out 6 (.int .i64 ((st : Int) + 1))
    rw [← hW1] at q; exact q⟩
  have hfr : Fr (fun k => k = g) W W1 := by rw [hW1]; exact (Fr.refl (fun k => k = g) W).setCell (p := ⟨g, 6, none⟩) (fun _ => rfl) _
  have HM3 : Aside (isM W1 m #[] 0) := ⟨hfr.heap HM2.out (fun q => hgm q.symm)⟩
  have HF3 := Aside.mk (HF2.out.trans hfr (fun b _ q => .inl q))
  have hsz3 : Aside (W1.heap.size = w1.heap.size) := ⟨by rw [hW1, ← hsz2]; simp [World.setCell]⟩
  clear hW1 hfr hsz2
  have HMA : Aside (isM (W1.alloc (.cells #[.int .i64 1, .slice none 0 0, .int .i64 (-1)] 140)) m #[] 0) := ⟨(Below.heap_alloc W1 _ _ (lt_of_heap HM3.out)).trans HM3.out⟩
  obtain ⟨W2, HMU, HMT⟩ : ∃ W2, Aside ((Instr.mapUpdate 132 (.map (some m)) (.int .i64 n) (.pointer (some ⟨W1.heap.size, 0, none⟩))).run Try.prog (W1.alloc (.cells #[.int .i64 1, .slice none 0 0, .int .i64 (-1)] 140)) = .ok () W2) ∧
      Aside (isM W2 m #[⟨.int .i64 n, .pointer (some ⟨W1.heap.size, 0, none⟩), 0⟩] 1 ∧ Fr (fun k => k = m) (W1.alloc (.cells #[.int .i64 1, .slice none 0 0, .int .i64 (-1)] 140)) W2) := ⟨_, ⟨mu_empty _ m 0 n (.pointer (some ⟨W1.heap.size, 0, none⟩)) HMA.out⟩, ⟨putM_at HMA.out _ 1⟩⟩
  have hmlt := lt_of_heap HM3.out
  have hglt := lt_of_heap HD3.out
  have HDA : Aside (isD (W1.alloc (.cells #[.int .i64 1, .slice none 0 0, .int .i64 (-1)] 140)) g m h c uh uc root (st + 1) (-1) false) := ⟨(Below.heap_alloc W1 _ _ (lt_of_heap HD3.out)).trans HD3.out⟩
  have HDT := Aside.mk (HMT.out.2.heap HDA.out hgm)
  have HFA := Aside.mk (heap_new W1 (.cells #[.int .i64 1, .slice none 0 0, .int .i64 (-1)] 140))
  have HFT := Aside.mk (HMT.out.2.heap HFA.out (by omega))
  have HF4 := Aside.mk ((HF3.out.alloc (.cells #[.int .i64 1, .slice none 0 0, .int .i64 (-1)] 140)).trans HMT.out.2 (fun b _ q => .inr q))
  have hc0 := HD3.out.c0
  have hc3 := isD.c4 HDT.out
  have hz3 := heap_frozen HDT.out 4
  have hwr : IntKind.i64.wrap ((uc : Int) + 1) = (uc : Int) + 1 := by simp [IntKind.wrap, IntKind.bits, IntKind.signed]; omega
  go_wp2_with ((with_reducible refine gate (.mapUpdate 132 (.tmp 54) (.tmp 55) (.tmp 58)) rfl ?_); refine mu rfl rfl 132 (.tmp 54) (.tmp 55) (.tmp 58) rfl _ _ _ rfl rfl rfl _ HMU.out ?_)
  go_region_with (fail)
  go_wp2
  go_ret
  have hfs : Fr (fun k => k = g) W2 (W2.setCell ⟨g, 4, none⟩ (.int .i64 ((uc : Int) + 1))) := (Fr.refl (fun k => k = g) W2).setCell (p := ⟨g, 4, none⟩) (fun _ => rfl) _
  refine ⟨rfl, heap_set HDT.out 4 _, ?_, ?_, ?_⟩
  · have hq := hfs.heap HMT.out.1 (fun q => hgm q.symm)
    rw [hsz3.out] at hq; exact hq
  · have hq := hfs.heap HFT.out (by omega)
    rw [hsz3.out] at hq; exact hq
  · exact (HF4.out.trans hfs (fun b _ q => .inl q)).drew


set_option maxRecDepth 100000 in
theorem wfile_nil (w : World) : Calls Try.prog 43 #[.pointer none] w fun e w' => e = .returned (.int .i64 0) ∧ w' = w := by
  go_enter Try.func43, Try.ntmps43
  go_wp2
  go_ret
  exact ⟨rfl, rfl⟩

set_option maxRecDepth 100000 in
theorem wadd_nil (w : World) (s : ByteArray) : Calls Try.prog 34 #[.pointer none, .string s] w fun e w' => e = .returned (.int .i64 1) ∧ w' = w := by
  go_enter Try.func34, Try.ntmps34
  go_wp2
  go_ret
  exact ⟨rfl, rfl⟩

set_option maxRecDepth 100000 in
theorem wwrite_nil (w : World) : Calls Try.prog 36 #[.pointer none] w fun e w' => e = .returned (.int .i64 1) ∧ w' = w := by
  go_enter Try.func36, Try.ntmps36
  go_wp2
  go_ret
  exact ⟨rfl, rfl⟩

set_option maxRecDepth 100000 in
theorem wsync_nil (w : World) : Calls Try.prog 40 #[.pointer none] w fun e w' => e = .returned (.int .i64 1) ∧ w' = w := by
  go_enter Try.func40, Try.ntmps40
  go_wp2
  go_ret
  exact ⟨rfl, rfl⟩

set_option maxRecDepth 100000 in
theorem wclear_nil (w : World) : Calls Try.prog 42 #[.pointer none] w fun e w' => e = .returned (.tuple #[]) ∧ w' = w := by
  go_enter Try.func42, Try.ntmps42
  go_wp2
  exact ⟨rfl, _, results_none rfl _ _ _, rfl, rfl⟩

set_option maxRecDepth 100000 in
theorem wcounts_nil (w : World) : Calls Try.prog 37 #[.pointer none] w fun e w' => e = .returned (.tuple #[.int .i64 0, .int .i64 0, .int .i64 0]) ∧ w' = w := by
  go_enter Try.func37, Try.ntmps37
  go_wp2
  go_ret3
  exact ⟨rfl, rfl⟩

set_option maxRecDepth 100000 in
theorem dsize_nil (w : World) (n : Int) : Calls Try.prog 38 #[.pointer none, .int .i64 n] w fun e w' => e = .returned (.tuple #[.int .i64 0, .int .i64 0, .int .i64 8]) ∧ w' = w := by
  have HF := Aside.mk (fun W => find_nil W n)
  go_enter Try.func38, Try.ntmps38
  go_wp2_with fail
  refine (HF.out _).mono ?_
  rintro e w1 ⟨rfl, rfl⟩
  go_wp2
  go_ret3
  exact ⟨rfl, rfl⟩

set_option maxRecDepth 100000 in
theorem wreplay_nil (w : World) (n : Int) : Calls Try.prog 26 #[.pointer none, .int .i64 n] w fun e w' => e = .returned (.tuple #[.slice none 0 0, .bool false, .int .i64 8]) ∧ w' = w := by
  have HF := Aside.mk (fun W => dsize_nil W n)
  go_enter Try.func26, Try.ntmps26
  go_wp2_with fail
  refine (HF.out _).mono ?_
  rintro e w1 ⟨rfl, rfl⟩
  go_wp2
  go_ret3
  exact ⟨rfl, rfl⟩

set_option maxRecDepth 100000 in
theorem wbegin_nil (w : World) (t n : Int) : Calls Try.prog 33 #[.pointer none, .int .i64 t, .int .i64 n] w fun e w' => e = .returned (.tuple #[.pointer none, .int .i64 8]) ∧ w' = w := by
  have HF := Aside.mk (fun W => make_nil W t n)
  go_enter Try.func33, Try.ntmps33
  go_wp2_with fail
  refine (HF.out _).mono ?_
  rintro e w1 ⟨rfl, rfl⟩
  go_wp2
  go_ret2
  exact ⟨rfl, rfl⟩

set_option maxRecDepth 100000 in
theorem wbegin_no (w : World) (g : Nat) (t n : Int) (HC : Calls Try.prog 24 #[.pointer (some ⟨g, 0, none⟩), .int .i64 t, .int .i64 n] w fun e w' => e = .returned (.int .i64 1) ∧ Fr (fun _ => False) w w') :
    Calls Try.prog 33 #[.pointer (some ⟨g, 0, none⟩), .int .i64 t, .int .i64 n] w fun e w' => e = .returned (.tuple #[.pointer none, .int .i64 1]) ∧ Fr (fun _ => False) w w' := by
  replace HC := Aside.mk HC
  go_enter Try.func33, Try.ntmps33
  go_wp2_with fail
  refine HC.out.mono ?_
  rintro e w1 ⟨rfl, hf⟩
  have HF := Aside.mk hf
  clear hf
  go_wp2
  go_ret2
  exact ⟨rfl, HF.out⟩
set_option maxRecDepth 100000 in
theorem wbegin_ok (w : World) (g : Nat) (t n : Int) (S : Nat → Prop) (HC : Calls Try.prog 24 #[.pointer (some ⟨g, 0, none⟩), .int .i64 t, .int .i64 n] w fun e w' => e = .returned (.int .i64 0) ∧ Fr S w w') :
    Calls Try.prog 33 #[.pointer (some ⟨g, 0, none⟩), .int .i64 t, .int .i64 n] w fun e w' => (∃ b, e = .returned (.tuple #[.pointer (some ⟨b, 0, none⟩), .int .i64 0])) ∧ Fr S w w' := by
  replace HC := Aside.mk HC
  go_enter Try.func33, Try.ntmps33
  go_wp2_with fail
  refine HC.out.mono ?_
  rintro e w1 ⟨rfl, hf⟩
  have HF := Aside.mk hf
  clear hf
  go_wp2
  go_ret2
  exact ⟨⟨_, rfl⟩, HF.out.alloc _⟩

set_option maxHeartbeats 1600000 in
set_option maxRecDepth 100000 in
theorem make_arg (w : World) (g m : Nat) (t n : Int) (hbad : ¬ ((t = 0 ∨ t = 1) ∧ 1 ≤ n)) (h c uh uc root st : Nat) (H : isD w g m h c uh uc root st (-1) false) (HM : isM w m #[] 0) :
    Calls Try.prog 24 #[.pointer (some ⟨g, 0, none⟩), .int .i64 t, .int .i64 n] w fun e w' => e = .returned (.int .i64 1) ∧ Fr (fun _ => False) w w' := by
  have HF := Aside.mk (find_no w g m n H.c0 H.c8 (lk_empty w m 0 n HM))
  clear H HM
  by_cases ht0 : t = 0
  · subst ht0
    have q1 : decide (n < 1) = true := by simp; omega
    clear hbad
    go_enter Try.func24, Try.ntmps24
    go_wp2_with fail
    refine HF.out.mono ?_
    rintro e w1 ⟨rfl, rfl⟩
    go_wp2
    go_ret
    exact ⟨rfl, Fr.refl _ _⟩
  by_cases ht1 : t = 1
  · subst ht1
    have q1 : decide (n < 1) = true := by simp; omega
    clear hbad
    go_enter Try.func24, Try.ntmps24
    go_wp2_with fail
    refine HF.out.mono ?_
    rintro e w1 ⟨rfl, rfl⟩
    go_wp2
    go_ret
    exact ⟨rfl, Fr.refl _ _⟩
  · have q1 : (t == 0) = false := by simp [ht0]
    have q2 : (t == 1) = false := by simp [ht1]
    clear hbad
    go_enter Try.func24, Try.ntmps24
    go_wp2_with fail
    refine HF.out.mono ?_
    rintro e w1 ⟨rfl, rfl⟩
    go_wp2
    go_ret
    exact ⟨rfl, Fr.refl _ _⟩

set_option maxHeartbeats 3200000 in
set_option maxRecDepth 100000 in
theorem wnil_long (w : World) (t n : Int) (s : ByteArray) (hl : 30000 < s.size) : Calls Try.prog 9 #[.int .i64 t, .int .i64 n, .string s] w fun e w' => e = .returned (.bool true) ∧ Fr (fun _ => False) w w' := by
  have HA := Aside.mk (fun W => awake12_any W)
  have hl1 : decide ((30000:Int) < (s.size : Int)) = true := by simp; omega
  go_enter Try.func9, Try.ntmps9
  go_wp2_with fail
  refine (HA.out _).mono ?_
  rintro e w1 ⟨rfl, hf⟩
  have HF1 := Aside.mk hf
  clear hf
  go_wp2_with fail
  refine (HA.out _).mono ?_
  rintro e w2 ⟨rfl, hf⟩
  have HF2 := Aside.mk (HF1.out.trans hf (fun _ _ q => q))
  clear hf
  go_wp2
  go_ret
  exact ⟨rfl, HF2.out⟩

/-- What Begin answers on a fresh disk. -/
def BG12 (t n : Int) (ok : Bool) : Prop := ∀ (w : World) (g m : Nat), isD w g m 5 5 0 0 0 0 (-1) false → isM w m #[] 0 → Calls Try.prog 33 #[.pointer (some ⟨g, 0, none⟩), .int .i64 t, .int .i64 n] w fun e w' =>
  (match ok with | true => ∃ b, e = .returned (.tuple #[.pointer (some ⟨b, 0, none⟩), .int .i64 0]) | false => e = .returned (.tuple #[.pointer none, .int .i64 1])) ∧ Fr (fun k => k = g ∨ k = m) w w'

set_option maxHeartbeats 6400000 in
set_option maxRecDepth 100000 in
theorem wnil_short (w : World) (t n : Int) (s : ByteArray) (hl : ¬ 30000 < s.size) (B0 B1 B2 : Bool) (q0 : (t == 0) = B0) (q1 : (t == 1) = B1) (q2 : decide (1 ≤ n) = B2) (HB : BG12 t n ((B0 || B1) && B2)) : Calls Try.prog 9 #[.int .i64 t, .int .i64 n, .string s] w fun e w' => e = .returned (.bool true) ∧ Fr (fun _ => False) w w' := by
  have HA := Aside.mk (fun W => awake12_any W)
  have hl1 : decide ((30000:Int) < (s.size : Int)) = false := by simp; omega
  have H42 := Aside.mk (fun W => wclear_nil W)
  have H37 := Aside.mk (fun W => wcounts_nil W)
  have H33 := Aside.mk (fun W => wbegin_nil W 0 n)
  have H26 := Aside.mk (fun W => wreplay_nil W n)
  have HDN := Aside.mk (fun W => dnew_any W 5 5 (by omega) (by omega))
  have H43 := Aside.mk (fun W => wfile_nil W)
  have H34 := Aside.mk (fun W => wadd_nil W s)
  have H36 := Aside.mk (fun W => wwrite_nil W)
  have H40 := Aside.mk (fun W => wsync_nil W)
  clear hl
  cases B0 <;> cases B1 <;> cases B2
  all_goals
    have HB2 := Aside.mk HB
    clear HB
    go_enter Try.func9, Try.ntmps9
    go_wp2_with fail
    refine (HA.out _).mono ?_
    rintro e w1 ⟨rfl, hf⟩
    have HF1 := Aside.mk hf
    clear hf
    go_wp2_with fail
    refine (H42.out _).mono ?_
    rintro e w2 ⟨rfl, rfl⟩
    go_wp2_with fail
    refine (H37.out _).mono ?_
    rintro e w3 ⟨rfl, rfl⟩
    go_wp2_with fail
    refine (H33.out _).mono ?_
    rintro e w4 ⟨rfl, rfl⟩
    go_wp2_with fail
    refine (H26.out _).mono ?_
    rintro e w5 ⟨rfl, rfl⟩
    go_wp2_with fail
    refine (HDN.out _).mono ?_
    rintro e w6 ⟨rfl, hD, hM, hf⟩
    have HF6 := Aside.mk (HF1.out.trans hf (fun _ _ q => q))
    have hsz := Aside.mk HF1.out.size
    have HBB := Aside.mk (HB2.out w6 _ _ hD hM)
    clear hD hM hf
    go_wp2_with fail
    refine HBB.out.mono ?_
    first
      | (rintro e w7 ⟨rfl, hf⟩
         have HF7 := Aside.mk (HF6.out.trans hf (fun b hb q => by have := hsz.out; omega)))
      | (rintro e w7 ⟨⟨b, rfl⟩, hf⟩
         have HF7 := Aside.mk (HF6.out.trans hf (fun b hb q => by have := hsz.out; omega)))
    clear hf
    go_wp2_with fail
    refine (H43.out _).mono ?_
    rintro e w8 ⟨rfl, rfl⟩
    go_wp2_with fail
    refine (H34.out _).mono ?_
    rintro e w9 ⟨rfl, rfl⟩
    go_wp2_with fail
    refine (H36.out _).mono ?_
    rintro e w10 ⟨rfl, rfl⟩
    go_wp2_with fail
    refine (H40.out _).mono ?_
    rintro e w11 ⟨rfl, rfl⟩
    go_wp2
    go_ret
    exact ⟨rfl, HF7.out⟩

theorem bg12 (t n : Int) : BG12 t n (((t == 0) || (t == 1)) && decide (1 ≤ n)) := by
  intro w g m hD hM
  by_cases hn : 1 ≤ n
  · by_cases h0 : t = 0
    · subst h0
      rw [show (((0 : Int) == 0 || (0 : Int) == 1) && decide (1 ≤ n)) = true by simp [hn]]
      exact wbegin_ok w g 0 n _ ((make_ok w g m 5 5 0 0 0 0 n hn (by omega) (by omega) (by omega) hD hM).mono fun e w' ⟨he, _, _, _, hf⟩ => ⟨he, hf⟩)
    by_cases h1 : t = 1
    · subst h1
      rw [show (((1 : Int) == 0 || (1 : Int) == 1) && decide (1 ≤ n)) = true by simp [hn]]
      exact wbegin_ok w g 1 n _ ((make_ok1 w g m 5 5 0 0 0 0 n hn (by omega) (by omega) (by omega) hD hM).mono fun e w' ⟨he, _, _, _, hf⟩ => ⟨he, hf⟩)
    · rw [show ((t == 0 || t == 1) && decide (1 ≤ n)) = false by simp [h0, h1]]
      exact (wbegin_no w g t n (make_arg w g m t n (by omega) 5 5 0 0 0 0 hD hM)).mono fun e w' ⟨he, hf⟩ => ⟨he, hf.mono (fun _ _ q => q.elim)⟩
  · rw [show ((t == 0 || t == 1) && decide (1 ≤ n)) = false by simp [hn]]
    exact (wbegin_no w g t n (make_arg w g m t n (by omega) 5 5 0 0 0 0 hD hM)).mono fun e w' ⟨he, hf⟩ => ⟨he, hf.mono (fun _ _ q => q.elim)⟩

theorem wnil_any (w : World) (t n : Int) (s : ByteArray) : Calls Try.prog 9 #[.int .i64 t, .int .i64 n, .string s] w fun e w' => e = .returned (.bool true) ∧ Fr (fun _ => False) w w' := by
  by_cases hl : 30000 < s.size
  · exact wnil_long w t n s hl
  · exact wnil_short w t n s hl _ _ _ rfl rfl rfl (bg12 t n)

end Go.Proofs.Ytodhkdmkkjhnnaa
