/- The walk of disk.Back on a disk with one file in the hot tier, which the one keep names. Printed by gen_back.py. -/
import Derived.Test.YtodhkdmkkjhnnaaBackM
import Derived.Test.YtodhkdmkkjhnnaaFewR
import Derived.Test.YtodhkdmkkjhnnaaHeld
set_option linter.unusedVariables false
set_option linter.unusedSimpArgs false
namespace Go.Proofs.Ytodhkdmkkjhnnaa
open Go.RowKit
open Go.ChangeMaps (setBlock)

theorem results_none' {fn : Func} (h : fn.results = #[]) (tmps : Array Value) (P : Program) (w : World) : (results fn tmps).run P w = .ok (.tuple #[]) w := by simp [results, h]

theorem info_keep : (Try.prog.info? 103).map (·.size) = some 2 := by kernel_rfl
set_option maxHeartbeats 25600000 in
set_option maxRecDepth 100000 in
theorem dback_one (w : World) (g m f h c uh uc root st kb : Nat) (fuse : Int) (down : Bool) (n : Int) (s0 k0 : Nat) (a0 : Nat) (c0 : Nat) (bs : List UInt8) (fr : Nat × Nat)
    (H : isD w g m h c uh uc root st fuse down) (HM0 : isM w m #[⟨.int .i64 n, .pointer (some ⟨f, 0, none⟩), 0⟩] 1) (HFI : isF w f 0 (.slice (some ⟨a0, 0, none⟩) bs.length c0) bs (s0 : Nat)) (hkb : w.heap[kb]? = some (.cells #[.int .i64 n, (.int .i64 (k0 : Nat))] 103 fr))
    (hsk : s0 + k0 ≤ bs.length) (hlen : bs.length ≤ 1000000000) (hcap : bs.length ≤ c0) (hu : blk bs.length ≤ uh) (huh : uh ≤ 1048576) (hd : g ≠ m ∧ g ≠ f ∧ m ≠ f ∧ a0 ≠ g ∧ a0 ≠ m ∧ a0 ≠ f ∧ kb ≠ g ∧ kb ≠ m ∧ kb ≠ f) :
    Calls Try.prog 51 #[.pointer (some ⟨g, 0, none⟩), .slice (some ⟨kb, 0, none⟩) 1 1] w fun e w' => e = .returned (.tuple #[]) ∧
      isD w' g m h c (uh - blk bs.length + blk (s0 + k0)) uc root st (-1) false ∧ isM w' m #[⟨.int .i64 n, .pointer (some ⟨f, 0, none⟩), 0⟩] 1 ∧
      w'.heap[f]? = some (.cells #[.int .i64 0, .slice (some ⟨a0, 0, none⟩) (s0 + k0) c0, .int .i64 (s0 + k0 : Nat)] 140 (0, 0)) ∧ Fr (fun k => k = g ∨ k = f) w w' := by
  have hmm := @run_makeMap Try.prog
  have HB1 := Aside.mk (fun W => blocks_any W bs.length (by omega))
  have hdd := Aside.mk hd
  have HD0 := Aside.mk H
  have HMA := Aside.mk HM0
  have HI0 := Aside.mk HFI
  have HKB := Aside.mk hkb
  have hglt := lt_of_heap H
  have hmlt := lt_of_heap HM0
  have hflt := lt_of_heap HFI.1
  have hklt := lt_of_heap hkb
  have kc0 : w.cell? ⟨kb, 0, none⟩ = some (.int .i64 n) := heap_cell hkb 0
  have kc1 : w.cell? ⟨kb, 1, none⟩ = some (.int .i64 (k0 : Nat)) := heap_cell hkb 1
  clear H HM0 HFI hkb hd
  go_enter Try.func51, Try.ntmps51
  go_wp2_with fail
  go_loopw [19] (fun i wr => ∃ d : Nat, d ≤ 1 ∧ i = .int .i64 d ∧ Aside (isM wr w.heap.size (if d = 0 then #[] else #[⟨.int .i64 n, (.int .i64 (k0 : Nat)), 0⟩]) d) ∧ Aside (Fr (fun _ => False) w wr)) (fun i _ => 1 - (intOf i).toNat)
  case atStart => exact ⟨0, by omega, rfl, ⟨heap_new _ _⟩, ⟨(Fr.refl _ _).alloc _⟩⟩
  case round =>
    obtain ⟨d, hd1, rfl, HMK, HF⟩ := hrel
    by_cases hd0 : d = 0
    · subst hd0
      simp only [if_true] at HMK
      have k0' := HF.out.cell kc0
      have k1' := HF.out.cell kc1
      have hfa : Fr (fun _ => False) wr (wr.alloc (.cells #[.int .i64 n, (.int .i64 (k0 : Nat))] 103)) := (Fr.refl _ _).alloc _
      have HM3 := Aside.mk (hfa.heap HMK.out id)
      have HF3 := Aside.mk (HF.out.trans hfa (fun _ _ q => q))
      have HLK := Aside.mk (lk2_empty (wr.alloc (.cells #[.int .i64 n, (.int .i64 (k0 : Nat))] 103)) w.heap.size 0 n HM3.out)
      obtain ⟨W4, HMU, HMT⟩ : ∃ W4, Aside ((Instr.mapUpdate 147 (.map (some w.heap.size)) (.int .i64 n) (.int .i64 (k0 : Nat))).run Try.prog (wr.alloc (.cells #[.int .i64 n, (.int .i64 (k0 : Nat))] 103)) = .ok () W4) ∧ Aside (isM W4 w.heap.size #[⟨.int .i64 n, (.int .i64 (k0 : Nat)), 0⟩] 1 ∧ Fr (fun k => k = w.heap.size) (wr.alloc (.cells #[.int .i64 n, (.int .i64 (k0 : Nat))] 103)) W4) := ⟨_, ⟨mu2_empty _ _ 0 n (.int .i64 (k0 : Nat)) HM3.out⟩, ⟨putM_at HM3.out _ 1⟩⟩
      have HF4 := Aside.mk (HF3.out.trans HMT.out.2 (fun b hb q => by have q2 : b = w.heap.size := q; omega))
      clear hfa
      go_wp2_with (first
        | ((with_reducible refine gate (.lookup 147 (.tmp 24) (.tmp 26) true) rfl ?_); refine lk2 rfl 147 (.tmp 24) (.tmp 26) rfl _ _ _ rfl rfl HLK.out ?_)
        | ((with_reducible refine gate (.mapUpdate 147 (.tmp 32) (.tmp 34) (.tmp 36)) rfl ?_); refine mu rfl rfl 147 (.tmp 32) (.tmp 34) (.tmp 36) rfl _ _ _ rfl rfl rfl _ HMU.out ?_))
      go_roundw
      case rel => exact ⟨1, by omega, rfl, ⟨HMT.out.1⟩, HF4⟩
      case measure => simp [intOf]
    · have hd1 : d = 1 := by omega
      subst hd1
      simp only [if_neg hd0] at HMK
      have HDr := Aside.mk (HF.out.heap HD0.out id)
      have HMr := Aside.mk (HF.out.heap HMA.out id)
      have HIr := Aside.mk (HI0.out.keep HF.out id (fun _ _ => id))
      have HRG := Aside.mk (rg_one wr m n _ HMr.out)
      have hsz := Aside.mk (And.intro HF.out.size (lt_of_heap HMK.out))
      have hfa : Fr (fun _ => False) wr (wr.alloc (.mapIter (some m) 1 #[] 1)) := (Fr.refl _ _).alloc _
      have HDa := Aside.mk (hfa.heap HDr.out id)
      have HMa := Aside.mk (hfa.heap HMr.out id)
      have HKa := Aside.mk (hfa.heap HMK.out id)
      have HIa := Aside.mk (HIr.out.keep hfa id (fun _ _ => id))
      have HFa := Aside.mk (HF.out.trans hfa (fun _ _ q => q))
      have HITa : Aside (isIt (wr.alloc (.mapIter (some m) 1 #[] 1)) wr.heap.size m #[]) := ⟨heap_new _ _⟩
      have c0' : wr.cell? ⟨g, 0, none⟩ = some (.map (some m)) := heap_cell HDr.out 0
      obtain ⟨U1, hU1⟩ : ∃ U1 : Nat, U1 = uh - blk bs.length := ⟨_, rfl⟩
      have w13 : IntKind.i64.wrap ((uh : Int) - (blk bs.length : Int)) = (U1 : Int) := by simp [IntKind.wrap, IntKind.bits, IntKind.signed]; omega
      have HU1 := Aside.mk hU1
      obtain ⟨D1, hD1⟩ : ∃ D1 : Nat, D1 = bs.length - s0 := ⟨_, rfl⟩
      obtain ⟨N, hN⟩ : ∃ N : Nat, N = s0 + k0 := ⟨_, rfl⟩
      have wd : IntKind.i64.wrap ((bs.length : Int) - (s0 : Int)) = (D1 : Int) := by simp [IntKind.wrap, IntKind.bits, IntKind.signed]; omega
      have wn_ : IntKind.i64.wrap ((s0 : Int) + (k0 : Int)) = (N : Int) := by simp [IntKind.wrap, IntKind.bits, IntKind.signed]; omega
      have hmn : (k0 : Int) ≤ (D1 : Int) := by omega
      have hmn' : k0 ≤ D1 := by omega
      have hNc : (N : Int) ≤ (c0 : Int) := by omega
      have HN := Aside.mk hN
      have hkz : ¬ ((k0 : Int) < 0) := by omega
      have hdk : ¬ (((bs.length - s0 : Nat) : Int) < (k0 : Int)) := by omega
      have wsk : IntKind.i64.wrap ((s0 : Int) + (k0 : Int)) = (s0 : Int) + (k0 : Int) := by rw [wn_, hN]; rfl
      have h0N : (0 : Int) ≤ (s0 : Int) + (k0 : Int) := by omega
      have hNc2 : (s0 : Int) + (k0 : Int) ≤ (c0 : Int) := by omega
      have htn : ((s0 : Int) + (k0 : Int)).toNat = s0 + k0 := by omega
      have wd2 : IntKind.i64.wrap ((bs.length : Int) - (s0 : Int)) = ((bs.length - s0 : Nat) : Int) := by rw [wd, hD1]
      clear wn_ hN hNc wd hmn hmn' hD1
      obtain ⟨U2, hU2⟩ : ∃ U2 : Nat, U2 = U1 + blk (s0 + k0) := ⟨_, rfl⟩
      have hbN : blk (s0 + k0) ≤ 1000000001 := by unfold blk; omega
      have w19 : IntKind.i64.wrap ((U1 : Int) + (blk (s0 + k0) : Int)) = (U2 : Int) := by simp [IntKind.wrap, IntKind.bits, IntKind.signed]; omega
      have HU2 := Aside.mk hU2
      have HB2 := Aside.mk (fun W => blocks_any W (s0 + k0) (by omega))
      clear hU2 hbN
      generalize hB : blk bs.length = B1 at *
      clear hfa kc0 kc1 hU1
      go_wp2_with ((with_reducible refine gate (.range 132 (.tmp 41)) rfl ?_); refine rgo rfl 132 (.tmp 41) rfl _ _ _ rfl HRG.out ?_)
      try go_frame
      generalize wr.alloc (.mapIter (some m) 1 #[] 1) = wa at *
      generalize wr.heap.size = r at *
      have halt : a0 < w.heap.size := HI0.out.2.lt a0 (by simp [own, Value.ownBlock])
      go_loopw [9] (fun _ w2 => ∃ d : Nat, d ≤ 1 ∧ Aside (isIt w2 r m (if d = 0 then #[] else #[0])) ∧ Aside (isM w2 m #[⟨.int .i64 n, .pointer (some ⟨f, 0, none⟩), 0⟩] 1) ∧ Aside (isM w2 w.heap.size #[⟨.int .i64 n, (.int .i64 (k0 : Nat)), 0⟩] 1) ∧
        Aside (if d = 0 then isD w2 g m h c uh uc root st fuse down ∧ isF w2 f 0 (.slice (some ⟨a0, 0, none⟩) bs.length c0) bs (s0 : Nat) else isD w2 g m h c (uh - B1 + blk (s0 + k0)) uc root st fuse down ∧ w2.heap[f]? = some (.cells #[.int .i64 0, .slice (some ⟨a0, 0, none⟩) (s0 + k0) c0, .int .i64 (s0 + k0 : Nat)] 140 (0, 0))) ∧ Aside (Fr (fun k => k = g ∨ k = f) w w2))
        (fun _ w2 => match w2.heap[r]? with | some (.mapIter _ _ seen _) => 1 - seen.size | _ => 0)
      case atStart => exact ⟨0, by omega, HITa, HMa, HKa, ⟨HDa.out, HIa.out⟩, ⟨HFa.out.mono (fun _ _ q => q.elim)⟩⟩
      case round =>
        clear hd1 hd0
        obtain ⟨d, hd1, HIT, HM2, HK2, HS2, HF2⟩ := hrel
        have hrs := hsz.out
        by_cases hd0 : d = 0
        · subst hd0
          simp only [if_true] at HIT HS2
          have hM0 : (match wr.heap[r]? with | some (.mapIter _ _ seen _) => 1 - seen.size | _ => 0) = 1 := by
            have q : wr.heap[r]? = some (.mapIter (some m) 1 #[] 1) := HIT.out
            rw [q]; rfl
          have HMZ := Aside.mk hM0
          obtain ⟨wn, hnx, hitn, hfn⟩ := nx_one wr r m n _ 0 HM2.out HIT.out
          have HNX := Aside.mk hnx
          have HD3 := Aside.mk (hfn.heap HS2.out.1 (fun q => by have q2 : g = r := q; omega))
          have HI3 := Aside.mk (HS2.out.2.keep hfn (fun q => by have q2 : f = r := q; omega) (fun b hb q => by
            have q2 : b = r := q
            have q3 : a0 = b := by simpa [own, Value.ownBlock] using hb
            omega))
          have HM3 := Aside.mk (hfn.heap HM2.out (fun q => by have q2 : m = r := q; omega))
          have HK3 := Aside.mk (hfn.heap HK2.out (fun q => by have q2 : w.heap.size = r := q; omega))
          have HF3 := Aside.mk (HF2.out.trans hfn (fun b hb q => by have q2 : b = r := q; omega))
          have HEN := Aside.mk (en_one wn r m n _ HM3.out hitn)
          have HLK := Aside.mk (lk2_one wn w.heap.size 1 0 n _ HK3.out)
          have u3 : wn.cell? ⟨g, 3, none⟩ = some (.int .i64 (uh : Nat)) := heap_cell HD3.out 3
          have z3 : wn.frozen? ⟨g, 3, none⟩ = false := heap_frozen HD3.out 3
          have hId : wn.drew.heap[f]? = some (.cells #[.int .i64 0, .slice (some ⟨a0, 0, none⟩) bs.length c0, .int .i64 (s0 : Nat)] 140 (0, 0)) := HI3.out.1
          have HId := Aside.mk hId
          have hfs : Fr (fun k => k = g) wn ((wn.setCell ⟨g, 3, none⟩ (.int .i64 (U1 : Int))).drew) := ((Fr.refl (fun k => k = g) wn).setCell (p := ⟨g, 3, none⟩) (fun _ => rfl) _).drew
          have hdq := hdd.out
          have HD13 : Aside (isD ((wn.setCell ⟨g, 3, none⟩ (.int .i64 (U1 : Int))).drew) g m h c U1 uc root st fuse down) := ⟨heap_set (w := wn) HD3.out 3 _⟩
          have HI13 := Aside.mk (HI3.out.keep hfs (fun q => hdq.2.1 q.symm) (fun b hb q => by
            have q2 : b = g := q
            have q3 : a0 = b := by simpa [own, Value.ownBlock] using hb
            omega))
          have HM13 := Aside.mk (hfs.heap HM3.out (fun q => hdq.1 q.symm))
          have HK13 := Aside.mk (hfs.heap HK3.out (fun q => by have q2 : w.heap.size = g := q; omega))
          have HIT13 := Aside.mk (hfs.heap hitn (fun q => by have q2 : r = g := q; omega))
          have HF13 := Aside.mk (HF3.out.trans hfs (fun b hb q => .inl q))
          have HS19 : Aside (((wn.setCell ⟨g, 3, none⟩ (.int .i64 (U1 : Int))).drew).cell? ⟨f, 0, none⟩ = some (.int .i64 0) ∧ ((wn.setCell ⟨g, 3, none⟩ (.int .i64 (U1 : Int))).drew).cell? ⟨f, 1, none⟩ = some (.slice (some ⟨a0, 0, none⟩) bs.length c0)) := ⟨⟨heap_cell HI13.out.1 0, heap_cell HI13.out.1 1⟩⟩
          clear hnx hitn hfn hfs hId hM0 hdq
          go_wp2_with (first
            | ((with_reducible refine gate (.next (.tmp 42) false) rfl ?_); refine nxo rfl (.tmp 42) rfl _ _ wn rfl HNX.out ?_)
            | ((with_reducible refine gate (.entry (.tmp 42)) rfl ?_); refine eno rfl (.tmp 42) rfl _ _ rfl HEN.out ?_)
            | ((with_reducible refine gate (.lookup 147 (.tmp 49) (.tmp 50) true) rfl ?_); refine lk2 rfl 147 (.tmp 49) (.tmp 50) rfl _ _ _ rfl rfl HLK.out ?_))
          refine startH (S := fun w' => w'.cell? ⟨f, 0, none⟩ = some (.int .i64 0) ∧ w'.cell? ⟨f, 1, none⟩ = some (.slice (some ⟨a0, 0, none⟩) bs.length c0)) 20 #[false, false, false, false, false, false, false, false, false, false, false, false, false, false, false, false, false, false, false, false] (by kernel_rfl) rfl rfl ⟨heap_cell HId.out 0, heap_cell HId.out 1⟩ (fun hHeld => ?_)
          refine takeH (i := 0) (v := ?_) (some 54) #[true, false, false, false, false, false, false, false, false, false, false, false, false, false, false, false, false, false, false, false] rfl rfl rfl (by kernel_rfl) (by kernel_rfl) (by kernel_rfl) (fun _ _ _ h => h) (Or.inl ⟨by rfl, ?_⟩) hHeld ?_
          rotate_left
          · intro w hSw; obtain ⟨s1, s2⟩ := hSw; go_simp; with_reducible rfl
          rotate_left
          try simp only [Act.put, List.setIfInBounds_toArray, List.set_cons_zero, List.set_cons_succ]
          refine takeH (i := 1) (v := ?_) (some 55) #[true, true, false, false, false, false, false, false, false, false, false, false, false, false, false, false, false, false, false, false] rfl rfl rfl (by kernel_rfl) (by kernel_rfl) (by kernel_rfl) (fun _ _ _ h => h) (Or.inl ⟨by rfl, ?_⟩) hHeld ?_
          rotate_left
          · intro w hSw; obtain ⟨s1, s2⟩ := hSw; go_simp; with_reducible rfl
          rotate_left
          try simp only [Act.put, List.setIfInBounds_toArray, List.set_cons_zero, List.set_cons_succ]
          refine takeH (i := 2) (v := ?_) (some 56) #[true, true, true, false, false, false, false, false, false, false, false, false, false, false, false, false, false, false, false, false] rfl rfl rfl (by kernel_rfl) (by kernel_rfl) (by kernel_rfl) (fun _ _ _ h => h) (Or.inl ⟨by rfl, ?_⟩) hHeld ?_
          rotate_left
          · intro w hSw; obtain ⟨s1, s2⟩ := hSw; go_simp; with_reducible rfl
          rotate_left
          try simp only [Act.put, List.setIfInBounds_toArray, List.set_cons_zero, List.set_cons_succ]
          refine takeH (i := 3) (v := ?_) (some 57) #[true, true, true, true, false, false, false, false, false, false, false, false, false, false, false, false, false, false, false, false] rfl rfl rfl (by kernel_rfl) (by kernel_rfl) (by kernel_rfl) (fun _ _ _ h => h) (Or.inl ⟨by rfl, ?_⟩) hHeld ?_
          rotate_left
          · intro w hSw; obtain ⟨s1, s2⟩ := hSw; go_simp; with_reducible rfl
          rotate_left
          try simp only [Act.put, List.setIfInBounds_toArray, List.set_cons_zero, List.set_cons_succ]
          refine takeH (i := 4) (v := ?_) (some 58) #[true, true, true, true, true, false, false, false, false, false, false, false, false, false, false, false, false, false, false, false] rfl rfl rfl (by kernel_rfl) (by kernel_rfl) (by kernel_rfl) (fun _ _ _ h => h) (Or.inl ⟨by rfl, ?_⟩) hHeld ?_
          rotate_left
          · intro w hSw; obtain ⟨s1, s2⟩ := hSw; go_simp; with_reducible rfl
          rotate_left
          try simp only [Act.put, List.setIfInBounds_toArray, List.set_cons_zero, List.set_cons_succ]
          refine takeH (i := 5) (v := ?_) (some 59) #[true, true, true, true, true, true, false, false, false, false, false, false, false, false, false, false, false, false, false, false] rfl rfl rfl (by kernel_rfl) (by kernel_rfl) (by kernel_rfl) (fun _ _ _ h => h) (Or.inl ⟨by rfl, ?_⟩) hHeld ?_
          rotate_left
          · intro w hSw; obtain ⟨s1, s2⟩ := hSw; go_simp; with_reducible rfl
          rotate_left
          try simp only [Act.put, List.setIfInBounds_toArray, List.set_cons_zero, List.set_cons_succ]
          refine takeH (i := 6) (v := ?_) (some 60) #[true, true, true, true, true, true, true, false, false, false, false, false, false, false, false, false, false, false, false, false] rfl rfl rfl (by kernel_rfl) (by kernel_rfl) (by kernel_rfl) (fun _ _ _ h => h) (Or.inl ⟨by rfl, ?_⟩) hHeld ?_
          rotate_left
          · intro w hSw; obtain ⟨s1, s2⟩ := hSw; go_simp; with_reducible rfl
          rotate_left
          try simp only [Act.put, List.setIfInBounds_toArray, List.set_cons_zero, List.set_cons_succ]
          refine takeH (i := 7) (v := ?_) (some 61) #[true, true, true, true, true, true, true, true, false, false, false, false, false, false, false, false, false, false, false, false] rfl rfl rfl (by kernel_rfl) (by kernel_rfl) (by kernel_rfl) (fun _ _ _ h => h) (Or.inl ⟨by rfl, ?_⟩) hHeld ?_
          rotate_left
          · intro w hSw; obtain ⟨s1, s2⟩ := hSw; go_simp; with_reducible rfl
          rotate_left
          try simp only [Act.put, List.setIfInBounds_toArray, List.set_cons_zero, List.set_cons_succ]
          refine takeH (i := 9) (v := ?_) (some 63) #[true, true, true, true, true, true, true, true, false, true, false, false, false, false, false, false, false, false, false, false] rfl rfl rfl (by kernel_rfl) (by kernel_rfl) (by kernel_rfl) (fun _ _ _ h => h) (Or.inl ⟨by rfl, ?_⟩) hHeld ?_
          rotate_left
          · intro w hSw; obtain ⟨s1, s2⟩ := hSw; go_simp; with_reducible rfl
          rotate_left
          try simp only [Act.put, List.setIfInBounds_toArray, List.set_cons_zero, List.set_cons_succ]
          refine takeH (i := 10) (v := ?_) (some 64) #[true, true, true, true, true, true, true, true, false, true, true, false, false, false, false, false, false, false, false, false] rfl rfl rfl (by kernel_rfl) (by kernel_rfl) (by kernel_rfl) (fun _ _ _ h => h) (Or.inl ⟨by rfl, ?_⟩) hHeld ?_
          rotate_left
          · intro w hSw; obtain ⟨s1, s2⟩ := hSw; go_simp; with_reducible rfl
          rotate_left
          try simp only [Act.put, List.setIfInBounds_toArray, List.set_cons_zero, List.set_cons_succ]
          refine takeH (i := 11) (v := ?_) (some 65) #[true, true, true, true, true, true, true, true, false, true, true, true, false, false, false, false, false, false, false, false] rfl rfl rfl (by kernel_rfl) (by kernel_rfl) (by kernel_rfl) (fun _ _ _ h => h) (Or.inl ⟨by rfl, ?_⟩) hHeld ?_
          rotate_left
          · intro w hSw; obtain ⟨s1, s2⟩ := hSw; go_simp; with_reducible rfl
          rotate_left
          try simp only [Act.put, List.setIfInBounds_toArray, List.set_cons_zero, List.set_cons_succ]
          refine takeH (i := 12) (v := ?_) (some 66) #[true, true, true, true, true, true, true, true, false, true, true, true, true, false, false, false, false, false, false, false] rfl rfl rfl (by kernel_rfl) (by kernel_rfl) (by kernel_rfl) (fun _ _ _ h => h) (Or.inl ⟨by rfl, ?_⟩) hHeld ?_
          rotate_left
          · intro w hSw; obtain ⟨s1, s2⟩ := hSw; go_simp; with_reducible rfl
          rotate_left
          try simp only [Act.put, List.setIfInBounds_toArray, List.set_cons_zero, List.set_cons_succ]
          refine takeH (i := 13) (v := ?_) (some 67) #[true, true, true, true, true, true, true, true, false, true, true, true, true, true, false, false, false, false, false, false] rfl rfl rfl (by kernel_rfl) (by kernel_rfl) (by kernel_rfl) (fun _ _ _ h => h) (Or.inl ⟨by rfl, ?_⟩) hHeld ?_
          rotate_left
          · intro w hSw; obtain ⟨s1, s2⟩ := hSw; go_simp; with_reducible rfl
          rotate_left
          try simp only [Act.put, List.setIfInBounds_toArray, List.set_cons_zero, List.set_cons_succ]
          refine takeH (i := 16) (v := ?_) (some 70) #[true, true, true, true, true, true, true, true, false, true, true, true, true, true, false, false, true, false, false, false] rfl rfl rfl (by kernel_rfl) (by kernel_rfl) (by kernel_rfl) (fun _ _ _ h => h) (Or.inl ⟨by rfl, ?_⟩) hHeld ?_
          rotate_left
          · intro w hSw; obtain ⟨s1, s2⟩ := hSw; go_simp; with_reducible rfl
          rotate_left
          try simp only [Act.put, List.setIfInBounds_toArray, List.set_cons_zero, List.set_cons_succ]
          refine takeH (i := 17) (v := ?_) (some 71) #[true, true, true, true, true, true, true, true, false, true, true, true, true, true, false, false, true, true, false, false] rfl rfl rfl (by kernel_rfl) (by kernel_rfl) (by kernel_rfl) (fun _ _ _ h => h) (Or.inl ⟨by rfl, ?_⟩) hHeld ?_
          rotate_left
          · intro w hSw; obtain ⟨s1, s2⟩ := hSw; go_simp; with_reducible rfl
          rotate_left
          try simp only [Act.put, List.setIfInBounds_toArray, List.set_cons_zero, List.set_cons_succ]
          refine wpAnyH_ready (rs := [8, 14]) (by kernel_rfl) (by simp) ?_
          refine AllReadyH.cons rfl (fun K hK => ?_) (AllReadyH.cons rfl (fun K hK => ?_) AllReadyH.nil)
          · go_simp
            refine hK.out _ _ hHeld (fun hHeld => ?_)
            clear hK K
            refine listH #[true, true, true, true, true, true, true, true, true, true, true, true, true, true, false, false, true, true, false, false] rfl ?_
            refine wpAnyH_ready (rs := [14]) (by kernel_rfl) (by simp) ?_
            refine AllReadyH.cons rfl (fun K hK => ?_) AllReadyH.nil
            go_simp
            refine (HB1.out _).mono ?_
            rintro e xq ⟨rfl, rfl⟩
            go_wp2_with fail
            refine hK.out _ _ hHeld (fun hHeld => ?_)
            clear hK K
            refine listH #[true, true, true, true, true, true, true, true, true, true, true, true, true, true, true, false, true, true, false, false] rfl ?_
            refine takeH (i := 15) (v := ?_) (some 69) #[true, true, true, true, true, true, true, true, true, true, true, true, true, true, true, true, true, true, false, false] rfl rfl rfl (by kernel_rfl) (by kernel_rfl) (by kernel_rfl) (fun _ _ _ h => h) (Or.inl ⟨by rfl, ?_⟩) hHeld ?_
            rotate_left
            · intro w hSw; obtain ⟨s1, s2⟩ := hSw; go_simp; with_reducible rfl
            rotate_left
            try simp only [Act.put, List.setIfInBounds_toArray, List.set_cons_zero, List.set_cons_succ]
            refine takeH (i := 18) (v := ?_) (some 72) #[true, true, true, true, true, true, true, true, true, true, true, true, true, true, true, true, true, true, true, false] rfl rfl rfl (by kernel_rfl) (by kernel_rfl) (by kernel_rfl) (fun _ _ _ h => h) (Or.inl ⟨by rfl, ?_⟩) hHeld ?_
            rotate_left
            · intro w hSw; obtain ⟨s1, s2⟩ := hSw; go_simp; with_reducible rfl
            rotate_left
            try simp only [Act.put, List.setIfInBounds_toArray, List.set_cons_zero, List.set_cons_succ]
            refine wpAnyH_ready (rs := [19]) (by kernel_rfl) (by simp) ?_
            refine AllReadyH.cons rfl (fun K hK => ?_) AllReadyH.nil
            go_simp
            refine hK.out _ _ HS19.out (fun hHeld => ?_)
            clear hK K
            refine listH #[true, true, true, true, true, true, true, true, true, true, true, true, true, true, true, true, true, true, true, true] rfl ?_
            refine wpAnyH_done (by kernel_rfl) ?_ _
            clear hHeld
            generalize (wn.setCell ⟨g, 3, none⟩ (.int .i64 (U1 : Int))).drew = wb at *
            have f1 : wb.cell? ⟨f, 1, none⟩ = some (.slice (some ⟨a0, 0, none⟩) bs.length c0) := heap_cell HI13.out.1 1
            have f2 : wb.cell? ⟨f, 2, none⟩ = some (.int .i64 (s0 : Nat)) := heap_cell HI13.out.1 2
            have zf1 : wb.frozen? ⟨f, 1, none⟩ = false := heap_frozen HI13.out.1 1
            have hf17 : Fr (fun k => k = f) wb ((wb.setCell ⟨f, 1, none⟩ (.slice (some ⟨a0, 0, none⟩) (s0 + k0) c0)).drew) := ((Fr.refl (fun k => k = f) wb).setCell (p := ⟨f, 1, none⟩) (fun _ => rfl) _).drew
            have HR17 : Aside (((wb.setCell ⟨f, 1, none⟩ (.slice (some ⟨a0, 0, none⟩) (s0 + k0) c0)).drew).heap[f]? = some (.cells #[.int .i64 0, .slice (some ⟨a0, 0, none⟩) (s0 + k0) c0, .int .i64 (s0 : Nat)] 140 (0, 0))) := ⟨heap_set (w := wb) HI13.out.1 1 _⟩
            have HD17 := Aside.mk (hf17.heap HD13.out hdd.out.2.1)
            have HM17 := Aside.mk (hf17.heap HM13.out (fun q => hdd.out.2.2.1 q))
            have HK17 := Aside.mk (hf17.heap HK13.out (fun q => by have q2 : w.heap.size = f := q; omega))
            have HIT17 := Aside.mk (hf17.heap HIT13.out (fun q => by have q2 : r = f := q; omega))
            have HF17 := Aside.mk (HF13.out.trans hf17 (fun b hb q => .inr q))
            clear hf17
            go_wp2_with fail
            refine startH (S := fun _ => True) 21 #[false, false, false, false, false, false, false, false, false, false, false, false, false, false, false, false, false, false, false, false, false] (by kernel_rfl) rfl rfl trivial (fun hHeld => ?_)
            refine takeH (i := 0) (v := ?_) (some 92) #[true, false, false, false, false, false, false, false, false, false, false, false, false, false, false, false, false, false, false, false, false] rfl rfl rfl (by kernel_rfl) (by kernel_rfl) (by kernel_rfl) (fun _ _ _ h => h) (Or.inl ⟨by rfl, ?_⟩) hHeld ?_
            rotate_left
            · intro w hSw; obtain _ := hSw; go_simp; with_reducible rfl
            rotate_left
            try simp only [Act.put, List.setIfInBounds_toArray, List.set_cons_zero, List.set_cons_succ]
            refine takeH (i := 1) (v := ?_) (some 93) #[true, true, false, false, false, false, false, false, false, false, false, false, false, false, false, false, false, false, false, false, false] rfl rfl rfl (by kernel_rfl) (by kernel_rfl) (by kernel_rfl) (fun _ _ _ h => h) (Or.inl ⟨by rfl, ?_⟩) hHeld ?_
            rotate_left
            · intro w hSw; obtain _ := hSw; go_simp; with_reducible rfl
            rotate_left
            try simp only [Act.put, List.setIfInBounds_toArray, List.set_cons_zero, List.set_cons_succ]
            refine takeH (i := 2) (v := ?_) (some 94) #[true, true, true, false, false, false, false, false, false, false, false, false, false, false, false, false, false, false, false, false, false] rfl rfl rfl (by kernel_rfl) (by kernel_rfl) (by kernel_rfl) (fun _ _ _ h => h) (Or.inl ⟨by rfl, ?_⟩) hHeld ?_
            rotate_left
            · intro w hSw; obtain _ := hSw; go_simp; with_reducible rfl
            rotate_left
            try simp only [Act.put, List.setIfInBounds_toArray, List.set_cons_zero, List.set_cons_succ]
            refine takeH (i := 3) (v := ?_) (some 95) #[true, true, true, true, false, false, false, false, false, false, false, false, false, false, false, false, false, false, false, false, false] rfl rfl rfl (by kernel_rfl) (by kernel_rfl) (by kernel_rfl) (fun _ _ _ h => h) (Or.inl ⟨by rfl, ?_⟩) hHeld ?_
            rotate_left
            · intro w hSw; obtain _ := hSw; go_simp; with_reducible rfl
            rotate_left
            try simp only [Act.put, List.setIfInBounds_toArray, List.set_cons_zero, List.set_cons_succ]
            refine takeH (i := 5) (v := ?_) (some 97) #[true, true, true, true, false, true, false, false, false, false, false, false, false, false, false, false, false, false, false, false, false] rfl rfl rfl (by kernel_rfl) (by kernel_rfl) (by kernel_rfl) (fun _ _ _ h => h) (Or.inl ⟨by rfl, ?_⟩) hHeld ?_
            rotate_left
            · intro w hSw; obtain _ := hSw; go_simp; with_reducible rfl
            rotate_left
            try simp only [Act.put, List.setIfInBounds_toArray, List.set_cons_zero, List.set_cons_succ]
            refine takeH (i := 6) (v := ?_) (some 98) #[true, true, true, true, false, true, true, false, false, false, false, false, false, false, false, false, false, false, false, false, false] rfl rfl rfl (by kernel_rfl) (by kernel_rfl) (by kernel_rfl) (fun _ _ _ h => h) (Or.inl ⟨by rfl, ?_⟩) hHeld ?_
            rotate_left
            · intro w hSw; obtain _ := hSw; go_simp; with_reducible rfl
            rotate_left
            try simp only [Act.put, List.setIfInBounds_toArray, List.set_cons_zero, List.set_cons_succ]
            refine takeH (i := 7) (v := .int .i64 (k0 : Nat)) (some 99) #[true, true, true, true, false, true, true, true, false, false, false, false, false, false, false, false, false, false, false, false, false] rfl rfl rfl (by kernel_rfl) (by kernel_rfl) (by kernel_rfl) (fun _ _ _ h => h) (Or.inl ⟨by rfl, fun w hSw => ?_⟩) hHeld ?_
            · obtain _ := hSw; go_simp; (intros; omega)
            try simp only [Act.put, List.setIfInBounds_toArray, List.set_cons_zero, List.set_cons_succ]
            refine takeH (i := 8) (v := ?_) (some 100) #[true, true, true, true, false, true, true, true, true, false, false, false, false, false, false, false, false, false, false, false, false] rfl rfl rfl (by kernel_rfl) (by kernel_rfl) (by kernel_rfl) (fun _ _ _ h => h) (Or.inl ⟨by rfl, ?_⟩) hHeld ?_
            rotate_left
            · intro w hSw; obtain _ := hSw; go_simp; with_reducible rfl
            rotate_left
            try simp only [Act.put, List.setIfInBounds_toArray, List.set_cons_zero, List.set_cons_succ]
            refine takeH (i := 9) (v := ?_) (some 101) #[true, true, true, true, false, true, true, true, true, true, false, false, false, false, false, false, false, false, false, false, false] rfl rfl rfl (by kernel_rfl) (by kernel_rfl) (by kernel_rfl) (fun _ _ _ h => h) (Or.inl ⟨by rfl, ?_⟩) hHeld ?_
            rotate_left
            · intro w hSw; obtain _ := hSw; go_simp; with_reducible rfl
            rotate_left
            try simp only [Act.put, List.setIfInBounds_toArray, List.set_cons_zero, List.set_cons_succ]
            refine takeH (i := 10) (v := ?_) (some 102) #[true, true, true, true, false, true, true, true, true, true, true, false, false, false, false, false, false, false, false, false, false] rfl rfl rfl (by kernel_rfl) (by kernel_rfl) (by kernel_rfl) (fun _ _ _ h => h) (Or.inl ⟨by rfl, ?_⟩) hHeld ?_
            rotate_left
            · intro w hSw; obtain _ := hSw; go_simp; with_reducible rfl
            rotate_left
            try simp only [Act.put, List.setIfInBounds_toArray, List.set_cons_zero, List.set_cons_succ]
            refine takeH (i := 13) (v := ?_) (some 105) #[true, true, true, true, false, true, true, true, true, true, true, false, false, true, false, false, false, false, false, false, false] rfl rfl rfl (by kernel_rfl) (by kernel_rfl) (by kernel_rfl) (fun _ _ _ h => h) (Or.inl ⟨by rfl, ?_⟩) hHeld ?_
            rotate_left
            · intro w hSw; obtain _ := hSw; go_simp; with_reducible rfl
            rotate_left
            try simp only [Act.put, List.setIfInBounds_toArray, List.set_cons_zero, List.set_cons_succ]
            refine wpAnyH_ready (rs := [4, 11]) (by kernel_rfl) (by simp) ?_
            refine AllReadyH.cons rfl (fun K hK => ?_) (AllReadyH.cons rfl (fun K hK => ?_) AllReadyH.nil)
            · go_simp
              refine hK.out _ _ hHeld (fun hHeld => ?_)
              clear hK K
              refine listH #[true, true, true, true, true, true, true, true, true, true, true, false, false, true, false, false, false, false, false, false, false] rfl ?_
              refine wpAnyH_ready (rs := [11]) (by kernel_rfl) (by simp) ?_
              refine AllReadyH.cons rfl (fun K hK => ?_) AllReadyH.nil
              go_simp
              refine hK.out _ _ hHeld (fun hHeld => ?_)
              clear hK K
              refine listH #[true, true, true, true, true, true, true, true, true, true, true, true, false, true, false, false, false, false, false, false, false] rfl ?_
              refine takeH (i := 12) (v := ?_) (some 104) #[true, true, true, true, true, true, true, true, true, true, true, true, true, true, false, false, false, false, false, false, false] rfl rfl rfl (by kernel_rfl) (by kernel_rfl) (by kernel_rfl) (fun _ _ _ h => h) (Or.inl ⟨by rfl, ?_⟩) hHeld ?_
              rotate_left
              · intro w hSw; obtain _ := hSw; go_simp; with_reducible rfl
              rotate_left
              try simp only [Act.put, List.setIfInBounds_toArray, List.set_cons_zero, List.set_cons_succ]
              refine takeH (i := 14) (v := ?_) (some 106) #[true, true, true, true, true, true, true, true, true, true, true, true, true, true, true, false, false, false, false, false, false] rfl rfl rfl (by kernel_rfl) (by kernel_rfl) (by kernel_rfl) (fun _ _ _ h => h) (Or.inl ⟨by rfl, ?_⟩) hHeld ?_
              rotate_left
              · intro w hSw; obtain _ := hSw; go_simp; with_reducible rfl
              rotate_left
              try simp only [Act.put, List.setIfInBounds_toArray, List.set_cons_zero, List.set_cons_succ]
              refine takeH (i := 15) (v := .int .i64 (k0 : Nat)) (some 107) #[true, true, true, true, true, true, true, true, true, true, true, true, true, true, true, true, false, false, false, false, false] rfl rfl rfl (by kernel_rfl) (by kernel_rfl) (by kernel_rfl) (fun _ _ _ h => h) (Or.inl ⟨by rfl, fun w hSw => ?_⟩) hHeld ?_
              · obtain _ := hSw; go_simp; (intros; omega)
              try simp only [Act.put, List.setIfInBounds_toArray, List.set_cons_zero, List.set_cons_succ]
              refine takeH (i := 16) (v := ?_) (some 108) #[true, true, true, true, true, true, true, true, true, true, true, true, true, true, true, true, true, false, false, false, false] rfl rfl rfl (by kernel_rfl) (by kernel_rfl) (by kernel_rfl) (fun _ _ _ h => h) (Or.inl ⟨by rfl, ?_⟩) hHeld ?_
              rotate_left
              · intro w hSw; obtain _ := hSw; go_simp; with_reducible rfl
              rotate_left
              try simp only [Act.put, List.setIfInBounds_toArray, List.set_cons_zero, List.set_cons_succ]
              refine takeH (i := 17) (v := ?_) (some 109) #[true, true, true, true, true, true, true, true, true, true, true, true, true, true, true, true, true, true, false, false, false] rfl rfl rfl (by kernel_rfl) (by kernel_rfl) (by kernel_rfl) (fun _ _ _ h => h) (Or.inl ⟨by rfl, ?_⟩) hHeld ?_
              rotate_left
              · intro w hSw; obtain _ := hSw; go_simp; with_reducible rfl
              rotate_left
              try simp only [Act.put, List.setIfInBounds_toArray, List.set_cons_zero, List.set_cons_succ]
              refine takeH (i := 18) (v := ?_) (some 110) #[true, true, true, true, true, true, true, true, true, true, true, true, true, true, true, true, true, true, true, false, false] rfl rfl rfl (by kernel_rfl) (by kernel_rfl) (by kernel_rfl) (fun _ _ _ h => h) (Or.inl ⟨by rfl, ?_⟩) hHeld ?_
              rotate_left
              · intro w hSw; obtain _ := hSw; go_simp; with_reducible rfl
              rotate_left
              try simp only [Act.put, List.setIfInBounds_toArray, List.set_cons_zero, List.set_cons_succ]
              refine takeH (i := 19) (v := ?_) (some 111) #[true, true, true, true, true, true, true, true, true, true, true, true, true, true, true, true, true, true, true, true, false] rfl rfl rfl (by kernel_rfl) (by kernel_rfl) (by kernel_rfl) (fun _ _ _ h => h) (Or.inl ⟨by rfl, ?_⟩) hHeld ?_
              rotate_left
              · intro w hSw; obtain _ := hSw; go_simp; with_reducible rfl
              rotate_left
              try simp only [Act.put, List.setIfInBounds_toArray, List.set_cons_zero, List.set_cons_succ]
              refine wpAnyH_ready (rs := [20]) (by kernel_rfl) (by simp) ?_
              refine AllReadyH.cons rfl (fun K hK => ?_) AllReadyH.nil
              go_simp
              refine hK.out _ _ trivial (fun hHeld => ?_)
              clear hK K
              refine listH #[true, true, true, true, true, true, true, true, true, true, true, true, true, true, true, true, true, true, true, true, true] rfl ?_
              refine wpAnyH_done (by kernel_rfl) ?_ _
              clear hHeld
              generalize (wb.setCell ⟨f, 1, none⟩ (.slice (some ⟨a0, 0, none⟩) (s0 + k0) c0)).drew = wc at *
              have f1c : wc.cell? ⟨f, 1, none⟩ = some (.slice (some ⟨a0, 0, none⟩) (s0 + k0) c0) := heap_cell HR17.out 1
              have f2c : wc.cell? ⟨f, 2, none⟩ = some (.int .i64 (s0 : Nat)) := heap_cell HR17.out 2
              have zf2c : wc.frozen? ⟨f, 2, none⟩ = false := heap_frozen HR17.out 2
              have hf18 : Fr (fun k => k = f) wc (wc.setCell ⟨f, 2, none⟩ (.int .i64 ((s0 : Int) + (k0 : Int)))) := (Fr.refl (fun k => k = f) wc).setCell (p := ⟨f, 2, none⟩) (fun _ => rfl) _
              have hR18 : (wc.setCell ⟨f, 2, none⟩ (.int .i64 ((s0 : Int) + (k0 : Int)))).heap[f]? = some (.cells #[.int .i64 0, .slice (some ⟨a0, 0, none⟩) (s0 + k0) c0, .int .i64 ((s0 : Int) + (k0 : Int))] 140 (0, 0)) := heap_set HR17.out 2 _
              have hD18 := hf18.heap HD17.out hdd.out.2.1
              have HId19 : Aside ((wc.setCell ⟨f, 2, none⟩ (.int .i64 ((s0 : Int) + (k0 : Int)))).drew.heap[f]? = some (.cells #[.int .i64 0, .slice (some ⟨a0, 0, none⟩) (s0 + k0) c0, .int .i64 ((s0 : Int) + (k0 : Int))] 140 (0, 0))) := ⟨hR18⟩
              have u3c : wc.cell? ⟨g, 3, none⟩ = some (.int .i64 (U1 : Nat)) := heap_cell HD17.out 3
              have z3c : wc.frozen? ⟨g, 3, none⟩ = false := heap_frozen HD17.out 3
              have u3d : (wc.setCell ⟨f, 2, none⟩ (.int .i64 ((s0 : Int) + (k0 : Int)))).cell? ⟨g, 3, none⟩ = some (.int .i64 (U1 : Nat)) := heap_cell hD18 3
              have z3d : (wc.setCell ⟨f, 2, none⟩ (.int .i64 ((s0 : Int) + (k0 : Int)))).frozen? ⟨g, 3, none⟩ = false := heap_frozen hD18 3
              have hf19 : Fr (fun k => k = g) (wc.setCell ⟨f, 2, none⟩ (.int .i64 ((s0 : Int) + (k0 : Int)))) (((wc.setCell ⟨f, 2, none⟩ (.int .i64 ((s0 : Int) + (k0 : Int)))).setCell ⟨g, 3, none⟩ (.int .i64 (U2 : Int))).drew) := ((Fr.refl (fun k => k = g) _).setCell (p := ⟨g, 3, none⟩) (fun _ => rfl) _).drew
              have HD19 : Aside (isD (((wc.setCell ⟨f, 2, none⟩ (.int .i64 ((s0 : Int) + (k0 : Int)))).setCell ⟨g, 3, none⟩ (.int .i64 (U2 : Int))).drew) g m h c U2 uc root st fuse down) := ⟨heap_set (w := wc.setCell ⟨f, 2, none⟩ (.int .i64 ((s0 : Int) + (k0 : Int)))) hD18 3 _⟩
              have HR19 := Aside.mk (hf19.heap hR18 (fun q => hdd.out.2.1 q.symm))
              have HM19 := Aside.mk (hf19.heap (hf18.heap HM17.out (fun q => hdd.out.2.2.1 q)) (fun q => hdd.out.1 q.symm))
              have HK19 := Aside.mk (hf19.heap (hf18.heap HK17.out (fun q => by have q2 : w.heap.size = f := q; omega)) (fun q => by have q2 : w.heap.size = g := q; omega))
              have HIT19 := Aside.mk (hf19.heap (hf18.heap HIT17.out (fun q => by have q2 : r = f := q; omega)) (fun q => by have q2 : r = g := q; omega))
              have HF19 := Aside.mk ((HF17.out.trans hf18 (fun b hb q => .inr q)).trans hf19 (fun b hb q => .inl q))
              have HS29 : Aside ((((wc.setCell ⟨f, 2, none⟩ (.int .i64 ((s0 : Int) + (k0 : Int)))).setCell ⟨g, 3, none⟩ (.int .i64 (U2 : Int))).drew).cell? ⟨f, 0, none⟩ = some (.int .i64 0) ∧ (((wc.setCell ⟨f, 2, none⟩ (.int .i64 ((s0 : Int) + (k0 : Int)))).setCell ⟨g, 3, none⟩ (.int .i64 (U2 : Int))).drew).cell? ⟨f, 1, none⟩ = some (.slice (some ⟨a0, 0, none⟩) (s0 + k0) c0)) := ⟨⟨heap_cell HR19.out 0, heap_cell HR19.out 1⟩⟩
              clear hf18 hR18 hD18 hf19
              go_wp2_with fail
              refine startH (S := fun w' => w'.cell? ⟨f, 0, none⟩ = some (.int .i64 0) ∧ w'.cell? ⟨f, 1, none⟩ = some (.slice (some ⟨a0, 0, none⟩) (s0 + k0) c0)) 20 #[false, false, false, false, false, false, false, false, false, false, false, false, false, false, false, false, false, false, false, false] (by kernel_rfl) rfl rfl ⟨heap_cell HId19.out 0, heap_cell HId19.out 1⟩ (fun hHeld => ?_)
              refine takeH (i := 0) (v := ?_) (some 120) #[true, false, false, false, false, false, false, false, false, false, false, false, false, false, false, false, false, false, false, false] rfl rfl rfl (by kernel_rfl) (by kernel_rfl) (by kernel_rfl) (fun _ _ _ h => h) (Or.inl ⟨by rfl, ?_⟩) hHeld ?_
              rotate_left
              · intro w hSw; obtain ⟨s1, s2⟩ := hSw; go_simp; with_reducible rfl
              rotate_left
              try simp only [Act.put, List.setIfInBounds_toArray, List.set_cons_zero, List.set_cons_succ]
              refine takeH (i := 1) (v := ?_) (some 121) #[true, true, false, false, false, false, false, false, false, false, false, false, false, false, false, false, false, false, false, false] rfl rfl rfl (by kernel_rfl) (by kernel_rfl) (by kernel_rfl) (fun _ _ _ h => h) (Or.inl ⟨by rfl, ?_⟩) hHeld ?_
              rotate_left
              · intro w hSw; obtain ⟨s1, s2⟩ := hSw; go_simp; with_reducible rfl
              rotate_left
              try simp only [Act.put, List.setIfInBounds_toArray, List.set_cons_zero, List.set_cons_succ]
              refine takeH (i := 2) (v := ?_) (some 122) #[true, true, true, false, false, false, false, false, false, false, false, false, false, false, false, false, false, false, false, false] rfl rfl rfl (by kernel_rfl) (by kernel_rfl) (by kernel_rfl) (fun _ _ _ h => h) (Or.inl ⟨by rfl, ?_⟩) hHeld ?_
              rotate_left
              · intro w hSw; obtain ⟨s1, s2⟩ := hSw; go_simp; with_reducible rfl
              rotate_left
              try simp only [Act.put, List.setIfInBounds_toArray, List.set_cons_zero, List.set_cons_succ]
              refine takeH (i := 3) (v := ?_) (some 123) #[true, true, true, true, false, false, false, false, false, false, false, false, false, false, false, false, false, false, false, false] rfl rfl rfl (by kernel_rfl) (by kernel_rfl) (by kernel_rfl) (fun _ _ _ h => h) (Or.inl ⟨by rfl, ?_⟩) hHeld ?_
              rotate_left
              · intro w hSw; obtain ⟨s1, s2⟩ := hSw; go_simp; with_reducible rfl
              rotate_left
              try simp only [Act.put, List.setIfInBounds_toArray, List.set_cons_zero, List.set_cons_succ]
              refine takeH (i := 4) (v := ?_) (some 124) #[true, true, true, true, true, false, false, false, false, false, false, false, false, false, false, false, false, false, false, false] rfl rfl rfl (by kernel_rfl) (by kernel_rfl) (by kernel_rfl) (fun _ _ _ h => h) (Or.inl ⟨by rfl, ?_⟩) hHeld ?_
              rotate_left
              · intro w hSw; obtain ⟨s1, s2⟩ := hSw; go_simp; with_reducible rfl
              rotate_left
              try simp only [Act.put, List.setIfInBounds_toArray, List.set_cons_zero, List.set_cons_succ]
              refine takeH (i := 5) (v := ?_) (some 125) #[true, true, true, true, true, true, false, false, false, false, false, false, false, false, false, false, false, false, false, false] rfl rfl rfl (by kernel_rfl) (by kernel_rfl) (by kernel_rfl) (fun _ _ _ h => h) (Or.inl ⟨by rfl, ?_⟩) hHeld ?_
              rotate_left
              · intro w hSw; obtain ⟨s1, s2⟩ := hSw; go_simp; with_reducible rfl
              rotate_left
              try simp only [Act.put, List.setIfInBounds_toArray, List.set_cons_zero, List.set_cons_succ]
              refine takeH (i := 6) (v := ?_) (some 126) #[true, true, true, true, true, true, true, false, false, false, false, false, false, false, false, false, false, false, false, false] rfl rfl rfl (by kernel_rfl) (by kernel_rfl) (by kernel_rfl) (fun _ _ _ h => h) (Or.inl ⟨by rfl, ?_⟩) hHeld ?_
              rotate_left
              · intro w hSw; obtain ⟨s1, s2⟩ := hSw; go_simp; with_reducible rfl
              rotate_left
              try simp only [Act.put, List.setIfInBounds_toArray, List.set_cons_zero, List.set_cons_succ]
              refine takeH (i := 7) (v := ?_) (some 127) #[true, true, true, true, true, true, true, true, false, false, false, false, false, false, false, false, false, false, false, false] rfl rfl rfl (by kernel_rfl) (by kernel_rfl) (by kernel_rfl) (fun _ _ _ h => h) (Or.inl ⟨by rfl, ?_⟩) hHeld ?_
              rotate_left
              · intro w hSw; obtain ⟨s1, s2⟩ := hSw; go_simp; with_reducible rfl
              rotate_left
              try simp only [Act.put, List.setIfInBounds_toArray, List.set_cons_zero, List.set_cons_succ]
              refine takeH (i := 9) (v := ?_) (some 129) #[true, true, true, true, true, true, true, true, false, true, false, false, false, false, false, false, false, false, false, false] rfl rfl rfl (by kernel_rfl) (by kernel_rfl) (by kernel_rfl) (fun _ _ _ h => h) (Or.inl ⟨by rfl, ?_⟩) hHeld ?_
              rotate_left
              · intro w hSw; obtain ⟨s1, s2⟩ := hSw; go_simp; with_reducible rfl
              rotate_left
              try simp only [Act.put, List.setIfInBounds_toArray, List.set_cons_zero, List.set_cons_succ]
              refine takeH (i := 10) (v := ?_) (some 130) #[true, true, true, true, true, true, true, true, false, true, true, false, false, false, false, false, false, false, false, false] rfl rfl rfl (by kernel_rfl) (by kernel_rfl) (by kernel_rfl) (fun _ _ _ h => h) (Or.inl ⟨by rfl, ?_⟩) hHeld ?_
              rotate_left
              · intro w hSw; obtain ⟨s1, s2⟩ := hSw; go_simp; with_reducible rfl
              rotate_left
              try simp only [Act.put, List.setIfInBounds_toArray, List.set_cons_zero, List.set_cons_succ]
              refine takeH (i := 11) (v := ?_) (some 131) #[true, true, true, true, true, true, true, true, false, true, true, true, false, false, false, false, false, false, false, false] rfl rfl rfl (by kernel_rfl) (by kernel_rfl) (by kernel_rfl) (fun _ _ _ h => h) (Or.inl ⟨by rfl, ?_⟩) hHeld ?_
              rotate_left
              · intro w hSw; obtain ⟨s1, s2⟩ := hSw; go_simp; with_reducible rfl
              rotate_left
              try simp only [Act.put, List.setIfInBounds_toArray, List.set_cons_zero, List.set_cons_succ]
              refine takeH (i := 12) (v := ?_) (some 132) #[true, true, true, true, true, true, true, true, false, true, true, true, true, false, false, false, false, false, false, false] rfl rfl rfl (by kernel_rfl) (by kernel_rfl) (by kernel_rfl) (fun _ _ _ h => h) (Or.inl ⟨by rfl, ?_⟩) hHeld ?_
              rotate_left
              · intro w hSw; obtain ⟨s1, s2⟩ := hSw; go_simp; with_reducible rfl
              rotate_left
              try simp only [Act.put, List.setIfInBounds_toArray, List.set_cons_zero, List.set_cons_succ]
              refine takeH (i := 13) (v := ?_) (some 133) #[true, true, true, true, true, true, true, true, false, true, true, true, true, true, false, false, false, false, false, false] rfl rfl rfl (by kernel_rfl) (by kernel_rfl) (by kernel_rfl) (fun _ _ _ h => h) (Or.inl ⟨by rfl, ?_⟩) hHeld ?_
              rotate_left
              · intro w hSw; obtain ⟨s1, s2⟩ := hSw; go_simp; with_reducible rfl
              rotate_left
              try simp only [Act.put, List.setIfInBounds_toArray, List.set_cons_zero, List.set_cons_succ]
              refine takeH (i := 16) (v := ?_) (some 136) #[true, true, true, true, true, true, true, true, false, true, true, true, true, true, false, false, true, false, false, false] rfl rfl rfl (by kernel_rfl) (by kernel_rfl) (by kernel_rfl) (fun _ _ _ h => h) (Or.inl ⟨by rfl, ?_⟩) hHeld ?_
              rotate_left
              · intro w hSw; obtain ⟨s1, s2⟩ := hSw; go_simp; with_reducible rfl
              rotate_left
              try simp only [Act.put, List.setIfInBounds_toArray, List.set_cons_zero, List.set_cons_succ]
              refine takeH (i := 17) (v := ?_) (some 137) #[true, true, true, true, true, true, true, true, false, true, true, true, true, true, false, false, true, true, false, false] rfl rfl rfl (by kernel_rfl) (by kernel_rfl) (by kernel_rfl) (fun _ _ _ h => h) (Or.inl ⟨by rfl, ?_⟩) hHeld ?_
              rotate_left
              · intro w hSw; obtain ⟨s1, s2⟩ := hSw; go_simp; with_reducible rfl
              rotate_left
              try simp only [Act.put, List.setIfInBounds_toArray, List.set_cons_zero, List.set_cons_succ]
              refine wpAnyH_ready (rs := [8, 14]) (by kernel_rfl) (by simp) ?_
              refine AllReadyH.cons rfl (fun K hK => ?_) (AllReadyH.cons rfl (fun K hK => ?_) AllReadyH.nil)
              · go_simp
                refine hK.out _ _ hHeld (fun hHeld => ?_)
                clear hK K
                refine listH #[true, true, true, true, true, true, true, true, true, true, true, true, true, true, false, false, true, true, false, false] rfl ?_
                refine wpAnyH_ready (rs := [14]) (by kernel_rfl) (by simp) ?_
                refine AllReadyH.cons rfl (fun K hK => ?_) AllReadyH.nil
                go_simp
                refine (HB2.out _).mono ?_
                rintro e xq ⟨rfl, rfl⟩
                go_wp2_with fail
                refine hK.out _ _ hHeld (fun hHeld => ?_)
                clear hK K
                refine listH #[true, true, true, true, true, true, true, true, true, true, true, true, true, true, true, false, true, true, false, false] rfl ?_
                refine takeH (i := 15) (v := ?_) (some 135) #[true, true, true, true, true, true, true, true, true, true, true, true, true, true, true, true, true, true, false, false] rfl rfl rfl (by kernel_rfl) (by kernel_rfl) (by kernel_rfl) (fun _ _ _ h => h) (Or.inl ⟨by rfl, ?_⟩) hHeld ?_
                rotate_left
                · intro w hSw; obtain ⟨s1, s2⟩ := hSw; go_simp; with_reducible rfl
                rotate_left
                try simp only [Act.put, List.setIfInBounds_toArray, List.set_cons_zero, List.set_cons_succ]
                refine takeH (i := 18) (v := ?_) (some 138) #[true, true, true, true, true, true, true, true, true, true, true, true, true, true, true, true, true, true, true, false] rfl rfl rfl (by kernel_rfl) (by kernel_rfl) (by kernel_rfl) (fun _ _ _ h => h) (Or.inl ⟨by rfl, ?_⟩) hHeld ?_
                rotate_left
                · intro w hSw; obtain ⟨s1, s2⟩ := hSw; go_simp; with_reducible rfl
                rotate_left
                try simp only [Act.put, List.setIfInBounds_toArray, List.set_cons_zero, List.set_cons_succ]
                refine wpAnyH_ready (rs := [19]) (by kernel_rfl) (by simp) ?_
                refine AllReadyH.cons rfl (fun K hK => ?_) AllReadyH.nil
                go_simp
                refine hK.out _ _ HS29.out (fun hHeld => ?_)
                clear hK K
                refine listH #[true, true, true, true, true, true, true, true, true, true, true, true, true, true, true, true, true, true, true, true] rfl ?_
                refine wpAnyH_done (by kernel_rfl) ?_ _
                clear hHeld
                generalize ((wc.setCell ⟨f, 2, none⟩ (.int .i64 ((s0 : Int) + (k0 : Int)))).setCell ⟨g, 3, none⟩ (.int .i64 (U2 : Int))).drew = wf at *
                try go_wp2
                go_roundw
                case rel =>
                  refine ⟨1, by omega, HIT19, HM19, HK19, ⟨?_⟩, HF19⟩
                  rw [if_neg (by omega)]
                  refine ⟨?_, HR19.out⟩
                  have q := HD19.out
                  rw [HU2.out, HU1.out] at q; exact q
                case measure =>
                  have q : wf.heap[r]? = some (.mapIter (some m) 1 #[0] 1) := HIT19.out
                  rw [HMZ.out, q]; simp
              · go_simp
                refine (HB2.out _).mono ?_
                rintro e xq ⟨rfl, rfl⟩
                go_wp2_with fail
                refine hK.out _ _ hHeld (fun hHeld => ?_)
                clear hK K
                refine listH #[true, true, true, true, true, true, true, true, false, true, true, true, true, true, true, false, true, true, false, false] rfl ?_
                refine wpAnyH_ready (rs := [8]) (by kernel_rfl) (by simp) ?_
                refine AllReadyH.cons rfl (fun K hK => ?_) AllReadyH.nil
                go_simp
                refine hK.out _ _ hHeld (fun hHeld => ?_)
                clear hK K
                refine listH #[true, true, true, true, true, true, true, true, true, true, true, true, true, true, true, false, true, true, false, false] rfl ?_
                refine takeH (i := 15) (v := ?_) (some 135) #[true, true, true, true, true, true, true, true, true, true, true, true, true, true, true, true, true, true, false, false] rfl rfl rfl (by kernel_rfl) (by kernel_rfl) (by kernel_rfl) (fun _ _ _ h => h) (Or.inl ⟨by rfl, ?_⟩) hHeld ?_
                rotate_left
                · intro w hSw; obtain ⟨s1, s2⟩ := hSw; go_simp; with_reducible rfl
                rotate_left
                try simp only [Act.put, List.setIfInBounds_toArray, List.set_cons_zero, List.set_cons_succ]
                refine takeH (i := 18) (v := ?_) (some 138) #[true, true, true, true, true, true, true, true, true, true, true, true, true, true, true, true, true, true, true, false] rfl rfl rfl (by kernel_rfl) (by kernel_rfl) (by kernel_rfl) (fun _ _ _ h => h) (Or.inl ⟨by rfl, ?_⟩) hHeld ?_
                rotate_left
                · intro w hSw; obtain ⟨s1, s2⟩ := hSw; go_simp; with_reducible rfl
                rotate_left
                try simp only [Act.put, List.setIfInBounds_toArray, List.set_cons_zero, List.set_cons_succ]
                refine wpAnyH_ready (rs := [19]) (by kernel_rfl) (by simp) ?_
                refine AllReadyH.cons rfl (fun K hK => ?_) AllReadyH.nil
                go_simp
                refine hK.out _ _ HS29.out (fun hHeld => ?_)
                clear hK K
                refine listH #[true, true, true, true, true, true, true, true, true, true, true, true, true, true, true, true, true, true, true, true] rfl ?_
                refine wpAnyH_done (by kernel_rfl) ?_ _
                clear hHeld
                generalize ((wc.setCell ⟨f, 2, none⟩ (.int .i64 ((s0 : Int) + (k0 : Int)))).setCell ⟨g, 3, none⟩ (.int .i64 (U2 : Int))).drew = wf at *
                try go_wp2
                go_roundw
                case rel =>
                  refine ⟨1, by omega, HIT19, HM19, HK19, ⟨?_⟩, HF19⟩
                  rw [if_neg (by omega)]
                  refine ⟨?_, HR19.out⟩
                  have q := HD19.out
                  rw [HU2.out, HU1.out] at q; exact q
                case measure =>
                  have q : wf.heap[r]? = some (.mapIter (some m) 1 #[0] 1) := HIT19.out
                  rw [HMZ.out, q]; simp
            · go_simp
              refine hK.out _ _ hHeld (fun hHeld => ?_)
              clear hK K
              refine listH #[true, true, true, true, false, true, true, true, true, true, true, true, false, true, false, false, false, false, false, false, false] rfl ?_
              refine takeH (i := 12) (v := ?_) (some 104) #[true, true, true, true, false, true, true, true, true, true, true, true, true, true, false, false, false, false, false, false, false] rfl rfl rfl (by kernel_rfl) (by kernel_rfl) (by kernel_rfl) (fun _ _ _ h => h) (Or.inl ⟨by rfl, ?_⟩) hHeld ?_
              rotate_left
              · intro w hSw; obtain _ := hSw; go_simp; with_reducible rfl
              rotate_left
              try simp only [Act.put, List.setIfInBounds_toArray, List.set_cons_zero, List.set_cons_succ]
              refine takeH (i := 14) (v := ?_) (some 106) #[true, true, true, true, false, true, true, true, true, true, true, true, true, true, true, false, false, false, false, false, false] rfl rfl rfl (by kernel_rfl) (by kernel_rfl) (by kernel_rfl) (fun _ _ _ h => h) (Or.inl ⟨by rfl, ?_⟩) hHeld ?_
              rotate_left
              · intro w hSw; obtain _ := hSw; go_simp; with_reducible rfl
              rotate_left
              try simp only [Act.put, List.setIfInBounds_toArray, List.set_cons_zero, List.set_cons_succ]
              refine takeH (i := 15) (v := .int .i64 (k0 : Nat)) (some 107) #[true, true, true, true, false, true, true, true, true, true, true, true, true, true, true, true, false, false, false, false, false] rfl rfl rfl (by kernel_rfl) (by kernel_rfl) (by kernel_rfl) (fun _ _ _ h => h) (Or.inl ⟨by rfl, fun w hSw => ?_⟩) hHeld ?_
              · obtain _ := hSw; go_simp; (intros; omega)
              try simp only [Act.put, List.setIfInBounds_toArray, List.set_cons_zero, List.set_cons_succ]
              refine takeH (i := 16) (v := ?_) (some 108) #[true, true, true, true, false, true, true, true, true, true, true, true, true, true, true, true, true, false, false, false, false] rfl rfl rfl (by kernel_rfl) (by kernel_rfl) (by kernel_rfl) (fun _ _ _ h => h) (Or.inl ⟨by rfl, ?_⟩) hHeld ?_
              rotate_left
              · intro w hSw; obtain _ := hSw; go_simp; with_reducible rfl
              rotate_left
              try simp only [Act.put, List.setIfInBounds_toArray, List.set_cons_zero, List.set_cons_succ]
              refine wpAnyH_ready (rs := [4]) (by kernel_rfl) (by simp) ?_
              refine AllReadyH.cons rfl (fun K hK => ?_) AllReadyH.nil
              go_simp
              refine hK.out _ _ hHeld (fun hHeld => ?_)
              clear hK K
              refine listH #[true, true, true, true, true, true, true, true, true, true, true, true, true, true, true, true, true, false, false, false, false] rfl ?_
              refine takeH (i := 17) (v := ?_) (some 109) #[true, true, true, true, true, true, true, true, true, true, true, true, true, true, true, true, true, true, false, false, false] rfl rfl rfl (by kernel_rfl) (by kernel_rfl) (by kernel_rfl) (fun _ _ _ h => h) (Or.inl ⟨by rfl, ?_⟩) hHeld ?_
              rotate_left
              · intro w hSw; obtain _ := hSw; go_simp; with_reducible rfl
              rotate_left
              try simp only [Act.put, List.setIfInBounds_toArray, List.set_cons_zero, List.set_cons_succ]
              refine takeH (i := 18) (v := ?_) (some 110) #[true, true, true, true, true, true, true, true, true, true, true, true, true, true, true, true, true, true, true, false, false] rfl rfl rfl (by kernel_rfl) (by kernel_rfl) (by kernel_rfl) (fun _ _ _ h => h) (Or.inl ⟨by rfl, ?_⟩) hHeld ?_
              rotate_left
              · intro w hSw; obtain _ := hSw; go_simp; with_reducible rfl
              rotate_left
              try simp only [Act.put, List.setIfInBounds_toArray, List.set_cons_zero, List.set_cons_succ]
              refine takeH (i := 19) (v := ?_) (some 111) #[true, true, true, true, true, true, true, true, true, true, true, true, true, true, true, true, true, true, true, true, false] rfl rfl rfl (by kernel_rfl) (by kernel_rfl) (by kernel_rfl) (fun _ _ _ h => h) (Or.inl ⟨by rfl, ?_⟩) hHeld ?_
              rotate_left
              · intro w hSw; obtain _ := hSw; go_simp; with_reducible rfl
              rotate_left
              try simp only [Act.put, List.setIfInBounds_toArray, List.set_cons_zero, List.set_cons_succ]
              refine wpAnyH_ready (rs := [20]) (by kernel_rfl) (by simp) ?_
              refine AllReadyH.cons rfl (fun K hK => ?_) AllReadyH.nil
              go_simp
              refine hK.out _ _ trivial (fun hHeld => ?_)
              clear hK K
              refine listH #[true, true, true, true, true, true, true, true, true, true, true, true, true, true, true, true, true, true, true, true, true] rfl ?_
              refine wpAnyH_done (by kernel_rfl) ?_ _
              clear hHeld
              generalize (wb.setCell ⟨f, 1, none⟩ (.slice (some ⟨a0, 0, none⟩) (s0 + k0) c0)).drew = wc at *
              have f1c : wc.cell? ⟨f, 1, none⟩ = some (.slice (some ⟨a0, 0, none⟩) (s0 + k0) c0) := heap_cell HR17.out 1
              have f2c : wc.cell? ⟨f, 2, none⟩ = some (.int .i64 (s0 : Nat)) := heap_cell HR17.out 2
              have zf2c : wc.frozen? ⟨f, 2, none⟩ = false := heap_frozen HR17.out 2
              have hf18 : Fr (fun k => k = f) wc (wc.setCell ⟨f, 2, none⟩ (.int .i64 ((s0 : Int) + (k0 : Int)))) := (Fr.refl (fun k => k = f) wc).setCell (p := ⟨f, 2, none⟩) (fun _ => rfl) _
              have hR18 : (wc.setCell ⟨f, 2, none⟩ (.int .i64 ((s0 : Int) + (k0 : Int)))).heap[f]? = some (.cells #[.int .i64 0, .slice (some ⟨a0, 0, none⟩) (s0 + k0) c0, .int .i64 ((s0 : Int) + (k0 : Int))] 140 (0, 0)) := heap_set HR17.out 2 _
              have hD18 := hf18.heap HD17.out hdd.out.2.1
              have HId19 : Aside ((wc.setCell ⟨f, 2, none⟩ (.int .i64 ((s0 : Int) + (k0 : Int)))).drew.heap[f]? = some (.cells #[.int .i64 0, .slice (some ⟨a0, 0, none⟩) (s0 + k0) c0, .int .i64 ((s0 : Int) + (k0 : Int))] 140 (0, 0))) := ⟨hR18⟩
              have u3c : wc.cell? ⟨g, 3, none⟩ = some (.int .i64 (U1 : Nat)) := heap_cell HD17.out 3
              have z3c : wc.frozen? ⟨g, 3, none⟩ = false := heap_frozen HD17.out 3
              have u3d : (wc.setCell ⟨f, 2, none⟩ (.int .i64 ((s0 : Int) + (k0 : Int)))).cell? ⟨g, 3, none⟩ = some (.int .i64 (U1 : Nat)) := heap_cell hD18 3
              have z3d : (wc.setCell ⟨f, 2, none⟩ (.int .i64 ((s0 : Int) + (k0 : Int)))).frozen? ⟨g, 3, none⟩ = false := heap_frozen hD18 3
              have hf19 : Fr (fun k => k = g) (wc.setCell ⟨f, 2, none⟩ (.int .i64 ((s0 : Int) + (k0 : Int)))) (((wc.setCell ⟨f, 2, none⟩ (.int .i64 ((s0 : Int) + (k0 : Int)))).setCell ⟨g, 3, none⟩ (.int .i64 (U2 : Int))).drew) := ((Fr.refl (fun k => k = g) _).setCell (p := ⟨g, 3, none⟩) (fun _ => rfl) _).drew
              have HD19 : Aside (isD (((wc.setCell ⟨f, 2, none⟩ (.int .i64 ((s0 : Int) + (k0 : Int)))).setCell ⟨g, 3, none⟩ (.int .i64 (U2 : Int))).drew) g m h c U2 uc root st fuse down) := ⟨heap_set (w := wc.setCell ⟨f, 2, none⟩ (.int .i64 ((s0 : Int) + (k0 : Int)))) hD18 3 _⟩
              have HR19 := Aside.mk (hf19.heap hR18 (fun q => hdd.out.2.1 q.symm))
              have HM19 := Aside.mk (hf19.heap (hf18.heap HM17.out (fun q => hdd.out.2.2.1 q)) (fun q => hdd.out.1 q.symm))
              have HK19 := Aside.mk (hf19.heap (hf18.heap HK17.out (fun q => by have q2 : w.heap.size = f := q; omega)) (fun q => by have q2 : w.heap.size = g := q; omega))
              have HIT19 := Aside.mk (hf19.heap (hf18.heap HIT17.out (fun q => by have q2 : r = f := q; omega)) (fun q => by have q2 : r = g := q; omega))
              have HF19 := Aside.mk ((HF17.out.trans hf18 (fun b hb q => .inr q)).trans hf19 (fun b hb q => .inl q))
              have HS29 : Aside ((((wc.setCell ⟨f, 2, none⟩ (.int .i64 ((s0 : Int) + (k0 : Int)))).setCell ⟨g, 3, none⟩ (.int .i64 (U2 : Int))).drew).cell? ⟨f, 0, none⟩ = some (.int .i64 0) ∧ (((wc.setCell ⟨f, 2, none⟩ (.int .i64 ((s0 : Int) + (k0 : Int)))).setCell ⟨g, 3, none⟩ (.int .i64 (U2 : Int))).drew).cell? ⟨f, 1, none⟩ = some (.slice (some ⟨a0, 0, none⟩) (s0 + k0) c0)) := ⟨⟨heap_cell HR19.out 0, heap_cell HR19.out 1⟩⟩
              clear hf18 hR18 hD18 hf19
              go_wp2_with fail
              refine startH (S := fun w' => w'.cell? ⟨f, 0, none⟩ = some (.int .i64 0) ∧ w'.cell? ⟨f, 1, none⟩ = some (.slice (some ⟨a0, 0, none⟩) (s0 + k0) c0)) 20 #[false, false, false, false, false, false, false, false, false, false, false, false, false, false, false, false, false, false, false, false] (by kernel_rfl) rfl rfl ⟨heap_cell HId19.out 0, heap_cell HId19.out 1⟩ (fun hHeld => ?_)
              refine takeH (i := 0) (v := ?_) (some 120) #[true, false, false, false, false, false, false, false, false, false, false, false, false, false, false, false, false, false, false, false] rfl rfl rfl (by kernel_rfl) (by kernel_rfl) (by kernel_rfl) (fun _ _ _ h => h) (Or.inl ⟨by rfl, ?_⟩) hHeld ?_
              rotate_left
              · intro w hSw; obtain ⟨s1, s2⟩ := hSw; go_simp; with_reducible rfl
              rotate_left
              try simp only [Act.put, List.setIfInBounds_toArray, List.set_cons_zero, List.set_cons_succ]
              refine takeH (i := 1) (v := ?_) (some 121) #[true, true, false, false, false, false, false, false, false, false, false, false, false, false, false, false, false, false, false, false] rfl rfl rfl (by kernel_rfl) (by kernel_rfl) (by kernel_rfl) (fun _ _ _ h => h) (Or.inl ⟨by rfl, ?_⟩) hHeld ?_
              rotate_left
              · intro w hSw; obtain ⟨s1, s2⟩ := hSw; go_simp; with_reducible rfl
              rotate_left
              try simp only [Act.put, List.setIfInBounds_toArray, List.set_cons_zero, List.set_cons_succ]
              refine takeH (i := 2) (v := ?_) (some 122) #[true, true, true, false, false, false, false, false, false, false, false, false, false, false, false, false, false, false, false, false] rfl rfl rfl (by kernel_rfl) (by kernel_rfl) (by kernel_rfl) (fun _ _ _ h => h) (Or.inl ⟨by rfl, ?_⟩) hHeld ?_
              rotate_left
              · intro w hSw; obtain ⟨s1, s2⟩ := hSw; go_simp; with_reducible rfl
              rotate_left
              try simp only [Act.put, List.setIfInBounds_toArray, List.set_cons_zero, List.set_cons_succ]
              refine takeH (i := 3) (v := ?_) (some 123) #[true, true, true, true, false, false, false, false, false, false, false, false, false, false, false, false, false, false, false, false] rfl rfl rfl (by kernel_rfl) (by kernel_rfl) (by kernel_rfl) (fun _ _ _ h => h) (Or.inl ⟨by rfl, ?_⟩) hHeld ?_
              rotate_left
              · intro w hSw; obtain ⟨s1, s2⟩ := hSw; go_simp; with_reducible rfl
              rotate_left
              try simp only [Act.put, List.setIfInBounds_toArray, List.set_cons_zero, List.set_cons_succ]
              refine takeH (i := 4) (v := ?_) (some 124) #[true, true, true, true, true, false, false, false, false, false, false, false, false, false, false, false, false, false, false, false] rfl rfl rfl (by kernel_rfl) (by kernel_rfl) (by kernel_rfl) (fun _ _ _ h => h) (Or.inl ⟨by rfl, ?_⟩) hHeld ?_
              rotate_left
              · intro w hSw; obtain ⟨s1, s2⟩ := hSw; go_simp; with_reducible rfl
              rotate_left
              try simp only [Act.put, List.setIfInBounds_toArray, List.set_cons_zero, List.set_cons_succ]
              refine takeH (i := 5) (v := ?_) (some 125) #[true, true, true, true, true, true, false, false, false, false, false, false, false, false, false, false, false, false, false, false] rfl rfl rfl (by kernel_rfl) (by kernel_rfl) (by kernel_rfl) (fun _ _ _ h => h) (Or.inl ⟨by rfl, ?_⟩) hHeld ?_
              rotate_left
              · intro w hSw; obtain ⟨s1, s2⟩ := hSw; go_simp; with_reducible rfl
              rotate_left
              try simp only [Act.put, List.setIfInBounds_toArray, List.set_cons_zero, List.set_cons_succ]
              refine takeH (i := 6) (v := ?_) (some 126) #[true, true, true, true, true, true, true, false, false, false, false, false, false, false, false, false, false, false, false, false] rfl rfl rfl (by kernel_rfl) (by kernel_rfl) (by kernel_rfl) (fun _ _ _ h => h) (Or.inl ⟨by rfl, ?_⟩) hHeld ?_
              rotate_left
              · intro w hSw; obtain ⟨s1, s2⟩ := hSw; go_simp; with_reducible rfl
              rotate_left
              try simp only [Act.put, List.setIfInBounds_toArray, List.set_cons_zero, List.set_cons_succ]
              refine takeH (i := 7) (v := ?_) (some 127) #[true, true, true, true, true, true, true, true, false, false, false, false, false, false, false, false, false, false, false, false] rfl rfl rfl (by kernel_rfl) (by kernel_rfl) (by kernel_rfl) (fun _ _ _ h => h) (Or.inl ⟨by rfl, ?_⟩) hHeld ?_
              rotate_left
              · intro w hSw; obtain ⟨s1, s2⟩ := hSw; go_simp; with_reducible rfl
              rotate_left
              try simp only [Act.put, List.setIfInBounds_toArray, List.set_cons_zero, List.set_cons_succ]
              refine takeH (i := 9) (v := ?_) (some 129) #[true, true, true, true, true, true, true, true, false, true, false, false, false, false, false, false, false, false, false, false] rfl rfl rfl (by kernel_rfl) (by kernel_rfl) (by kernel_rfl) (fun _ _ _ h => h) (Or.inl ⟨by rfl, ?_⟩) hHeld ?_
              rotate_left
              · intro w hSw; obtain ⟨s1, s2⟩ := hSw; go_simp; with_reducible rfl
              rotate_left
              try simp only [Act.put, List.setIfInBounds_toArray, List.set_cons_zero, List.set_cons_succ]
              refine takeH (i := 10) (v := ?_) (some 130) #[true, true, true, true, true, true, true, true, false, true, true, false, false, false, false, false, false, false, false, false] rfl rfl rfl (by kernel_rfl) (by kernel_rfl) (by kernel_rfl) (fun _ _ _ h => h) (Or.inl ⟨by rfl, ?_⟩) hHeld ?_
              rotate_left
              · intro w hSw; obtain ⟨s1, s2⟩ := hSw; go_simp; with_reducible rfl
              rotate_left
              try simp only [Act.put, List.setIfInBounds_toArray, List.set_cons_zero, List.set_cons_succ]
              refine takeH (i := 11) (v := ?_) (some 131) #[true, true, true, true, true, true, true, true, false, true, true, true, false, false, false, false, false, false, false, false] rfl rfl rfl (by kernel_rfl) (by kernel_rfl) (by kernel_rfl) (fun _ _ _ h => h) (Or.inl ⟨by rfl, ?_⟩) hHeld ?_
              rotate_left
              · intro w hSw; obtain ⟨s1, s2⟩ := hSw; go_simp; with_reducible rfl
              rotate_left
              try simp only [Act.put, List.setIfInBounds_toArray, List.set_cons_zero, List.set_cons_succ]
              refine takeH (i := 12) (v := ?_) (some 132) #[true, true, true, true, true, true, true, true, false, true, true, true, true, false, false, false, false, false, false, false] rfl rfl rfl (by kernel_rfl) (by kernel_rfl) (by kernel_rfl) (fun _ _ _ h => h) (Or.inl ⟨by rfl, ?_⟩) hHeld ?_
              rotate_left
              · intro w hSw; obtain ⟨s1, s2⟩ := hSw; go_simp; with_reducible rfl
              rotate_left
              try simp only [Act.put, List.setIfInBounds_toArray, List.set_cons_zero, List.set_cons_succ]
              refine takeH (i := 13) (v := ?_) (some 133) #[true, true, true, true, true, true, true, true, false, true, true, true, true, true, false, false, false, false, false, false] rfl rfl rfl (by kernel_rfl) (by kernel_rfl) (by kernel_rfl) (fun _ _ _ h => h) (Or.inl ⟨by rfl, ?_⟩) hHeld ?_
              rotate_left
              · intro w hSw; obtain ⟨s1, s2⟩ := hSw; go_simp; with_reducible rfl
              rotate_left
              try simp only [Act.put, List.setIfInBounds_toArray, List.set_cons_zero, List.set_cons_succ]
              refine takeH (i := 16) (v := ?_) (some 136) #[true, true, true, true, true, true, true, true, false, true, true, true, true, true, false, false, true, false, false, false] rfl rfl rfl (by kernel_rfl) (by kernel_rfl) (by kernel_rfl) (fun _ _ _ h => h) (Or.inl ⟨by rfl, ?_⟩) hHeld ?_
              rotate_left
              · intro w hSw; obtain ⟨s1, s2⟩ := hSw; go_simp; with_reducible rfl
              rotate_left
              try simp only [Act.put, List.setIfInBounds_toArray, List.set_cons_zero, List.set_cons_succ]
              refine takeH (i := 17) (v := ?_) (some 137) #[true, true, true, true, true, true, true, true, false, true, true, true, true, true, false, false, true, true, false, false] rfl rfl rfl (by kernel_rfl) (by kernel_rfl) (by kernel_rfl) (fun _ _ _ h => h) (Or.inl ⟨by rfl, ?_⟩) hHeld ?_
              rotate_left
              · intro w hSw; obtain ⟨s1, s2⟩ := hSw; go_simp; with_reducible rfl
              rotate_left
              try simp only [Act.put, List.setIfInBounds_toArray, List.set_cons_zero, List.set_cons_succ]
              refine wpAnyH_ready (rs := [8, 14]) (by kernel_rfl) (by simp) ?_
              refine AllReadyH.cons rfl (fun K hK => ?_) (AllReadyH.cons rfl (fun K hK => ?_) AllReadyH.nil)
              · go_simp
                refine hK.out _ _ hHeld (fun hHeld => ?_)
                clear hK K
                refine listH #[true, true, true, true, true, true, true, true, true, true, true, true, true, true, false, false, true, true, false, false] rfl ?_
                refine wpAnyH_ready (rs := [14]) (by kernel_rfl) (by simp) ?_
                refine AllReadyH.cons rfl (fun K hK => ?_) AllReadyH.nil
                go_simp
                refine (HB2.out _).mono ?_
                rintro e xq ⟨rfl, rfl⟩
                go_wp2_with fail
                refine hK.out _ _ hHeld (fun hHeld => ?_)
                clear hK K
                refine listH #[true, true, true, true, true, true, true, true, true, true, true, true, true, true, true, false, true, true, false, false] rfl ?_
                refine takeH (i := 15) (v := ?_) (some 135) #[true, true, true, true, true, true, true, true, true, true, true, true, true, true, true, true, true, true, false, false] rfl rfl rfl (by kernel_rfl) (by kernel_rfl) (by kernel_rfl) (fun _ _ _ h => h) (Or.inl ⟨by rfl, ?_⟩) hHeld ?_
                rotate_left
                · intro w hSw; obtain ⟨s1, s2⟩ := hSw; go_simp; with_reducible rfl
                rotate_left
                try simp only [Act.put, List.setIfInBounds_toArray, List.set_cons_zero, List.set_cons_succ]
                refine takeH (i := 18) (v := ?_) (some 138) #[true, true, true, true, true, true, true, true, true, true, true, true, true, true, true, true, true, true, true, false] rfl rfl rfl (by kernel_rfl) (by kernel_rfl) (by kernel_rfl) (fun _ _ _ h => h) (Or.inl ⟨by rfl, ?_⟩) hHeld ?_
                rotate_left
                · intro w hSw; obtain ⟨s1, s2⟩ := hSw; go_simp; with_reducible rfl
                rotate_left
                try simp only [Act.put, List.setIfInBounds_toArray, List.set_cons_zero, List.set_cons_succ]
                refine wpAnyH_ready (rs := [19]) (by kernel_rfl) (by simp) ?_
                refine AllReadyH.cons rfl (fun K hK => ?_) AllReadyH.nil
                go_simp
                refine hK.out _ _ HS29.out (fun hHeld => ?_)
                clear hK K
                refine listH #[true, true, true, true, true, true, true, true, true, true, true, true, true, true, true, true, true, true, true, true] rfl ?_
                refine wpAnyH_done (by kernel_rfl) ?_ _
                clear hHeld
                generalize ((wc.setCell ⟨f, 2, none⟩ (.int .i64 ((s0 : Int) + (k0 : Int)))).setCell ⟨g, 3, none⟩ (.int .i64 (U2 : Int))).drew = wf at *
                try go_wp2
                go_roundw
                case rel =>
                  refine ⟨1, by omega, HIT19, HM19, HK19, ⟨?_⟩, HF19⟩
                  rw [if_neg (by omega)]
                  refine ⟨?_, HR19.out⟩
                  have q := HD19.out
                  rw [HU2.out, HU1.out] at q; exact q
                case measure =>
                  have q : wf.heap[r]? = some (.mapIter (some m) 1 #[0] 1) := HIT19.out
                  rw [HMZ.out, q]; simp
              · go_simp
                refine (HB2.out _).mono ?_
                rintro e xq ⟨rfl, rfl⟩
                go_wp2_with fail
                refine hK.out _ _ hHeld (fun hHeld => ?_)
                clear hK K
                refine listH #[true, true, true, true, true, true, true, true, false, true, true, true, true, true, true, false, true, true, false, false] rfl ?_
                refine wpAnyH_ready (rs := [8]) (by kernel_rfl) (by simp) ?_
                refine AllReadyH.cons rfl (fun K hK => ?_) AllReadyH.nil
                go_simp
                refine hK.out _ _ hHeld (fun hHeld => ?_)
                clear hK K
                refine listH #[true, true, true, true, true, true, true, true, true, true, true, true, true, true, true, false, true, true, false, false] rfl ?_
                refine takeH (i := 15) (v := ?_) (some 135) #[true, true, true, true, true, true, true, true, true, true, true, true, true, true, true, true, true, true, false, false] rfl rfl rfl (by kernel_rfl) (by kernel_rfl) (by kernel_rfl) (fun _ _ _ h => h) (Or.inl ⟨by rfl, ?_⟩) hHeld ?_
                rotate_left
                · intro w hSw; obtain ⟨s1, s2⟩ := hSw; go_simp; with_reducible rfl
                rotate_left
                try simp only [Act.put, List.setIfInBounds_toArray, List.set_cons_zero, List.set_cons_succ]
                refine takeH (i := 18) (v := ?_) (some 138) #[true, true, true, true, true, true, true, true, true, true, true, true, true, true, true, true, true, true, true, false] rfl rfl rfl (by kernel_rfl) (by kernel_rfl) (by kernel_rfl) (fun _ _ _ h => h) (Or.inl ⟨by rfl, ?_⟩) hHeld ?_
                rotate_left
                · intro w hSw; obtain ⟨s1, s2⟩ := hSw; go_simp; with_reducible rfl
                rotate_left
                try simp only [Act.put, List.setIfInBounds_toArray, List.set_cons_zero, List.set_cons_succ]
                refine wpAnyH_ready (rs := [19]) (by kernel_rfl) (by simp) ?_
                refine AllReadyH.cons rfl (fun K hK => ?_) AllReadyH.nil
                go_simp
                refine hK.out _ _ HS29.out (fun hHeld => ?_)
                clear hK K
                refine listH #[true, true, true, true, true, true, true, true, true, true, true, true, true, true, true, true, true, true, true, true] rfl ?_
                refine wpAnyH_done (by kernel_rfl) ?_ _
                clear hHeld
                generalize ((wc.setCell ⟨f, 2, none⟩ (.int .i64 ((s0 : Int) + (k0 : Int)))).setCell ⟨g, 3, none⟩ (.int .i64 (U2 : Int))).drew = wf at *
                try go_wp2
                go_roundw
                case rel =>
                  refine ⟨1, by omega, HIT19, HM19, HK19, ⟨?_⟩, HF19⟩
                  rw [if_neg (by omega)]
                  refine ⟨?_, HR19.out⟩
                  have q := HD19.out
                  rw [HU2.out, HU1.out] at q; exact q
                case measure =>
                  have q : wf.heap[r]? = some (.mapIter (some m) 1 #[0] 1) := HIT19.out
                  rw [HMZ.out, q]; simp
          · go_simp
            refine (HB1.out _).mono ?_
            rintro e xq ⟨rfl, rfl⟩
            go_wp2_with fail
            refine hK.out _ _ hHeld (fun hHeld => ?_)
            clear hK K
            refine listH #[true, true, true, true, true, true, true, true, false, true, true, true, true, true, true, false, true, true, false, false] rfl ?_
            refine wpAnyH_ready (rs := [8]) (by kernel_rfl) (by simp) ?_
            refine AllReadyH.cons rfl (fun K hK => ?_) AllReadyH.nil
            go_simp
            refine hK.out _ _ hHeld (fun hHeld => ?_)
            clear hK K
            refine listH #[true, true, true, true, true, true, true, true, true, true, true, true, true, true, true, false, true, true, false, false] rfl ?_
            refine takeH (i := 15) (v := ?_) (some 69) #[true, true, true, true, true, true, true, true, true, true, true, true, true, true, true, true, true, true, false, false] rfl rfl rfl (by kernel_rfl) (by kernel_rfl) (by kernel_rfl) (fun _ _ _ h => h) (Or.inl ⟨by rfl, ?_⟩) hHeld ?_
            rotate_left
            · intro w hSw; obtain ⟨s1, s2⟩ := hSw; go_simp; with_reducible rfl
            rotate_left
            try simp only [Act.put, List.setIfInBounds_toArray, List.set_cons_zero, List.set_cons_succ]
            refine takeH (i := 18) (v := ?_) (some 72) #[true, true, true, true, true, true, true, true, true, true, true, true, true, true, true, true, true, true, true, false] rfl rfl rfl (by kernel_rfl) (by kernel_rfl) (by kernel_rfl) (fun _ _ _ h => h) (Or.inl ⟨by rfl, ?_⟩) hHeld ?_
            rotate_left
            · intro w hSw; obtain ⟨s1, s2⟩ := hSw; go_simp; with_reducible rfl
            rotate_left
            try simp only [Act.put, List.setIfInBounds_toArray, List.set_cons_zero, List.set_cons_succ]
            refine wpAnyH_ready (rs := [19]) (by kernel_rfl) (by simp) ?_
            refine AllReadyH.cons rfl (fun K hK => ?_) AllReadyH.nil
            go_simp
            refine hK.out _ _ HS19.out (fun hHeld => ?_)
            clear hK K
            refine listH #[true, true, true, true, true, true, true, true, true, true, true, true, true, true, true, true, true, true, true, true] rfl ?_
            refine wpAnyH_done (by kernel_rfl) ?_ _
            clear hHeld
            generalize (wn.setCell ⟨g, 3, none⟩ (.int .i64 (U1 : Int))).drew = wb at *
            have f1 : wb.cell? ⟨f, 1, none⟩ = some (.slice (some ⟨a0, 0, none⟩) bs.length c0) := heap_cell HI13.out.1 1
            have f2 : wb.cell? ⟨f, 2, none⟩ = some (.int .i64 (s0 : Nat)) := heap_cell HI13.out.1 2
            have zf1 : wb.frozen? ⟨f, 1, none⟩ = false := heap_frozen HI13.out.1 1
            have hf17 : Fr (fun k => k = f) wb ((wb.setCell ⟨f, 1, none⟩ (.slice (some ⟨a0, 0, none⟩) (s0 + k0) c0)).drew) := ((Fr.refl (fun k => k = f) wb).setCell (p := ⟨f, 1, none⟩) (fun _ => rfl) _).drew
            have HR17 : Aside (((wb.setCell ⟨f, 1, none⟩ (.slice (some ⟨a0, 0, none⟩) (s0 + k0) c0)).drew).heap[f]? = some (.cells #[.int .i64 0, .slice (some ⟨a0, 0, none⟩) (s0 + k0) c0, .int .i64 (s0 : Nat)] 140 (0, 0))) := ⟨heap_set (w := wb) HI13.out.1 1 _⟩
            have HD17 := Aside.mk (hf17.heap HD13.out hdd.out.2.1)
            have HM17 := Aside.mk (hf17.heap HM13.out (fun q => hdd.out.2.2.1 q))
            have HK17 := Aside.mk (hf17.heap HK13.out (fun q => by have q2 : w.heap.size = f := q; omega))
            have HIT17 := Aside.mk (hf17.heap HIT13.out (fun q => by have q2 : r = f := q; omega))
            have HF17 := Aside.mk (HF13.out.trans hf17 (fun b hb q => .inr q))
            clear hf17
            go_wp2_with fail
            refine startH (S := fun _ => True) 21 #[false, false, false, false, false, false, false, false, false, false, false, false, false, false, false, false, false, false, false, false, false] (by kernel_rfl) rfl rfl trivial (fun hHeld => ?_)
            refine takeH (i := 0) (v := ?_) (some 92) #[true, false, false, false, false, false, false, false, false, false, false, false, false, false, false, false, false, false, false, false, false] rfl rfl rfl (by kernel_rfl) (by kernel_rfl) (by kernel_rfl) (fun _ _ _ h => h) (Or.inl ⟨by rfl, ?_⟩) hHeld ?_
            rotate_left
            · intro w hSw; obtain _ := hSw; go_simp; with_reducible rfl
            rotate_left
            try simp only [Act.put, List.setIfInBounds_toArray, List.set_cons_zero, List.set_cons_succ]
            refine takeH (i := 1) (v := ?_) (some 93) #[true, true, false, false, false, false, false, false, false, false, false, false, false, false, false, false, false, false, false, false, false] rfl rfl rfl (by kernel_rfl) (by kernel_rfl) (by kernel_rfl) (fun _ _ _ h => h) (Or.inl ⟨by rfl, ?_⟩) hHeld ?_
            rotate_left
            · intro w hSw; obtain _ := hSw; go_simp; with_reducible rfl
            rotate_left
            try simp only [Act.put, List.setIfInBounds_toArray, List.set_cons_zero, List.set_cons_succ]
            refine takeH (i := 2) (v := ?_) (some 94) #[true, true, true, false, false, false, false, false, false, false, false, false, false, false, false, false, false, false, false, false, false] rfl rfl rfl (by kernel_rfl) (by kernel_rfl) (by kernel_rfl) (fun _ _ _ h => h) (Or.inl ⟨by rfl, ?_⟩) hHeld ?_
            rotate_left
            · intro w hSw; obtain _ := hSw; go_simp; with_reducible rfl
            rotate_left
            try simp only [Act.put, List.setIfInBounds_toArray, List.set_cons_zero, List.set_cons_succ]
            refine takeH (i := 3) (v := ?_) (some 95) #[true, true, true, true, false, false, false, false, false, false, false, false, false, false, false, false, false, false, false, false, false] rfl rfl rfl (by kernel_rfl) (by kernel_rfl) (by kernel_rfl) (fun _ _ _ h => h) (Or.inl ⟨by rfl, ?_⟩) hHeld ?_
            rotate_left
            · intro w hSw; obtain _ := hSw; go_simp; with_reducible rfl
            rotate_left
            try simp only [Act.put, List.setIfInBounds_toArray, List.set_cons_zero, List.set_cons_succ]
            refine takeH (i := 5) (v := ?_) (some 97) #[true, true, true, true, false, true, false, false, false, false, false, false, false, false, false, false, false, false, false, false, false] rfl rfl rfl (by kernel_rfl) (by kernel_rfl) (by kernel_rfl) (fun _ _ _ h => h) (Or.inl ⟨by rfl, ?_⟩) hHeld ?_
            rotate_left
            · intro w hSw; obtain _ := hSw; go_simp; with_reducible rfl
            rotate_left
            try simp only [Act.put, List.setIfInBounds_toArray, List.set_cons_zero, List.set_cons_succ]
            refine takeH (i := 6) (v := ?_) (some 98) #[true, true, true, true, false, true, true, false, false, false, false, false, false, false, false, false, false, false, false, false, false] rfl rfl rfl (by kernel_rfl) (by kernel_rfl) (by kernel_rfl) (fun _ _ _ h => h) (Or.inl ⟨by rfl, ?_⟩) hHeld ?_
            rotate_left
            · intro w hSw; obtain _ := hSw; go_simp; with_reducible rfl
            rotate_left
            try simp only [Act.put, List.setIfInBounds_toArray, List.set_cons_zero, List.set_cons_succ]
            refine takeH (i := 7) (v := .int .i64 (k0 : Nat)) (some 99) #[true, true, true, true, false, true, true, true, false, false, false, false, false, false, false, false, false, false, false, false, false] rfl rfl rfl (by kernel_rfl) (by kernel_rfl) (by kernel_rfl) (fun _ _ _ h => h) (Or.inl ⟨by rfl, fun w hSw => ?_⟩) hHeld ?_
            · obtain _ := hSw; go_simp; (intros; omega)
            try simp only [Act.put, List.setIfInBounds_toArray, List.set_cons_zero, List.set_cons_succ]
            refine takeH (i := 8) (v := ?_) (some 100) #[true, true, true, true, false, true, true, true, true, false, false, false, false, false, false, false, false, false, false, false, false] rfl rfl rfl (by kernel_rfl) (by kernel_rfl) (by kernel_rfl) (fun _ _ _ h => h) (Or.inl ⟨by rfl, ?_⟩) hHeld ?_
            rotate_left
            · intro w hSw; obtain _ := hSw; go_simp; with_reducible rfl
            rotate_left
            try simp only [Act.put, List.setIfInBounds_toArray, List.set_cons_zero, List.set_cons_succ]
            refine takeH (i := 9) (v := ?_) (some 101) #[true, true, true, true, false, true, true, true, true, true, false, false, false, false, false, false, false, false, false, false, false] rfl rfl rfl (by kernel_rfl) (by kernel_rfl) (by kernel_rfl) (fun _ _ _ h => h) (Or.inl ⟨by rfl, ?_⟩) hHeld ?_
            rotate_left
            · intro w hSw; obtain _ := hSw; go_simp; with_reducible rfl
            rotate_left
            try simp only [Act.put, List.setIfInBounds_toArray, List.set_cons_zero, List.set_cons_succ]
            refine takeH (i := 10) (v := ?_) (some 102) #[true, true, true, true, false, true, true, true, true, true, true, false, false, false, false, false, false, false, false, false, false] rfl rfl rfl (by kernel_rfl) (by kernel_rfl) (by kernel_rfl) (fun _ _ _ h => h) (Or.inl ⟨by rfl, ?_⟩) hHeld ?_
            rotate_left
            · intro w hSw; obtain _ := hSw; go_simp; with_reducible rfl
            rotate_left
            try simp only [Act.put, List.setIfInBounds_toArray, List.set_cons_zero, List.set_cons_succ]
            refine takeH (i := 13) (v := ?_) (some 105) #[true, true, true, true, false, true, true, true, true, true, true, false, false, true, false, false, false, false, false, false, false] rfl rfl rfl (by kernel_rfl) (by kernel_rfl) (by kernel_rfl) (fun _ _ _ h => h) (Or.inl ⟨by rfl, ?_⟩) hHeld ?_
            rotate_left
            · intro w hSw; obtain _ := hSw; go_simp; with_reducible rfl
            rotate_left
            try simp only [Act.put, List.setIfInBounds_toArray, List.set_cons_zero, List.set_cons_succ]
            refine wpAnyH_ready (rs := [4, 11]) (by kernel_rfl) (by simp) ?_
            refine AllReadyH.cons rfl (fun K hK => ?_) (AllReadyH.cons rfl (fun K hK => ?_) AllReadyH.nil)
            · go_simp
              refine hK.out _ _ hHeld (fun hHeld => ?_)
              clear hK K
              refine listH #[true, true, true, true, true, true, true, true, true, true, true, false, false, true, false, false, false, false, false, false, false] rfl ?_
              refine wpAnyH_ready (rs := [11]) (by kernel_rfl) (by simp) ?_
              refine AllReadyH.cons rfl (fun K hK => ?_) AllReadyH.nil
              go_simp
              refine hK.out _ _ hHeld (fun hHeld => ?_)
              clear hK K
              refine listH #[true, true, true, true, true, true, true, true, true, true, true, true, false, true, false, false, false, false, false, false, false] rfl ?_
              refine takeH (i := 12) (v := ?_) (some 104) #[true, true, true, true, true, true, true, true, true, true, true, true, true, true, false, false, false, false, false, false, false] rfl rfl rfl (by kernel_rfl) (by kernel_rfl) (by kernel_rfl) (fun _ _ _ h => h) (Or.inl ⟨by rfl, ?_⟩) hHeld ?_
              rotate_left
              · intro w hSw; obtain _ := hSw; go_simp; with_reducible rfl
              rotate_left
              try simp only [Act.put, List.setIfInBounds_toArray, List.set_cons_zero, List.set_cons_succ]
              refine takeH (i := 14) (v := ?_) (some 106) #[true, true, true, true, true, true, true, true, true, true, true, true, true, true, true, false, false, false, false, false, false] rfl rfl rfl (by kernel_rfl) (by kernel_rfl) (by kernel_rfl) (fun _ _ _ h => h) (Or.inl ⟨by rfl, ?_⟩) hHeld ?_
              rotate_left
              · intro w hSw; obtain _ := hSw; go_simp; with_reducible rfl
              rotate_left
              try simp only [Act.put, List.setIfInBounds_toArray, List.set_cons_zero, List.set_cons_succ]
              refine takeH (i := 15) (v := .int .i64 (k0 : Nat)) (some 107) #[true, true, true, true, true, true, true, true, true, true, true, true, true, true, true, true, false, false, false, false, false] rfl rfl rfl (by kernel_rfl) (by kernel_rfl) (by kernel_rfl) (fun _ _ _ h => h) (Or.inl ⟨by rfl, fun w hSw => ?_⟩) hHeld ?_
              · obtain _ := hSw; go_simp; (intros; omega)
              try simp only [Act.put, List.setIfInBounds_toArray, List.set_cons_zero, List.set_cons_succ]
              refine takeH (i := 16) (v := ?_) (some 108) #[true, true, true, true, true, true, true, true, true, true, true, true, true, true, true, true, true, false, false, false, false] rfl rfl rfl (by kernel_rfl) (by kernel_rfl) (by kernel_rfl) (fun _ _ _ h => h) (Or.inl ⟨by rfl, ?_⟩) hHeld ?_
              rotate_left
              · intro w hSw; obtain _ := hSw; go_simp; with_reducible rfl
              rotate_left
              try simp only [Act.put, List.setIfInBounds_toArray, List.set_cons_zero, List.set_cons_succ]
              refine takeH (i := 17) (v := ?_) (some 109) #[true, true, true, true, true, true, true, true, true, true, true, true, true, true, true, true, true, true, false, false, false] rfl rfl rfl (by kernel_rfl) (by kernel_rfl) (by kernel_rfl) (fun _ _ _ h => h) (Or.inl ⟨by rfl, ?_⟩) hHeld ?_
              rotate_left
              · intro w hSw; obtain _ := hSw; go_simp; with_reducible rfl
              rotate_left
              try simp only [Act.put, List.setIfInBounds_toArray, List.set_cons_zero, List.set_cons_succ]
              refine takeH (i := 18) (v := ?_) (some 110) #[true, true, true, true, true, true, true, true, true, true, true, true, true, true, true, true, true, true, true, false, false] rfl rfl rfl (by kernel_rfl) (by kernel_rfl) (by kernel_rfl) (fun _ _ _ h => h) (Or.inl ⟨by rfl, ?_⟩) hHeld ?_
              rotate_left
              · intro w hSw; obtain _ := hSw; go_simp; with_reducible rfl
              rotate_left
              try simp only [Act.put, List.setIfInBounds_toArray, List.set_cons_zero, List.set_cons_succ]
              refine takeH (i := 19) (v := ?_) (some 111) #[true, true, true, true, true, true, true, true, true, true, true, true, true, true, true, true, true, true, true, true, false] rfl rfl rfl (by kernel_rfl) (by kernel_rfl) (by kernel_rfl) (fun _ _ _ h => h) (Or.inl ⟨by rfl, ?_⟩) hHeld ?_
              rotate_left
              · intro w hSw; obtain _ := hSw; go_simp; with_reducible rfl
              rotate_left
              try simp only [Act.put, List.setIfInBounds_toArray, List.set_cons_zero, List.set_cons_succ]
              refine wpAnyH_ready (rs := [20]) (by kernel_rfl) (by simp) ?_
              refine AllReadyH.cons rfl (fun K hK => ?_) AllReadyH.nil
              go_simp
              refine hK.out _ _ trivial (fun hHeld => ?_)
              clear hK K
              refine listH #[true, true, true, true, true, true, true, true, true, true, true, true, true, true, true, true, true, true, true, true, true] rfl ?_
              refine wpAnyH_done (by kernel_rfl) ?_ _
              clear hHeld
              generalize (wb.setCell ⟨f, 1, none⟩ (.slice (some ⟨a0, 0, none⟩) (s0 + k0) c0)).drew = wc at *
              have f1c : wc.cell? ⟨f, 1, none⟩ = some (.slice (some ⟨a0, 0, none⟩) (s0 + k0) c0) := heap_cell HR17.out 1
              have f2c : wc.cell? ⟨f, 2, none⟩ = some (.int .i64 (s0 : Nat)) := heap_cell HR17.out 2
              have zf2c : wc.frozen? ⟨f, 2, none⟩ = false := heap_frozen HR17.out 2
              have hf18 : Fr (fun k => k = f) wc (wc.setCell ⟨f, 2, none⟩ (.int .i64 ((s0 : Int) + (k0 : Int)))) := (Fr.refl (fun k => k = f) wc).setCell (p := ⟨f, 2, none⟩) (fun _ => rfl) _
              have hR18 : (wc.setCell ⟨f, 2, none⟩ (.int .i64 ((s0 : Int) + (k0 : Int)))).heap[f]? = some (.cells #[.int .i64 0, .slice (some ⟨a0, 0, none⟩) (s0 + k0) c0, .int .i64 ((s0 : Int) + (k0 : Int))] 140 (0, 0)) := heap_set HR17.out 2 _
              have hD18 := hf18.heap HD17.out hdd.out.2.1
              have HId19 : Aside ((wc.setCell ⟨f, 2, none⟩ (.int .i64 ((s0 : Int) + (k0 : Int)))).drew.heap[f]? = some (.cells #[.int .i64 0, .slice (some ⟨a0, 0, none⟩) (s0 + k0) c0, .int .i64 ((s0 : Int) + (k0 : Int))] 140 (0, 0))) := ⟨hR18⟩
              have u3c : wc.cell? ⟨g, 3, none⟩ = some (.int .i64 (U1 : Nat)) := heap_cell HD17.out 3
              have z3c : wc.frozen? ⟨g, 3, none⟩ = false := heap_frozen HD17.out 3
              have u3d : (wc.setCell ⟨f, 2, none⟩ (.int .i64 ((s0 : Int) + (k0 : Int)))).cell? ⟨g, 3, none⟩ = some (.int .i64 (U1 : Nat)) := heap_cell hD18 3
              have z3d : (wc.setCell ⟨f, 2, none⟩ (.int .i64 ((s0 : Int) + (k0 : Int)))).frozen? ⟨g, 3, none⟩ = false := heap_frozen hD18 3
              have hf19 : Fr (fun k => k = g) (wc.setCell ⟨f, 2, none⟩ (.int .i64 ((s0 : Int) + (k0 : Int)))) (((wc.setCell ⟨f, 2, none⟩ (.int .i64 ((s0 : Int) + (k0 : Int)))).setCell ⟨g, 3, none⟩ (.int .i64 (U2 : Int))).drew) := ((Fr.refl (fun k => k = g) _).setCell (p := ⟨g, 3, none⟩) (fun _ => rfl) _).drew
              have HD19 : Aside (isD (((wc.setCell ⟨f, 2, none⟩ (.int .i64 ((s0 : Int) + (k0 : Int)))).setCell ⟨g, 3, none⟩ (.int .i64 (U2 : Int))).drew) g m h c U2 uc root st fuse down) := ⟨heap_set (w := wc.setCell ⟨f, 2, none⟩ (.int .i64 ((s0 : Int) + (k0 : Int)))) hD18 3 _⟩
              have HR19 := Aside.mk (hf19.heap hR18 (fun q => hdd.out.2.1 q.symm))
              have HM19 := Aside.mk (hf19.heap (hf18.heap HM17.out (fun q => hdd.out.2.2.1 q)) (fun q => hdd.out.1 q.symm))
              have HK19 := Aside.mk (hf19.heap (hf18.heap HK17.out (fun q => by have q2 : w.heap.size = f := q; omega)) (fun q => by have q2 : w.heap.size = g := q; omega))
              have HIT19 := Aside.mk (hf19.heap (hf18.heap HIT17.out (fun q => by have q2 : r = f := q; omega)) (fun q => by have q2 : r = g := q; omega))
              have HF19 := Aside.mk ((HF17.out.trans hf18 (fun b hb q => .inr q)).trans hf19 (fun b hb q => .inl q))
              have HS29 : Aside ((((wc.setCell ⟨f, 2, none⟩ (.int .i64 ((s0 : Int) + (k0 : Int)))).setCell ⟨g, 3, none⟩ (.int .i64 (U2 : Int))).drew).cell? ⟨f, 0, none⟩ = some (.int .i64 0) ∧ (((wc.setCell ⟨f, 2, none⟩ (.int .i64 ((s0 : Int) + (k0 : Int)))).setCell ⟨g, 3, none⟩ (.int .i64 (U2 : Int))).drew).cell? ⟨f, 1, none⟩ = some (.slice (some ⟨a0, 0, none⟩) (s0 + k0) c0)) := ⟨⟨heap_cell HR19.out 0, heap_cell HR19.out 1⟩⟩
              clear hf18 hR18 hD18 hf19
              go_wp2_with fail
              refine startH (S := fun w' => w'.cell? ⟨f, 0, none⟩ = some (.int .i64 0) ∧ w'.cell? ⟨f, 1, none⟩ = some (.slice (some ⟨a0, 0, none⟩) (s0 + k0) c0)) 20 #[false, false, false, false, false, false, false, false, false, false, false, false, false, false, false, false, false, false, false, false] (by kernel_rfl) rfl rfl ⟨heap_cell HId19.out 0, heap_cell HId19.out 1⟩ (fun hHeld => ?_)
              refine takeH (i := 0) (v := ?_) (some 120) #[true, false, false, false, false, false, false, false, false, false, false, false, false, false, false, false, false, false, false, false] rfl rfl rfl (by kernel_rfl) (by kernel_rfl) (by kernel_rfl) (fun _ _ _ h => h) (Or.inl ⟨by rfl, ?_⟩) hHeld ?_
              rotate_left
              · intro w hSw; obtain ⟨s1, s2⟩ := hSw; go_simp; with_reducible rfl
              rotate_left
              try simp only [Act.put, List.setIfInBounds_toArray, List.set_cons_zero, List.set_cons_succ]
              refine takeH (i := 1) (v := ?_) (some 121) #[true, true, false, false, false, false, false, false, false, false, false, false, false, false, false, false, false, false, false, false] rfl rfl rfl (by kernel_rfl) (by kernel_rfl) (by kernel_rfl) (fun _ _ _ h => h) (Or.inl ⟨by rfl, ?_⟩) hHeld ?_
              rotate_left
              · intro w hSw; obtain ⟨s1, s2⟩ := hSw; go_simp; with_reducible rfl
              rotate_left
              try simp only [Act.put, List.setIfInBounds_toArray, List.set_cons_zero, List.set_cons_succ]
              refine takeH (i := 2) (v := ?_) (some 122) #[true, true, true, false, false, false, false, false, false, false, false, false, false, false, false, false, false, false, false, false] rfl rfl rfl (by kernel_rfl) (by kernel_rfl) (by kernel_rfl) (fun _ _ _ h => h) (Or.inl ⟨by rfl, ?_⟩) hHeld ?_
              rotate_left
              · intro w hSw; obtain ⟨s1, s2⟩ := hSw; go_simp; with_reducible rfl
              rotate_left
              try simp only [Act.put, List.setIfInBounds_toArray, List.set_cons_zero, List.set_cons_succ]
              refine takeH (i := 3) (v := ?_) (some 123) #[true, true, true, true, false, false, false, false, false, false, false, false, false, false, false, false, false, false, false, false] rfl rfl rfl (by kernel_rfl) (by kernel_rfl) (by kernel_rfl) (fun _ _ _ h => h) (Or.inl ⟨by rfl, ?_⟩) hHeld ?_
              rotate_left
              · intro w hSw; obtain ⟨s1, s2⟩ := hSw; go_simp; with_reducible rfl
              rotate_left
              try simp only [Act.put, List.setIfInBounds_toArray, List.set_cons_zero, List.set_cons_succ]
              refine takeH (i := 4) (v := ?_) (some 124) #[true, true, true, true, true, false, false, false, false, false, false, false, false, false, false, false, false, false, false, false] rfl rfl rfl (by kernel_rfl) (by kernel_rfl) (by kernel_rfl) (fun _ _ _ h => h) (Or.inl ⟨by rfl, ?_⟩) hHeld ?_
              rotate_left
              · intro w hSw; obtain ⟨s1, s2⟩ := hSw; go_simp; with_reducible rfl
              rotate_left
              try simp only [Act.put, List.setIfInBounds_toArray, List.set_cons_zero, List.set_cons_succ]
              refine takeH (i := 5) (v := ?_) (some 125) #[true, true, true, true, true, true, false, false, false, false, false, false, false, false, false, false, false, false, false, false] rfl rfl rfl (by kernel_rfl) (by kernel_rfl) (by kernel_rfl) (fun _ _ _ h => h) (Or.inl ⟨by rfl, ?_⟩) hHeld ?_
              rotate_left
              · intro w hSw; obtain ⟨s1, s2⟩ := hSw; go_simp; with_reducible rfl
              rotate_left
              try simp only [Act.put, List.setIfInBounds_toArray, List.set_cons_zero, List.set_cons_succ]
              refine takeH (i := 6) (v := ?_) (some 126) #[true, true, true, true, true, true, true, false, false, false, false, false, false, false, false, false, false, false, false, false] rfl rfl rfl (by kernel_rfl) (by kernel_rfl) (by kernel_rfl) (fun _ _ _ h => h) (Or.inl ⟨by rfl, ?_⟩) hHeld ?_
              rotate_left
              · intro w hSw; obtain ⟨s1, s2⟩ := hSw; go_simp; with_reducible rfl
              rotate_left
              try simp only [Act.put, List.setIfInBounds_toArray, List.set_cons_zero, List.set_cons_succ]
              refine takeH (i := 7) (v := ?_) (some 127) #[true, true, true, true, true, true, true, true, false, false, false, false, false, false, false, false, false, false, false, false] rfl rfl rfl (by kernel_rfl) (by kernel_rfl) (by kernel_rfl) (fun _ _ _ h => h) (Or.inl ⟨by rfl, ?_⟩) hHeld ?_
              rotate_left
              · intro w hSw; obtain ⟨s1, s2⟩ := hSw; go_simp; with_reducible rfl
              rotate_left
              try simp only [Act.put, List.setIfInBounds_toArray, List.set_cons_zero, List.set_cons_succ]
              refine takeH (i := 9) (v := ?_) (some 129) #[true, true, true, true, true, true, true, true, false, true, false, false, false, false, false, false, false, false, false, false] rfl rfl rfl (by kernel_rfl) (by kernel_rfl) (by kernel_rfl) (fun _ _ _ h => h) (Or.inl ⟨by rfl, ?_⟩) hHeld ?_
              rotate_left
              · intro w hSw; obtain ⟨s1, s2⟩ := hSw; go_simp; with_reducible rfl
              rotate_left
              try simp only [Act.put, List.setIfInBounds_toArray, List.set_cons_zero, List.set_cons_succ]
              refine takeH (i := 10) (v := ?_) (some 130) #[true, true, true, true, true, true, true, true, false, true, true, false, false, false, false, false, false, false, false, false] rfl rfl rfl (by kernel_rfl) (by kernel_rfl) (by kernel_rfl) (fun _ _ _ h => h) (Or.inl ⟨by rfl, ?_⟩) hHeld ?_
              rotate_left
              · intro w hSw; obtain ⟨s1, s2⟩ := hSw; go_simp; with_reducible rfl
              rotate_left
              try simp only [Act.put, List.setIfInBounds_toArray, List.set_cons_zero, List.set_cons_succ]
              refine takeH (i := 11) (v := ?_) (some 131) #[true, true, true, true, true, true, true, true, false, true, true, true, false, false, false, false, false, false, false, false] rfl rfl rfl (by kernel_rfl) (by kernel_rfl) (by kernel_rfl) (fun _ _ _ h => h) (Or.inl ⟨by rfl, ?_⟩) hHeld ?_
              rotate_left
              · intro w hSw; obtain ⟨s1, s2⟩ := hSw; go_simp; with_reducible rfl
              rotate_left
              try simp only [Act.put, List.setIfInBounds_toArray, List.set_cons_zero, List.set_cons_succ]
              refine takeH (i := 12) (v := ?_) (some 132) #[true, true, true, true, true, true, true, true, false, true, true, true, true, false, false, false, false, false, false, false] rfl rfl rfl (by kernel_rfl) (by kernel_rfl) (by kernel_rfl) (fun _ _ _ h => h) (Or.inl ⟨by rfl, ?_⟩) hHeld ?_
              rotate_left
              · intro w hSw; obtain ⟨s1, s2⟩ := hSw; go_simp; with_reducible rfl
              rotate_left
              try simp only [Act.put, List.setIfInBounds_toArray, List.set_cons_zero, List.set_cons_succ]
              refine takeH (i := 13) (v := ?_) (some 133) #[true, true, true, true, true, true, true, true, false, true, true, true, true, true, false, false, false, false, false, false] rfl rfl rfl (by kernel_rfl) (by kernel_rfl) (by kernel_rfl) (fun _ _ _ h => h) (Or.inl ⟨by rfl, ?_⟩) hHeld ?_
              rotate_left
              · intro w hSw; obtain ⟨s1, s2⟩ := hSw; go_simp; with_reducible rfl
              rotate_left
              try simp only [Act.put, List.setIfInBounds_toArray, List.set_cons_zero, List.set_cons_succ]
              refine takeH (i := 16) (v := ?_) (some 136) #[true, true, true, true, true, true, true, true, false, true, true, true, true, true, false, false, true, false, false, false] rfl rfl rfl (by kernel_rfl) (by kernel_rfl) (by kernel_rfl) (fun _ _ _ h => h) (Or.inl ⟨by rfl, ?_⟩) hHeld ?_
              rotate_left
              · intro w hSw; obtain ⟨s1, s2⟩ := hSw; go_simp; with_reducible rfl
              rotate_left
              try simp only [Act.put, List.setIfInBounds_toArray, List.set_cons_zero, List.set_cons_succ]
              refine takeH (i := 17) (v := ?_) (some 137) #[true, true, true, true, true, true, true, true, false, true, true, true, true, true, false, false, true, true, false, false] rfl rfl rfl (by kernel_rfl) (by kernel_rfl) (by kernel_rfl) (fun _ _ _ h => h) (Or.inl ⟨by rfl, ?_⟩) hHeld ?_
              rotate_left
              · intro w hSw; obtain ⟨s1, s2⟩ := hSw; go_simp; with_reducible rfl
              rotate_left
              try simp only [Act.put, List.setIfInBounds_toArray, List.set_cons_zero, List.set_cons_succ]
              refine wpAnyH_ready (rs := [8, 14]) (by kernel_rfl) (by simp) ?_
              refine AllReadyH.cons rfl (fun K hK => ?_) (AllReadyH.cons rfl (fun K hK => ?_) AllReadyH.nil)
              · go_simp
                refine hK.out _ _ hHeld (fun hHeld => ?_)
                clear hK K
                refine listH #[true, true, true, true, true, true, true, true, true, true, true, true, true, true, false, false, true, true, false, false] rfl ?_
                refine wpAnyH_ready (rs := [14]) (by kernel_rfl) (by simp) ?_
                refine AllReadyH.cons rfl (fun K hK => ?_) AllReadyH.nil
                go_simp
                refine (HB2.out _).mono ?_
                rintro e xq ⟨rfl, rfl⟩
                go_wp2_with fail
                refine hK.out _ _ hHeld (fun hHeld => ?_)
                clear hK K
                refine listH #[true, true, true, true, true, true, true, true, true, true, true, true, true, true, true, false, true, true, false, false] rfl ?_
                refine takeH (i := 15) (v := ?_) (some 135) #[true, true, true, true, true, true, true, true, true, true, true, true, true, true, true, true, true, true, false, false] rfl rfl rfl (by kernel_rfl) (by kernel_rfl) (by kernel_rfl) (fun _ _ _ h => h) (Or.inl ⟨by rfl, ?_⟩) hHeld ?_
                rotate_left
                · intro w hSw; obtain ⟨s1, s2⟩ := hSw; go_simp; with_reducible rfl
                rotate_left
                try simp only [Act.put, List.setIfInBounds_toArray, List.set_cons_zero, List.set_cons_succ]
                refine takeH (i := 18) (v := ?_) (some 138) #[true, true, true, true, true, true, true, true, true, true, true, true, true, true, true, true, true, true, true, false] rfl rfl rfl (by kernel_rfl) (by kernel_rfl) (by kernel_rfl) (fun _ _ _ h => h) (Or.inl ⟨by rfl, ?_⟩) hHeld ?_
                rotate_left
                · intro w hSw; obtain ⟨s1, s2⟩ := hSw; go_simp; with_reducible rfl
                rotate_left
                try simp only [Act.put, List.setIfInBounds_toArray, List.set_cons_zero, List.set_cons_succ]
                refine wpAnyH_ready (rs := [19]) (by kernel_rfl) (by simp) ?_
                refine AllReadyH.cons rfl (fun K hK => ?_) AllReadyH.nil
                go_simp
                refine hK.out _ _ HS29.out (fun hHeld => ?_)
                clear hK K
                refine listH #[true, true, true, true, true, true, true, true, true, true, true, true, true, true, true, true, true, true, true, true] rfl ?_
                refine wpAnyH_done (by kernel_rfl) ?_ _
                clear hHeld
                generalize ((wc.setCell ⟨f, 2, none⟩ (.int .i64 ((s0 : Int) + (k0 : Int)))).setCell ⟨g, 3, none⟩ (.int .i64 (U2 : Int))).drew = wf at *
                try go_wp2
                go_roundw
                case rel =>
                  refine ⟨1, by omega, HIT19, HM19, HK19, ⟨?_⟩, HF19⟩
                  rw [if_neg (by omega)]
                  refine ⟨?_, HR19.out⟩
                  have q := HD19.out
                  rw [HU2.out, HU1.out] at q; exact q
                case measure =>
                  have q : wf.heap[r]? = some (.mapIter (some m) 1 #[0] 1) := HIT19.out
                  rw [HMZ.out, q]; simp
              · go_simp
                refine (HB2.out _).mono ?_
                rintro e xq ⟨rfl, rfl⟩
                go_wp2_with fail
                refine hK.out _ _ hHeld (fun hHeld => ?_)
                clear hK K
                refine listH #[true, true, true, true, true, true, true, true, false, true, true, true, true, true, true, false, true, true, false, false] rfl ?_
                refine wpAnyH_ready (rs := [8]) (by kernel_rfl) (by simp) ?_
                refine AllReadyH.cons rfl (fun K hK => ?_) AllReadyH.nil
                go_simp
                refine hK.out _ _ hHeld (fun hHeld => ?_)
                clear hK K
                refine listH #[true, true, true, true, true, true, true, true, true, true, true, true, true, true, true, false, true, true, false, false] rfl ?_
                refine takeH (i := 15) (v := ?_) (some 135) #[true, true, true, true, true, true, true, true, true, true, true, true, true, true, true, true, true, true, false, false] rfl rfl rfl (by kernel_rfl) (by kernel_rfl) (by kernel_rfl) (fun _ _ _ h => h) (Or.inl ⟨by rfl, ?_⟩) hHeld ?_
                rotate_left
                · intro w hSw; obtain ⟨s1, s2⟩ := hSw; go_simp; with_reducible rfl
                rotate_left
                try simp only [Act.put, List.setIfInBounds_toArray, List.set_cons_zero, List.set_cons_succ]
                refine takeH (i := 18) (v := ?_) (some 138) #[true, true, true, true, true, true, true, true, true, true, true, true, true, true, true, true, true, true, true, false] rfl rfl rfl (by kernel_rfl) (by kernel_rfl) (by kernel_rfl) (fun _ _ _ h => h) (Or.inl ⟨by rfl, ?_⟩) hHeld ?_
                rotate_left
                · intro w hSw; obtain ⟨s1, s2⟩ := hSw; go_simp; with_reducible rfl
                rotate_left
                try simp only [Act.put, List.setIfInBounds_toArray, List.set_cons_zero, List.set_cons_succ]
                refine wpAnyH_ready (rs := [19]) (by kernel_rfl) (by simp) ?_
                refine AllReadyH.cons rfl (fun K hK => ?_) AllReadyH.nil
                go_simp
                refine hK.out _ _ HS29.out (fun hHeld => ?_)
                clear hK K
                refine listH #[true, true, true, true, true, true, true, true, true, true, true, true, true, true, true, true, true, true, true, true] rfl ?_
                refine wpAnyH_done (by kernel_rfl) ?_ _
                clear hHeld
                generalize ((wc.setCell ⟨f, 2, none⟩ (.int .i64 ((s0 : Int) + (k0 : Int)))).setCell ⟨g, 3, none⟩ (.int .i64 (U2 : Int))).drew = wf at *
                try go_wp2
                go_roundw
                case rel =>
                  refine ⟨1, by omega, HIT19, HM19, HK19, ⟨?_⟩, HF19⟩
                  rw [if_neg (by omega)]
                  refine ⟨?_, HR19.out⟩
                  have q := HD19.out
                  rw [HU2.out, HU1.out] at q; exact q
                case measure =>
                  have q : wf.heap[r]? = some (.mapIter (some m) 1 #[0] 1) := HIT19.out
                  rw [HMZ.out, q]; simp
            · go_simp
              refine hK.out _ _ hHeld (fun hHeld => ?_)
              clear hK K
              refine listH #[true, true, true, true, false, true, true, true, true, true, true, true, false, true, false, false, false, false, false, false, false] rfl ?_
              refine takeH (i := 12) (v := ?_) (some 104) #[true, true, true, true, false, true, true, true, true, true, true, true, true, true, false, false, false, false, false, false, false] rfl rfl rfl (by kernel_rfl) (by kernel_rfl) (by kernel_rfl) (fun _ _ _ h => h) (Or.inl ⟨by rfl, ?_⟩) hHeld ?_
              rotate_left
              · intro w hSw; obtain _ := hSw; go_simp; with_reducible rfl
              rotate_left
              try simp only [Act.put, List.setIfInBounds_toArray, List.set_cons_zero, List.set_cons_succ]
              refine takeH (i := 14) (v := ?_) (some 106) #[true, true, true, true, false, true, true, true, true, true, true, true, true, true, true, false, false, false, false, false, false] rfl rfl rfl (by kernel_rfl) (by kernel_rfl) (by kernel_rfl) (fun _ _ _ h => h) (Or.inl ⟨by rfl, ?_⟩) hHeld ?_
              rotate_left
              · intro w hSw; obtain _ := hSw; go_simp; with_reducible rfl
              rotate_left
              try simp only [Act.put, List.setIfInBounds_toArray, List.set_cons_zero, List.set_cons_succ]
              refine takeH (i := 15) (v := .int .i64 (k0 : Nat)) (some 107) #[true, true, true, true, false, true, true, true, true, true, true, true, true, true, true, true, false, false, false, false, false] rfl rfl rfl (by kernel_rfl) (by kernel_rfl) (by kernel_rfl) (fun _ _ _ h => h) (Or.inl ⟨by rfl, fun w hSw => ?_⟩) hHeld ?_
              · obtain _ := hSw; go_simp; (intros; omega)
              try simp only [Act.put, List.setIfInBounds_toArray, List.set_cons_zero, List.set_cons_succ]
              refine takeH (i := 16) (v := ?_) (some 108) #[true, true, true, true, false, true, true, true, true, true, true, true, true, true, true, true, true, false, false, false, false] rfl rfl rfl (by kernel_rfl) (by kernel_rfl) (by kernel_rfl) (fun _ _ _ h => h) (Or.inl ⟨by rfl, ?_⟩) hHeld ?_
              rotate_left
              · intro w hSw; obtain _ := hSw; go_simp; with_reducible rfl
              rotate_left
              try simp only [Act.put, List.setIfInBounds_toArray, List.set_cons_zero, List.set_cons_succ]
              refine wpAnyH_ready (rs := [4]) (by kernel_rfl) (by simp) ?_
              refine AllReadyH.cons rfl (fun K hK => ?_) AllReadyH.nil
              go_simp
              refine hK.out _ _ hHeld (fun hHeld => ?_)
              clear hK K
              refine listH #[true, true, true, true, true, true, true, true, true, true, true, true, true, true, true, true, true, false, false, false, false] rfl ?_
              refine takeH (i := 17) (v := ?_) (some 109) #[true, true, true, true, true, true, true, true, true, true, true, true, true, true, true, true, true, true, false, false, false] rfl rfl rfl (by kernel_rfl) (by kernel_rfl) (by kernel_rfl) (fun _ _ _ h => h) (Or.inl ⟨by rfl, ?_⟩) hHeld ?_
              rotate_left
              · intro w hSw; obtain _ := hSw; go_simp; with_reducible rfl
              rotate_left
              try simp only [Act.put, List.setIfInBounds_toArray, List.set_cons_zero, List.set_cons_succ]
              refine takeH (i := 18) (v := ?_) (some 110) #[true, true, true, true, true, true, true, true, true, true, true, true, true, true, true, true, true, true, true, false, false] rfl rfl rfl (by kernel_rfl) (by kernel_rfl) (by kernel_rfl) (fun _ _ _ h => h) (Or.inl ⟨by rfl, ?_⟩) hHeld ?_
              rotate_left
              · intro w hSw; obtain _ := hSw; go_simp; with_reducible rfl
              rotate_left
              try simp only [Act.put, List.setIfInBounds_toArray, List.set_cons_zero, List.set_cons_succ]
              refine takeH (i := 19) (v := ?_) (some 111) #[true, true, true, true, true, true, true, true, true, true, true, true, true, true, true, true, true, true, true, true, false] rfl rfl rfl (by kernel_rfl) (by kernel_rfl) (by kernel_rfl) (fun _ _ _ h => h) (Or.inl ⟨by rfl, ?_⟩) hHeld ?_
              rotate_left
              · intro w hSw; obtain _ := hSw; go_simp; with_reducible rfl
              rotate_left
              try simp only [Act.put, List.setIfInBounds_toArray, List.set_cons_zero, List.set_cons_succ]
              refine wpAnyH_ready (rs := [20]) (by kernel_rfl) (by simp) ?_
              refine AllReadyH.cons rfl (fun K hK => ?_) AllReadyH.nil
              go_simp
              refine hK.out _ _ trivial (fun hHeld => ?_)
              clear hK K
              refine listH #[true, true, true, true, true, true, true, true, true, true, true, true, true, true, true, true, true, true, true, true, true] rfl ?_
              refine wpAnyH_done (by kernel_rfl) ?_ _
              clear hHeld
              generalize (wb.setCell ⟨f, 1, none⟩ (.slice (some ⟨a0, 0, none⟩) (s0 + k0) c0)).drew = wc at *
              have f1c : wc.cell? ⟨f, 1, none⟩ = some (.slice (some ⟨a0, 0, none⟩) (s0 + k0) c0) := heap_cell HR17.out 1
              have f2c : wc.cell? ⟨f, 2, none⟩ = some (.int .i64 (s0 : Nat)) := heap_cell HR17.out 2
              have zf2c : wc.frozen? ⟨f, 2, none⟩ = false := heap_frozen HR17.out 2
              have hf18 : Fr (fun k => k = f) wc (wc.setCell ⟨f, 2, none⟩ (.int .i64 ((s0 : Int) + (k0 : Int)))) := (Fr.refl (fun k => k = f) wc).setCell (p := ⟨f, 2, none⟩) (fun _ => rfl) _
              have hR18 : (wc.setCell ⟨f, 2, none⟩ (.int .i64 ((s0 : Int) + (k0 : Int)))).heap[f]? = some (.cells #[.int .i64 0, .slice (some ⟨a0, 0, none⟩) (s0 + k0) c0, .int .i64 ((s0 : Int) + (k0 : Int))] 140 (0, 0)) := heap_set HR17.out 2 _
              have hD18 := hf18.heap HD17.out hdd.out.2.1
              have HId19 : Aside ((wc.setCell ⟨f, 2, none⟩ (.int .i64 ((s0 : Int) + (k0 : Int)))).drew.heap[f]? = some (.cells #[.int .i64 0, .slice (some ⟨a0, 0, none⟩) (s0 + k0) c0, .int .i64 ((s0 : Int) + (k0 : Int))] 140 (0, 0))) := ⟨hR18⟩
              have u3c : wc.cell? ⟨g, 3, none⟩ = some (.int .i64 (U1 : Nat)) := heap_cell HD17.out 3
              have z3c : wc.frozen? ⟨g, 3, none⟩ = false := heap_frozen HD17.out 3
              have u3d : (wc.setCell ⟨f, 2, none⟩ (.int .i64 ((s0 : Int) + (k0 : Int)))).cell? ⟨g, 3, none⟩ = some (.int .i64 (U1 : Nat)) := heap_cell hD18 3
              have z3d : (wc.setCell ⟨f, 2, none⟩ (.int .i64 ((s0 : Int) + (k0 : Int)))).frozen? ⟨g, 3, none⟩ = false := heap_frozen hD18 3
              have hf19 : Fr (fun k => k = g) (wc.setCell ⟨f, 2, none⟩ (.int .i64 ((s0 : Int) + (k0 : Int)))) (((wc.setCell ⟨f, 2, none⟩ (.int .i64 ((s0 : Int) + (k0 : Int)))).setCell ⟨g, 3, none⟩ (.int .i64 (U2 : Int))).drew) := ((Fr.refl (fun k => k = g) _).setCell (p := ⟨g, 3, none⟩) (fun _ => rfl) _).drew
              have HD19 : Aside (isD (((wc.setCell ⟨f, 2, none⟩ (.int .i64 ((s0 : Int) + (k0 : Int)))).setCell ⟨g, 3, none⟩ (.int .i64 (U2 : Int))).drew) g m h c U2 uc root st fuse down) := ⟨heap_set (w := wc.setCell ⟨f, 2, none⟩ (.int .i64 ((s0 : Int) + (k0 : Int)))) hD18 3 _⟩
              have HR19 := Aside.mk (hf19.heap hR18 (fun q => hdd.out.2.1 q.symm))
              have HM19 := Aside.mk (hf19.heap (hf18.heap HM17.out (fun q => hdd.out.2.2.1 q)) (fun q => hdd.out.1 q.symm))
              have HK19 := Aside.mk (hf19.heap (hf18.heap HK17.out (fun q => by have q2 : w.heap.size = f := q; omega)) (fun q => by have q2 : w.heap.size = g := q; omega))
              have HIT19 := Aside.mk (hf19.heap (hf18.heap HIT17.out (fun q => by have q2 : r = f := q; omega)) (fun q => by have q2 : r = g := q; omega))
              have HF19 := Aside.mk ((HF17.out.trans hf18 (fun b hb q => .inr q)).trans hf19 (fun b hb q => .inl q))
              have HS29 : Aside ((((wc.setCell ⟨f, 2, none⟩ (.int .i64 ((s0 : Int) + (k0 : Int)))).setCell ⟨g, 3, none⟩ (.int .i64 (U2 : Int))).drew).cell? ⟨f, 0, none⟩ = some (.int .i64 0) ∧ (((wc.setCell ⟨f, 2, none⟩ (.int .i64 ((s0 : Int) + (k0 : Int)))).setCell ⟨g, 3, none⟩ (.int .i64 (U2 : Int))).drew).cell? ⟨f, 1, none⟩ = some (.slice (some ⟨a0, 0, none⟩) (s0 + k0) c0)) := ⟨⟨heap_cell HR19.out 0, heap_cell HR19.out 1⟩⟩
              clear hf18 hR18 hD18 hf19
              go_wp2_with fail
              refine startH (S := fun w' => w'.cell? ⟨f, 0, none⟩ = some (.int .i64 0) ∧ w'.cell? ⟨f, 1, none⟩ = some (.slice (some ⟨a0, 0, none⟩) (s0 + k0) c0)) 20 #[false, false, false, false, false, false, false, false, false, false, false, false, false, false, false, false, false, false, false, false] (by kernel_rfl) rfl rfl ⟨heap_cell HId19.out 0, heap_cell HId19.out 1⟩ (fun hHeld => ?_)
              refine takeH (i := 0) (v := ?_) (some 120) #[true, false, false, false, false, false, false, false, false, false, false, false, false, false, false, false, false, false, false, false] rfl rfl rfl (by kernel_rfl) (by kernel_rfl) (by kernel_rfl) (fun _ _ _ h => h) (Or.inl ⟨by rfl, ?_⟩) hHeld ?_
              rotate_left
              · intro w hSw; obtain ⟨s1, s2⟩ := hSw; go_simp; with_reducible rfl
              rotate_left
              try simp only [Act.put, List.setIfInBounds_toArray, List.set_cons_zero, List.set_cons_succ]
              refine takeH (i := 1) (v := ?_) (some 121) #[true, true, false, false, false, false, false, false, false, false, false, false, false, false, false, false, false, false, false, false] rfl rfl rfl (by kernel_rfl) (by kernel_rfl) (by kernel_rfl) (fun _ _ _ h => h) (Or.inl ⟨by rfl, ?_⟩) hHeld ?_
              rotate_left
              · intro w hSw; obtain ⟨s1, s2⟩ := hSw; go_simp; with_reducible rfl
              rotate_left
              try simp only [Act.put, List.setIfInBounds_toArray, List.set_cons_zero, List.set_cons_succ]
              refine takeH (i := 2) (v := ?_) (some 122) #[true, true, true, false, false, false, false, false, false, false, false, false, false, false, false, false, false, false, false, false] rfl rfl rfl (by kernel_rfl) (by kernel_rfl) (by kernel_rfl) (fun _ _ _ h => h) (Or.inl ⟨by rfl, ?_⟩) hHeld ?_
              rotate_left
              · intro w hSw; obtain ⟨s1, s2⟩ := hSw; go_simp; with_reducible rfl
              rotate_left
              try simp only [Act.put, List.setIfInBounds_toArray, List.set_cons_zero, List.set_cons_succ]
              refine takeH (i := 3) (v := ?_) (some 123) #[true, true, true, true, false, false, false, false, false, false, false, false, false, false, false, false, false, false, false, false] rfl rfl rfl (by kernel_rfl) (by kernel_rfl) (by kernel_rfl) (fun _ _ _ h => h) (Or.inl ⟨by rfl, ?_⟩) hHeld ?_
              rotate_left
              · intro w hSw; obtain ⟨s1, s2⟩ := hSw; go_simp; with_reducible rfl
              rotate_left
              try simp only [Act.put, List.setIfInBounds_toArray, List.set_cons_zero, List.set_cons_succ]
              refine takeH (i := 4) (v := ?_) (some 124) #[true, true, true, true, true, false, false, false, false, false, false, false, false, false, false, false, false, false, false, false] rfl rfl rfl (by kernel_rfl) (by kernel_rfl) (by kernel_rfl) (fun _ _ _ h => h) (Or.inl ⟨by rfl, ?_⟩) hHeld ?_
              rotate_left
              · intro w hSw; obtain ⟨s1, s2⟩ := hSw; go_simp; with_reducible rfl
              rotate_left
              try simp only [Act.put, List.setIfInBounds_toArray, List.set_cons_zero, List.set_cons_succ]
              refine takeH (i := 5) (v := ?_) (some 125) #[true, true, true, true, true, true, false, false, false, false, false, false, false, false, false, false, false, false, false, false] rfl rfl rfl (by kernel_rfl) (by kernel_rfl) (by kernel_rfl) (fun _ _ _ h => h) (Or.inl ⟨by rfl, ?_⟩) hHeld ?_
              rotate_left
              · intro w hSw; obtain ⟨s1, s2⟩ := hSw; go_simp; with_reducible rfl
              rotate_left
              try simp only [Act.put, List.setIfInBounds_toArray, List.set_cons_zero, List.set_cons_succ]
              refine takeH (i := 6) (v := ?_) (some 126) #[true, true, true, true, true, true, true, false, false, false, false, false, false, false, false, false, false, false, false, false] rfl rfl rfl (by kernel_rfl) (by kernel_rfl) (by kernel_rfl) (fun _ _ _ h => h) (Or.inl ⟨by rfl, ?_⟩) hHeld ?_
              rotate_left
              · intro w hSw; obtain ⟨s1, s2⟩ := hSw; go_simp; with_reducible rfl
              rotate_left
              try simp only [Act.put, List.setIfInBounds_toArray, List.set_cons_zero, List.set_cons_succ]
              refine takeH (i := 7) (v := ?_) (some 127) #[true, true, true, true, true, true, true, true, false, false, false, false, false, false, false, false, false, false, false, false] rfl rfl rfl (by kernel_rfl) (by kernel_rfl) (by kernel_rfl) (fun _ _ _ h => h) (Or.inl ⟨by rfl, ?_⟩) hHeld ?_
              rotate_left
              · intro w hSw; obtain ⟨s1, s2⟩ := hSw; go_simp; with_reducible rfl
              rotate_left
              try simp only [Act.put, List.setIfInBounds_toArray, List.set_cons_zero, List.set_cons_succ]
              refine takeH (i := 9) (v := ?_) (some 129) #[true, true, true, true, true, true, true, true, false, true, false, false, false, false, false, false, false, false, false, false] rfl rfl rfl (by kernel_rfl) (by kernel_rfl) (by kernel_rfl) (fun _ _ _ h => h) (Or.inl ⟨by rfl, ?_⟩) hHeld ?_
              rotate_left
              · intro w hSw; obtain ⟨s1, s2⟩ := hSw; go_simp; with_reducible rfl
              rotate_left
              try simp only [Act.put, List.setIfInBounds_toArray, List.set_cons_zero, List.set_cons_succ]
              refine takeH (i := 10) (v := ?_) (some 130) #[true, true, true, true, true, true, true, true, false, true, true, false, false, false, false, false, false, false, false, false] rfl rfl rfl (by kernel_rfl) (by kernel_rfl) (by kernel_rfl) (fun _ _ _ h => h) (Or.inl ⟨by rfl, ?_⟩) hHeld ?_
              rotate_left
              · intro w hSw; obtain ⟨s1, s2⟩ := hSw; go_simp; with_reducible rfl
              rotate_left
              try simp only [Act.put, List.setIfInBounds_toArray, List.set_cons_zero, List.set_cons_succ]
              refine takeH (i := 11) (v := ?_) (some 131) #[true, true, true, true, true, true, true, true, false, true, true, true, false, false, false, false, false, false, false, false] rfl rfl rfl (by kernel_rfl) (by kernel_rfl) (by kernel_rfl) (fun _ _ _ h => h) (Or.inl ⟨by rfl, ?_⟩) hHeld ?_
              rotate_left
              · intro w hSw; obtain ⟨s1, s2⟩ := hSw; go_simp; with_reducible rfl
              rotate_left
              try simp only [Act.put, List.setIfInBounds_toArray, List.set_cons_zero, List.set_cons_succ]
              refine takeH (i := 12) (v := ?_) (some 132) #[true, true, true, true, true, true, true, true, false, true, true, true, true, false, false, false, false, false, false, false] rfl rfl rfl (by kernel_rfl) (by kernel_rfl) (by kernel_rfl) (fun _ _ _ h => h) (Or.inl ⟨by rfl, ?_⟩) hHeld ?_
              rotate_left
              · intro w hSw; obtain ⟨s1, s2⟩ := hSw; go_simp; with_reducible rfl
              rotate_left
              try simp only [Act.put, List.setIfInBounds_toArray, List.set_cons_zero, List.set_cons_succ]
              refine takeH (i := 13) (v := ?_) (some 133) #[true, true, true, true, true, true, true, true, false, true, true, true, true, true, false, false, false, false, false, false] rfl rfl rfl (by kernel_rfl) (by kernel_rfl) (by kernel_rfl) (fun _ _ _ h => h) (Or.inl ⟨by rfl, ?_⟩) hHeld ?_
              rotate_left
              · intro w hSw; obtain ⟨s1, s2⟩ := hSw; go_simp; with_reducible rfl
              rotate_left
              try simp only [Act.put, List.setIfInBounds_toArray, List.set_cons_zero, List.set_cons_succ]
              refine takeH (i := 16) (v := ?_) (some 136) #[true, true, true, true, true, true, true, true, false, true, true, true, true, true, false, false, true, false, false, false] rfl rfl rfl (by kernel_rfl) (by kernel_rfl) (by kernel_rfl) (fun _ _ _ h => h) (Or.inl ⟨by rfl, ?_⟩) hHeld ?_
              rotate_left
              · intro w hSw; obtain ⟨s1, s2⟩ := hSw; go_simp; with_reducible rfl
              rotate_left
              try simp only [Act.put, List.setIfInBounds_toArray, List.set_cons_zero, List.set_cons_succ]
              refine takeH (i := 17) (v := ?_) (some 137) #[true, true, true, true, true, true, true, true, false, true, true, true, true, true, false, false, true, true, false, false] rfl rfl rfl (by kernel_rfl) (by kernel_rfl) (by kernel_rfl) (fun _ _ _ h => h) (Or.inl ⟨by rfl, ?_⟩) hHeld ?_
              rotate_left
              · intro w hSw; obtain ⟨s1, s2⟩ := hSw; go_simp; with_reducible rfl
              rotate_left
              try simp only [Act.put, List.setIfInBounds_toArray, List.set_cons_zero, List.set_cons_succ]
              refine wpAnyH_ready (rs := [8, 14]) (by kernel_rfl) (by simp) ?_
              refine AllReadyH.cons rfl (fun K hK => ?_) (AllReadyH.cons rfl (fun K hK => ?_) AllReadyH.nil)
              · go_simp
                refine hK.out _ _ hHeld (fun hHeld => ?_)
                clear hK K
                refine listH #[true, true, true, true, true, true, true, true, true, true, true, true, true, true, false, false, true, true, false, false] rfl ?_
                refine wpAnyH_ready (rs := [14]) (by kernel_rfl) (by simp) ?_
                refine AllReadyH.cons rfl (fun K hK => ?_) AllReadyH.nil
                go_simp
                refine (HB2.out _).mono ?_
                rintro e xq ⟨rfl, rfl⟩
                go_wp2_with fail
                refine hK.out _ _ hHeld (fun hHeld => ?_)
                clear hK K
                refine listH #[true, true, true, true, true, true, true, true, true, true, true, true, true, true, true, false, true, true, false, false] rfl ?_
                refine takeH (i := 15) (v := ?_) (some 135) #[true, true, true, true, true, true, true, true, true, true, true, true, true, true, true, true, true, true, false, false] rfl rfl rfl (by kernel_rfl) (by kernel_rfl) (by kernel_rfl) (fun _ _ _ h => h) (Or.inl ⟨by rfl, ?_⟩) hHeld ?_
                rotate_left
                · intro w hSw; obtain ⟨s1, s2⟩ := hSw; go_simp; with_reducible rfl
                rotate_left
                try simp only [Act.put, List.setIfInBounds_toArray, List.set_cons_zero, List.set_cons_succ]
                refine takeH (i := 18) (v := ?_) (some 138) #[true, true, true, true, true, true, true, true, true, true, true, true, true, true, true, true, true, true, true, false] rfl rfl rfl (by kernel_rfl) (by kernel_rfl) (by kernel_rfl) (fun _ _ _ h => h) (Or.inl ⟨by rfl, ?_⟩) hHeld ?_
                rotate_left
                · intro w hSw; obtain ⟨s1, s2⟩ := hSw; go_simp; with_reducible rfl
                rotate_left
                try simp only [Act.put, List.setIfInBounds_toArray, List.set_cons_zero, List.set_cons_succ]
                refine wpAnyH_ready (rs := [19]) (by kernel_rfl) (by simp) ?_
                refine AllReadyH.cons rfl (fun K hK => ?_) AllReadyH.nil
                go_simp
                refine hK.out _ _ HS29.out (fun hHeld => ?_)
                clear hK K
                refine listH #[true, true, true, true, true, true, true, true, true, true, true, true, true, true, true, true, true, true, true, true] rfl ?_
                refine wpAnyH_done (by kernel_rfl) ?_ _
                clear hHeld
                generalize ((wc.setCell ⟨f, 2, none⟩ (.int .i64 ((s0 : Int) + (k0 : Int)))).setCell ⟨g, 3, none⟩ (.int .i64 (U2 : Int))).drew = wf at *
                try go_wp2
                go_roundw
                case rel =>
                  refine ⟨1, by omega, HIT19, HM19, HK19, ⟨?_⟩, HF19⟩
                  rw [if_neg (by omega)]
                  refine ⟨?_, HR19.out⟩
                  have q := HD19.out
                  rw [HU2.out, HU1.out] at q; exact q
                case measure =>
                  have q : wf.heap[r]? = some (.mapIter (some m) 1 #[0] 1) := HIT19.out
                  rw [HMZ.out, q]; simp
              · go_simp
                refine (HB2.out _).mono ?_
                rintro e xq ⟨rfl, rfl⟩
                go_wp2_with fail
                refine hK.out _ _ hHeld (fun hHeld => ?_)
                clear hK K
                refine listH #[true, true, true, true, true, true, true, true, false, true, true, true, true, true, true, false, true, true, false, false] rfl ?_
                refine wpAnyH_ready (rs := [8]) (by kernel_rfl) (by simp) ?_
                refine AllReadyH.cons rfl (fun K hK => ?_) AllReadyH.nil
                go_simp
                refine hK.out _ _ hHeld (fun hHeld => ?_)
                clear hK K
                refine listH #[true, true, true, true, true, true, true, true, true, true, true, true, true, true, true, false, true, true, false, false] rfl ?_
                refine takeH (i := 15) (v := ?_) (some 135) #[true, true, true, true, true, true, true, true, true, true, true, true, true, true, true, true, true, true, false, false] rfl rfl rfl (by kernel_rfl) (by kernel_rfl) (by kernel_rfl) (fun _ _ _ h => h) (Or.inl ⟨by rfl, ?_⟩) hHeld ?_
                rotate_left
                · intro w hSw; obtain ⟨s1, s2⟩ := hSw; go_simp; with_reducible rfl
                rotate_left
                try simp only [Act.put, List.setIfInBounds_toArray, List.set_cons_zero, List.set_cons_succ]
                refine takeH (i := 18) (v := ?_) (some 138) #[true, true, true, true, true, true, true, true, true, true, true, true, true, true, true, true, true, true, true, false] rfl rfl rfl (by kernel_rfl) (by kernel_rfl) (by kernel_rfl) (fun _ _ _ h => h) (Or.inl ⟨by rfl, ?_⟩) hHeld ?_
                rotate_left
                · intro w hSw; obtain ⟨s1, s2⟩ := hSw; go_simp; with_reducible rfl
                rotate_left
                try simp only [Act.put, List.setIfInBounds_toArray, List.set_cons_zero, List.set_cons_succ]
                refine wpAnyH_ready (rs := [19]) (by kernel_rfl) (by simp) ?_
                refine AllReadyH.cons rfl (fun K hK => ?_) AllReadyH.nil
                go_simp
                refine hK.out _ _ HS29.out (fun hHeld => ?_)
                clear hK K
                refine listH #[true, true, true, true, true, true, true, true, true, true, true, true, true, true, true, true, true, true, true, true] rfl ?_
                refine wpAnyH_done (by kernel_rfl) ?_ _
                clear hHeld
                generalize ((wc.setCell ⟨f, 2, none⟩ (.int .i64 ((s0 : Int) + (k0 : Int)))).setCell ⟨g, 3, none⟩ (.int .i64 (U2 : Int))).drew = wf at *
                try go_wp2
                go_roundw
                case rel =>
                  refine ⟨1, by omega, HIT19, HM19, HK19, ⟨?_⟩, HF19⟩
                  rw [if_neg (by omega)]
                  refine ⟨?_, HR19.out⟩
                  have q := HD19.out
                  rw [HU2.out, HU1.out] at q; exact q
                case measure =>
                  have q : wf.heap[r]? = some (.mapIter (some m) 1 #[0] 1) := HIT19.out
                  rw [HMZ.out, q]; simp
        · have hd1 : d = 1 := by omega
          subst hd1
          simp only [if_neg hd0] at HIT HS2
          have HNX := Aside.mk (nx_none wr r m n _ HM2.out HIT.out 0)
          have q8 : wr.frozen? ⟨g, 8, none⟩ = false := heap_frozen HS2.out.1 8
          have q7 : wr.frozen? ⟨g, 7, none⟩ = false := heap_frozen HS2.out.1 7
          have e8 : wr.cell? ⟨g, 8, none⟩ = some (.bool down) := heap_cell HS2.out.1 8
          have e7 : wr.cell? ⟨g, 7, none⟩ = some (.int .i64 fuse) := heap_cell HS2.out.1 7
          go_wp2_with ((with_reducible refine gate (.next (.tmp 42) false) rfl ?_); refine nxo rfl (.tmp 42) rfl _ _ wr rfl HNX.out ?_)
          refine bodyPost_end (results_none' rfl _ _ _) rfl ?_
          have hfE : Fr (fun k => k = g) wr ((wr.setCell ⟨g, 8, none⟩ (.bool false)).setCell ⟨g, 7, none⟩ (.int .i64 (-1))) := ((Fr.refl (fun k => k = g) wr).setCell (p := ⟨g, 8, none⟩) (fun _ => rfl) _).setCell (p := ⟨g, 7, none⟩) (fun _ => rfl) _
          refine ⟨rfl, ?_, hfE.heap HM2.out (fun q => hdd.out.1 q.symm), ?_, HF2.out.trans hfE (fun b hb q => .inl q)⟩
          · rw [hB]; exact heap_set (heap_set HS2.out.1 8 _) 7 _
          · exact hfE.heap HS2.out.2 (fun q => hdd.out.2.1 q.symm)

end Go.Proofs.Ytodhkdmkkjhnnaa
