/- disk.Add on the way that is done; disk.Read, disk.Size. -/
import Derived.Test.YtodhkdmkkjhnnaaDisk
set_option linter.unusedVariables false
set_option linter.unusedSimpArgs false
namespace Go.Proofs.Ytodhkdmkkjhnnaa
open Go.RowKit

def isF (w : World) (f : Nat) (t : Int) (v : Value) (bs : List UInt8) (sure : Int) : Prop := w.heap[f]? = some (.cells #[.int .i64 t, v, .int .i64 sure] 140 (0, 0)) ∧ OwnB w v bs

set_option maxHeartbeats 3200000 in
set_option maxRecDepth 100000 in
theorem dadd_ok (w : World) (g m f h c uh uc root st : Nat) (n sure : Int) (v : Value) (bs : List UInt8) (s : ByteArray) (hs2 : bs.length + s.size ≤ 1000000000) (hst : st < 1000000) (hu : uh ≤ 1048576) (hh : h ≤ 1048576)
    (hroom : uh + (blk (bs.length + s.size) - blk bs.length) ≤ h) (H : isD w g m h c uh uc root st (-1) false) (HFI : isF w f 0 v bs sure) (hgf : g ≠ f) (hv : ∀ k, own v k → k ≠ g ∧ k ≠ f)
    (HL : (Instr.lookup 132 (.map (some m)) (.int .i64 n) false).run Try.prog w = .ok (.pointer (some ⟨f, 0, none⟩)) w) :
    Calls Try.prog 25 #[.pointer (some ⟨g, 0, none⟩), .int .i64 n, .string s] w fun e w' => e = .returned (.int .i64 0) ∧ ∃ v1, isD w' g m h c (uh + (blk (bs.length + s.size) - blk bs.length)) uc root (st + 1) (-1) false ∧
      isF w' f 0 v1 (bs ++ s.data.toList) sure ∧ (∀ k, own v1 k → own v k ∨ w.heap.size ≤ k) ∧ Fr (fun k => k = g ∨ k = f ∨ own v k) w w' := by
  have HF := Aside.mk (find_yes w g m f n H.c0 H.c8 HL)
  have HB1 := Aside.mk (fun W => blocks_any W (bs.length + s.size) hs2)
  have HB0 := Aside.mk (fun W => blocks_any W bs.length (by omega))
  have hS := Aside.mk (fun W q6 q7 qz => step_any W g st hst q6 q7 qz)
  obtain ⟨a0, n0, c0, hva⟩ := HFI.2.shape
  have hlen : n0 = bs.length := by
    have := HFI.2.2
    rcases this with ⟨hq, h0⟩ | ⟨g', cap, cur, hq, _⟩
    · rw [hva] at hq; simp at hq; omega
    · rw [hva] at hq; simp at hq; omega
  subst hlen
  subst hva
  have hbb : blk bs.length ≤ blk (bs.length + s.size) ∧ blk (bs.length + s.size) ≤ 1000000001 := by unfold blk; omega
  generalize hM : blk (bs.length + s.size) - blk bs.length = M at *
  have h1 := H.c1
  have h3 := H.c3
  have hf0 : w.cell? ⟨f, 0, none⟩ = some (.int .i64 0) := heap_cell HFI.1 0
  have hf1 : w.cell? ⟨f, 1, none⟩ = some (.slice a0 bs.length c0) := heap_cell HFI.1 1
  have hz3 := heap_frozen H 3
  have w1 : IntKind.i64.wrap ((bs.length : Int) + (s.size : Int)) = ((bs.length + s.size : Nat) : Int) := by simp [IntKind.wrap, IntKind.bits, IntKind.signed]; omega
  have w2 : IntKind.i64.wrap (((blk (bs.length + s.size) : Nat) : Int) - ((blk bs.length : Nat) : Int)) = (M : Int) := by simp [IntKind.wrap, IntKind.bits, IntKind.signed]; omega
  have w3 : IntKind.i64.wrap ((h : Int) - (uh : Int)) = (h : Int) - (uh : Int) := by simp [IntKind.wrap, IntKind.bits, IntKind.signed]; omega
  have w4 : IntKind.i64.wrap ((uh : Int) + (M : Int)) = ((uh + M : Nat) : Int) := by simp [IntKind.wrap, IntKind.bits, IntKind.signed]; omega
  have q1 : decide ((h : Int) - (uh : Int) < (M : Int)) = false := by simp; omega
  have HD := Aside.mk H
  have HI := Aside.mk HFI
  have hvv := Aside.mk hv
  generalize blk (bs.length + s.size) = B1 at *
  generalize blk bs.length = B0 at *
  clear HL H HFI hM hbb hroom hv
  go_enter Try.func25, Try.ntmps25
  go_wp2_with fail
  refine HF.out.mono ?_
  rintro e x1 ⟨rfl, rfl⟩
  go_wp2_with fail
  go_quiet (first | (go_at_call 84; refine Calls.quiet_of_same (HB1.out _)) | (go_at_call 84; refine Calls.quiet_of_same (HB0.out _)))
  obtain ⟨nqa, rfl⟩ : ∃ k1, k1 = nq := ⟨nq, rfl⟩
  go_wp2_with fail
  go_quiet (fail)
  go_wp2_with fail
  go_region_with (fail)
  have hf3 : Fr (fun k => k = g) x1 ((x1.drewN (nqa + nq + 1)).setCell ⟨g, 3, none⟩ (.int .i64 ((uh : Int) + (M : Int)))) := ((Fr.refl (fun k => k = g) x1).drewN _).setCell (p := ⟨g, 3, none⟩) (fun _ => rfl) _
  have HD3 : Aside (isD ((x1.drewN (nqa + nq + 1)).setCell ⟨g, 3, none⟩ (.int .i64 ((uh : Int) + (M : Int)))) g m h c (uh + M) uc root st (-1) false) := ⟨heap_set (w := x1.drewN (nqa + nq + 1)) HD.out 3 _⟩
  generalize (x1.drewN (nqa + nq + 1)).setCell ⟨g, 3, none⟩ (.int .i64 ((uh : Int) + (M : Int))) = W at *
  have HI3 : Aside (isF W f 0 (.slice a0 bs.length c0) bs sure) := ⟨⟨hf3.heap HI.out.1 (fun q => hgf q.symm), HI.out.2.keep hf3 (fun k hk => (hvv.out k hk).1)⟩⟩
  have hszW := Aside.mk hf3.size
  have HF3 := Aside.mk (hf3.mono (T := fun k => k = g ∨ k = f ∨ own (.slice a0 bs.length c0) k) (fun b _ q => .inl q))
  clear hf3 h1 h3 hf0 hf1 hz3 w1 w2 w3 w4 q1 HF HD HI HB1 HB0
  have hc1 : W.cell? ⟨f, 1, none⟩ = some (.slice a0 bs.length c0) := heap_cell HI3.out.1 1
  go_wp2_with (at_builtin; refine append_str rfl (.tmp 74) (.tmp 75) rfl (.slice a0 bs.length c0) bs s rfl rfl HI3.out.2 (by omega) ?_)
  intro v1 x2 ho hf hg
  obtain ⟨a1, n1, c1, hv1⟩ := ho.shape
  subst hv1
  have hk1 : ∀ k, own (.slice a1 n1 c1) k → own (.slice a0 bs.length c0) k ∨ W.heap.size ≤ k := fun k hk => hg k hk
  have hgl := lt_of_heap HD3.out
  have hfl := lt_of_heap HI3.out.1
  have hne1 : ∀ k, own (.slice a1 n1 c1) k → k ≠ g ∧ k ≠ f := fun k hk => (hk1 k hk).elim (fun q => hvv.out k q) (fun q => by omega)
  have HD4 := Aside.mk (hf.heap HD3.out (fun q => (hvv.out g q).1 rfl))
  have HI4 := Aside.mk (hf.heap HI3.out.1 (fun q => (hvv.out f q).2 rfl))
  have HF4 := Aside.mk (HF3.out.trans hf (fun b _ q => .inr (.inr q)))
  have HO4 := Aside.mk ho
  have HK1 := Aside.mk hk1
  have HNE := Aside.mk hne1
  have hc2 : x2.cell? ⟨f, 1, none⟩ = some (.slice a0 bs.length c0) := heap_cell HI4.out 1
  have hz2 : x2.frozen? ⟨f, 1, none⟩ = false := heap_frozen HI4.out 1
  clear ho hf hg hk1 hne1 hc1
  go_wp2_with fail
  have hf5 : Fr (fun k => k = f) x2 (x2.setCell ⟨f, 1, none⟩ (.slice a1 n1 c1)) := (Fr.refl (fun k => k = f) x2).setCell (p := ⟨f, 1, none⟩) (fun _ => rfl) _
  have HD5 := Aside.mk (hf5.heap HD4.out hgf)
  have HI5 : Aside ((x2.setCell ⟨f, 1, none⟩ (.slice a1 n1 c1)).heap[f]? = some (.cells #[.int .i64 0, .slice a1 n1 c1, .int .i64 sure] 140 (0, 0))) := ⟨heap_set HI4.out 1 _⟩
  have HO5 := Aside.mk (HO4.out.keep hf5 (fun k hk => (HNE.out k hk).2))
  have HF5 := Aside.mk (HF4.out.trans hf5 (fun b _ q => .inr (.inl q)))
  clear hf5 hc2 hz2
  generalize x2.setCell ⟨f, 1, none⟩ (.slice a1 n1 c1) = x3 at *
  refine (hS.out x3 (isD.c6 HD5.out) (isD.c7 HD5.out) (heap_frozen HD5.out 6)).mono ?_
  rintro e x4 ⟨rfl, hx4⟩
  have hf6 : Fr (fun k => k = g) x3 x4 := by rw [hx4]; exact (Fr.refl (fun k => k = g) x3).setCell (p := ⟨g, 6, none⟩) (fun _ => rfl) _
  have HD6 : Aside (isD x4 g m h c (uh + M) uc root (st + 1) (-1) false) := ⟨by
    have q := heap_set HD5.out 6 (.int .i64 ((st : Int) + 1))
    rw [← hx4] at q; exact q⟩
  have HI6 := Aside.mk (hf6.heap HI5.out (fun q => hgf q.symm))
  have HO6 := Aside.mk (HO5.out.keep hf6 (fun k hk => (HNE.out k hk).1))
  have HF6 := Aside.mk (HF5.out.trans hf6 (fun b _ q => .inl q))
  clear hf6 hx4
  go_wp2
  go_ret
  exact ⟨rfl, _, HD6.out, ⟨HI6.out, HO6.out⟩, fun k hk => (HK1.out k hk).imp id (fun q => by have := hszW.out; omega), HF6.out⟩

/-- Bytes of a file, where they are all there. -/
theorem conv_sub (w : World) (b cap a k : Nat) (bs : List UInt8) (hO : OwnB w (.slice (some ⟨b, 0, none⟩) bs.length cap) bs) (hak : a + k ≤ bs.length) (c : Nat) :
    (convert 80 9 (.slice (some ⟨b, a, none⟩) k c)).run Try.prog w = .ok (.string ⟨((bs.drop a).take k).toArray⟩) w := by
  have hl : ((bs.drop a).take k).length = k := by simp; omega
  have h := run_convert_bytes_back w 80 9 5 ⟨b, a, none⟩ c ((bs.drop a).take k) Try.underlying80 Try.underlying5 Try.underlying9 (fun j hj => by
    rw [hl] at hj
    have q := World.ownsRow.cells hO (g := b) rfl (a + j) (byt (bs[a + j]'(by omega))) (by rw [List.getElem?_map, List.getElem?_eq_getElem (by omega)]; rfl)
    have e1 : (⟨b, a, none⟩ : Addr).add j = ⟨b, a + j, none⟩ := by unfold Addr.add; split <;> simp_all
    have e2 : (⟨b, 0, none⟩ : Addr).add (a + j) = ⟨b, a + j, none⟩ := by unfold Addr.add; split <;> simp_all
    rw [e2] at q; rw [e1, q]
    simp [byt])
  rw [hl] at h; exact h

set_option maxHeartbeats 1600000 in
set_option maxRecDepth 100000 in
theorem dread_ok (w : World) (g m f a k : Nat) (n sure t : Int) (v : Value) (bs : List UInt8) (hak : a + k ≤ bs.length) (hbs : bs.length ≤ 1000000000) (hc0 : w.cell? ⟨g, 0, none⟩ = some (.map (some m))) (hc8 : w.cell? ⟨g, 8, none⟩ = some (.bool false)) (HFI : isF w f t v bs sure)
    (HL : (Instr.lookup 132 (.map (some m)) (.int .i64 n) false).run Try.prog w = .ok (.pointer (some ⟨f, 0, none⟩)) w) :
    Calls Try.prog 39 #[.pointer (some ⟨g, 0, none⟩), .int .i64 n, .int .i64 a, .int .i64 k] w fun e w' => e = .returned (.tuple #[.string ⟨((bs.drop a).take k).toArray⟩, .int .i64 0]) ∧ w' = w := by
  have HF := Aside.mk (find_yes w g m f n hc0 hc8 HL)
  have q1 : decide ((a : Int) < 0) = false := by simp
  have q2 : decide ((k : Int) < 0) = false := by simp
  have q3 : decide ((bs.length : Int) < (a : Int)) = false := by simp; omega
  have w1 : IntKind.i64.wrap ((bs.length : Int) - (a : Int)) = (bs.length : Int) - (a : Int) := by simp [IntKind.wrap, IntKind.bits, IntKind.signed]; omega
  have w2 : IntKind.i64.wrap ((a : Int) + (k : Int)) = ((a + k : Nat) : Int) := by simp [IntKind.wrap, IntKind.bits, IntKind.signed]; omega
  have q4 : decide ((bs.length : Int) - (a : Int) < (k : Int)) = false := by simp; omega
  rcases HFI.2.2 with ⟨hv, h0⟩ | ⟨b, cap, cur, hv, hg0, hh, hcap, r⟩
  · subst hv
    have hbn : bs = [] := List.eq_nil_of_length_eq_zero h0
    subst hbn
    obtain rfl : a = 0 := by simp at hak; omega
    obtain rfl : k = 0 := by simp at hak; omega
    have hf1 : w.cell? ⟨f, 1, none⟩ = some (.slice none 0 0) := heap_cell HFI.1 1
    have hcv := HFI.2.conv
    clear HL HFI hc0 hc8
    go_enter Try.func39, Try.ntmps39
    go_wp2_with fail
    refine HF.out.mono ?_
    rintro e x1 ⟨rfl, rfl⟩
    go_wp2
    go_ret2
    exact ⟨rfl, rfl⟩
  · subst hv
    have hf1 : w.cell? ⟨f, 1, none⟩ = some (.slice (some ⟨b, 0, none⟩) bs.length cap) := heap_cell HFI.1 1
    have hcv := conv_sub w b cap a k bs HFI.2 hak (cap - a)
    have hcv0 := conv_sub w b cap 0 0 bs HFI.2 (by omega) 0
    have hnil : cap = a → k = 0 := fun q => by omega
    have hx0 : (a : Int) ≤ ((a + k : Nat) : Int) := by omega
    have hx1 : ((a + k : Nat) : Int) ≤ (cap : Int) := by omega
    have hx2 : ((a + k : Nat) : Int) - (a : Int) = k := by omega
    by_cases hca : cap = a
    · obtain rfl := hnil hca
      rw [show (bs.drop a).take 0 = (bs.drop 0).take 0 by simp]
      clear HL HFI hc0 hc8 hh r hcv hnil
      go_enter Try.func39, Try.ntmps39
      go_wp2_with fail
      refine HF.out.mono ?_
      rintro e x1 ⟨rfl, rfl⟩
      go_wp2
      go_ret2
      exact ⟨rfl, rfl⟩
    clear HL HFI hc0 hc8 hh r hcv0 hnil
    go_enter Try.func39, Try.ntmps39
    go_wp2_with fail
    refine HF.out.mono ?_
    rintro e x1 ⟨rfl, rfl⟩
    go_wp2
    go_ret2
    exact ⟨rfl, rfl⟩
end Go.Proofs.Ytodhkdmkkjhnnaa
