/- The walks of a log: Add, Counts, Sync; siloref12.Frame; disk.Sync; disk.Add that has no room. -/
import Derived.Test.YtodhkdmkkjhnnaaFew12
import Derived.Test.YtodhkdmkkjhnnaaLk
import Derived.Test.YtodhkdmkkjhnnaaRefA
import Derived.Test.YtodhkdmkkjhnnaaRef02
set_option linter.unusedVariables false
set_option linter.unusedSimpArgs false
namespace Go.Proofs.Ytodhkdmkkjhnnaa
open Go.RowKit

def logL (g : Nat) (file : Int) (v : Value) (wr su : Nat) : Array Value := #[.pointer (some ⟨g, 0, none⟩), .int .i64 file, v, .int .i64 wr, .int .i64 su]
/-- A log at x on the disk at g, with these strings waiting. -/
structure isLog (w : World) (x g : Nat) (file : Int) (v : Value) (ss : List ByteArray) (wr su : Nat) : Prop where
  at_ : w.heap[x]? = some (.cells (logL g file v wr su) 144 (0, 0))
  own_ : OwnT w v ss
theorem isLog.keep {w w1 : World} {x g : Nat} {file : Int} {v : Value} {ss : List ByteArray} {wr su : Nat} {S : Nat → Prop} (h : isLog w x g file v ss wr su) (hf : Fr S w w1) (h1 : ¬ S x) (h2 : ∀ k, own v k → ¬ S k) : isLog w1 x g file v ss wr su :=
  ⟨hf.heap h.at_ h1, h.own_.keep hf h2⟩
theorem OwnT.lt {w : World} {v : Value} {bs : List ByteArray} (h : OwnT w v bs) : ∀ k, own v k → k < w.heap.size := by
  intro k hk
  rcases h.2 with ⟨rfl, _⟩ | ⟨g, cap, cur, rfl, _, hh, _⟩
  · simp [own, Value.ownBlock] at hk
  · have : g = k := by simpa [own, Value.ownBlock] using hk
    subst this; exact lt_of_heap hh
theorem OwnT.len {w : World} {v : Value} {bs : List ByteArray} (h : OwnT w v bs) : ∃ a c, v = .slice a bs.length c := by
  rcases h.2 with ⟨rfl, h0⟩ | ⟨g, cap, cur, rfl, _⟩
  · simp at h0; subst h0; exact ⟨_, _, rfl⟩
  · exact ⟨_, _, rfl⟩

set_option maxHeartbeats 3200000 in
set_option maxRecDepth 100000 in
theorem wladd_ok (w : World) (x g : Nat) (file : Int) (v : Value) (ss : List ByteArray) (wr su : Nat) (s : ByteArray) (hs : s.size ≤ 1048576) (hl : ss.length ≤ 100000000) (H : isLog w x g file v ss wr su) (hx : ¬ own v x) :
    Calls Try.prog 34 #[.pointer (some ⟨x, 0, none⟩), .string s] w fun e w' => e = .returned (.int .i64 0) ∧ ∃ v1, isLog w' x g file v1 (ss ++ [s]) wr su ∧ (∀ k, own v1 k → own v k ∨ w.heap.size ≤ k) ∧ Fr (fun k => k = x ∨ own v k) w w' := by
  have c2 : w.cell? ⟨x, 2, none⟩ = some v := heap_cell H.at_ 2
  have q1 : decide ((1048576 : Int) < (s.size : Int)) = false := by simp; omega
  have HH := Aside.mk H
  have HX := Aside.mk hx
  have hlt := lt_of_heap H.at_
  clear hx H
  go_enter Try.func34, Try.ntmps34
  go_wp2_with (at_builtin; refine append_string rfl (.tmp 16) (.tmp 18) rfl v ss s rfl rfl HH.out.own_ (by omega) ?_)
  intro v1 w1 ho hf hg
  have h1 := hf.heap HH.out.at_ HX.out
  have hz : w1.frozen? ⟨x, 2, none⟩ = false := heap_frozen h1 2
  have hc : w1.cell? ⟨x, 2, none⟩ = some v := heap_cell h1 2
  have hnx : ¬ own v1 x := fun q => by
    rcases hg x q with q | q
    · exact HX.out q
    · omega
  have hf2 : Fr (fun k => k = x) w1 (w1.setCell ⟨x, 2, none⟩ v1) := (Fr.refl (fun k => k = x) w1).setCell (p := ⟨x, 2, none⟩) (fun _ => rfl) _
  have HF : Aside (Fr (fun k => k = x ∨ own v k) w (w1.setCell ⟨x, 2, none⟩ v1)) := ⟨(hf.mono (fun _ _ q => .inr q)).trans hf2 (fun _ _ q => .inl q)⟩
  have HL : Aside (isLog (w1.setCell ⟨x, 2, none⟩ v1) x g file v1 (ss ++ [s]) wr su) := ⟨heap_set h1 2 v1, ho.keep hf2 (fun k hk q => by have q2 : k = x := q; exact hnx (q2 ▸ hk))⟩
  have HG : Aside (∀ k, own v1 k → own v k ∨ w.heap.size ≤ k) := ⟨hg⟩
  clear ho hf hg h1 hnx hf2
  obtain ⟨a1, n1, hv1⟩ := HL.out.own_.len
  rw [List.length_append, List.length_singleton] at hv1
  subst hv1
  go_wp2
  go_ret
  exact ⟨rfl, _, HL.out, HG.out, HF.out⟩

set_option maxHeartbeats 3200000 in
set_option maxRecDepth 100000 in
theorem wlcounts_any (w : World) (x g : Nat) (file : Int) (v : Value) (ss : List ByteArray) (wr su : Nat) (H : isLog w x g file v ss wr su) :
    Calls Try.prog 37 #[.pointer (some ⟨x, 0, none⟩)] w fun e w' => e = .returned (.tuple #[.int .i64 ss.length, .int .i64 wr, .int .i64 su]) ∧ Fr (fun _ => False) w w' := by
  obtain ⟨a, c, hv⟩ := H.own_.len
  have c2 : w.cell? ⟨x, 2, none⟩ = some (.slice a ss.length c) := by rw [← hv]; exact heap_cell H.at_ 2
  have c3 : w.cell? ⟨x, 3, none⟩ = some (.int .i64 wr) := heap_cell H.at_ 3
  have c4 : w.cell? ⟨x, 4, none⟩ = some (.int .i64 su) := heap_cell H.at_ 4
  clear H
  go_enter Try.func37, Try.ntmps37
  go_wp2_with fail
  go_quiet (fail)
  go_wp2
  go_ret3
  exact ⟨rfl, (Fr.refl _ _).drewN _⟩

set_option maxRecDepth 100000 in
theorem rframe_any (w : World) (s : ByteArray) (hs : s.size ≤ 1000000000) : Calls Try.prog 35 #[.string s] w fun e w' => e = .returned (.string ⟨(frameB s.data.toList).toArray⟩) ∧ Fr (fun _ => False) w w' := by
  have hg := gs_len s.size 64 (by omega)
  have hsl := ba_size s
  have HT := Aside.mk (fun W => rtxt_any W s (by omega))
  have HB : Aside (frameB s.data.toList = Crc.put (gs s.size 64 ++ s.data.toList)) := ⟨by unfold frameB; rw [hsl]⟩
  rw [hsl] at hs
  generalize gs s.size 64 = G at *
  have HP := Aside.mk (fun W => rput_any W ⟨(G ++ s.data.toList).toArray⟩ (by simp only [ByteArray.size, List.size_toArray, List.length_append]; omega))
  rw [show (ByteArray.mk (G ++ s.data.toList).toArray).data.toList = G ++ s.data.toList by simp] at HP
  clear hg hsl
  go_enter Try.func35, Try.ntmps35
  go_wp2_with fail
  refine (HT.out _).mono ?_
  rintro e w1 ⟨rfl, hf⟩
  have HF1 := Aside.mk hf
  clear hf
  go_wp2_with fail
  refine (HP.out _).mono ?_
  rintro e w2 ⟨rfl, hf⟩
  have HF2 := Aside.mk (HF1.out.trans hf (fun _ _ q => q))
  clear hf
  go_wp2
  go_ret
  rw [HB.out]
  exact ⟨rfl, HF2.out⟩

set_option maxHeartbeats 1600000 in
set_option maxRecDepth 100000 in
theorem dsync_ok (w : World) (g m f h c uh uc root st : Nat) (n sure t : Int) (v : Value) (bs : List UInt8) (hst : st < 1000000) (H : isD w g m h c uh uc root st (-1) false) (HFI : isF w f t v bs sure) (hgf : g ≠ f) (hv : ∀ k, own v k → k ≠ g ∧ k ≠ f)
    (HL : (Instr.lookup 132 (.map (some m)) (.int .i64 n) false).run Try.prog w = .ok (.pointer (some ⟨f, 0, none⟩)) w) :
    Calls Try.prog 87 #[.pointer (some ⟨g, 0, none⟩), .int .i64 n] w fun e w' => e = .returned (.int .i64 0) ∧ isD w' g m h c uh uc root (st + 1) (-1) false ∧ isF w' f t v bs (bs.length : Int) ∧ Fr (fun k => k = g ∨ k = f) w w' := by
  have HF := Aside.mk (find_yes w g m f n H.c0 H.c8 HL)
  have hS := Aside.mk (step_any w g st hst H.c6 H.c7 (heap_frozen H 6))
  obtain ⟨a0, c0, hva⟩ : ∃ a0 c0, v = .slice a0 bs.length c0 := by
    rcases HFI.2.2 with ⟨hq, h0⟩ | ⟨b, cap, cur, hq, _⟩
    · rw [hq, h0]; exact ⟨_, _, rfl⟩
    · exact ⟨_, _, hq⟩
  subst hva
  have HD := Aside.mk H
  have HI := Aside.mk HFI
  have HV := Aside.mk hv
  clear HL H HFI hv
  go_enter Try.func87, Try.ntmps87
  go_wp2_with fail
  refine HF.out.mono ?_
  rintro e x1 ⟨rfl, rfl⟩
  go_wp2_with fail
  refine hS.out.mono ?_
  rintro e x2 ⟨rfl, hx2⟩
  have hf2 : Fr (fun k => k = g) x1 x2 := by rw [hx2]; exact (Fr.refl (fun k => k = g) x1).setCell (p := ⟨g, 6, none⟩) (fun _ => rfl) _
  have HD2 : Aside (isD x2 g m h c uh uc root (st + 1) (-1) false) := ⟨by
    have q := heap_set HD.out 6 (.int .i64 ((st : Int) + 1))
    rw [← hx2] at q; exact q⟩
  have HI2 := Aside.mk (HI.out.keep hf2 (fun q => hgf q.symm) (fun k hk q => (HV.out k hk).1 q))
  have HF2 := Aside.mk hf2
  clear hx2 hf2
  have c1 : x2.cell? ⟨f, 1, none⟩ = some (.slice a0 bs.length c0) := heap_cell HI2.out.1 1
  have c2 : x2.cell? ⟨f, 2, none⟩ = some (.int .i64 sure) := heap_cell HI2.out.1 2
  have z2 : x2.frozen? ⟨f, 2, none⟩ = false := heap_frozen HI2.out.1 2
  go_wp2
  go_ret
  have hf3 : Fr (fun k => k = f) x2 (x2.setCell ⟨f, 2, none⟩ (.int .i64 (bs.length : Int))) := (Fr.refl (fun k => k = f) x2).setCell (p := ⟨f, 2, none⟩) (fun _ => rfl) _
  exact ⟨rfl, hf3.heap HD2.out hgf, ⟨heap_set HI2.out.1 2 _, HI2.out.2.keep hf3 (fun k hk q => (HV.out k hk).2 q)⟩, (HF2.out.mono (fun _ _ q => .inl q)).trans hf3 (fun _ _ q => .inr q)⟩

set_option maxHeartbeats 1600000 in
set_option maxRecDepth 100000 in
theorem dadd_no (w : World) (g m f h uh c uc root st : Nat) (n sure : Int) (v : Value) (bs : List UInt8) (s : ByteArray) (hs2 : bs.length + s.size ≤ 1000000000) (hu : uh ≤ 1048576) (hh : h ≤ 1048576) (hroom : h < uh + (blk (bs.length + s.size) - blk bs.length)) (H : isD w g m h c uh uc root st (-1) false) (HFI : isF w f 0 v bs sure)
    (HL : (Instr.lookup 132 (.map (some m)) (.int .i64 n) false).run Try.prog w = .ok (.pointer (some ⟨f, 0, none⟩)) w) :
    Calls Try.prog 25 #[.pointer (some ⟨g, 0, none⟩), .int .i64 n, .string s] w fun e w' => e = .returned (.int .i64 7) ∧ Fr (fun _ => False) w w' := by
  have HF := Aside.mk (find_yes w g m f n H.c0 H.c8 HL)
  have HB1 := Aside.mk (fun W => blocks_any W (bs.length + s.size) hs2)
  have HB0 := Aside.mk (fun W => blocks_any W bs.length (by omega))
  obtain ⟨a0, c0, hva⟩ : ∃ a0 c0, v = .slice a0 bs.length c0 := by
    rcases HFI.2.2 with ⟨hq, h0⟩ | ⟨b, cap, cur, hq, _⟩
    · rw [hq, h0]; exact ⟨_, _, rfl⟩
    · exact ⟨_, _, hq⟩
  subst hva
  have hbb : blk bs.length ≤ blk (bs.length + s.size) ∧ blk (bs.length + s.size) ≤ 1000000001 := by unfold blk; omega
  generalize hM : blk (bs.length + s.size) - blk bs.length = M at *
  have h1 := H.c1
  have h3 := H.c3
  have hf0 : w.cell? ⟨f, 0, none⟩ = some (.int .i64 0) := heap_cell HFI.1 0
  have hf1 : w.cell? ⟨f, 1, none⟩ = some (.slice a0 bs.length c0) := heap_cell HFI.1 1
  have w1 : IntKind.i64.wrap ((bs.length : Int) + (s.size : Int)) = ((bs.length + s.size : Nat) : Int) := by simp [IntKind.wrap, IntKind.bits, IntKind.signed]; omega
  have w2 : IntKind.i64.wrap (((blk (bs.length + s.size) : Nat) : Int) - ((blk bs.length : Nat) : Int)) = (M : Int) := by simp [IntKind.wrap, IntKind.bits, IntKind.signed]; omega
  have w3 : IntKind.i64.wrap ((h : Int) - (uh : Int)) = (h : Int) - (uh : Int) := by simp [IntKind.wrap, IntKind.bits, IntKind.signed]; omega
  have q1 : decide ((h : Int) - (uh : Int) < (M : Int)) = true := by simp; omega
  generalize blk (bs.length + s.size) = B1 at *
  generalize blk bs.length = B0 at *
  clear HL H HFI hM hbb hroom
  go_enter Try.func25, Try.ntmps25
  go_wp2_with fail
  refine HF.out.mono ?_
  rintro e x1 ⟨rfl, rfl⟩
  go_wp2_with fail
  go_quiet (first | (go_at_call 84; refine Calls.quiet_of_same (HB1.out _)) | (go_at_call 84; refine Calls.quiet_of_same (HB0.out _)))
  obtain ⟨nqa, rfl⟩ : ∃ k1, k1 = nq := ⟨nq, rfl⟩
  go_wp2_with fail
  go_quiet (fail)
  go_wp2
  go_ret
  exact ⟨rfl, (((Fr.refl (fun _ => False) x1).drewN _).drewN _)⟩
end Go.Proofs.Ytodhkdmkkjhnnaa
