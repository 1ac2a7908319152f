/- The walks of six.Writer. -/
import Derived.Test.YtodhkdmkkjhnnaaGroups
set_option linter.unusedVariables false
namespace Go.Proofs.Ytodhkdmkkjhnnaa
open Go.RowKit

/-- A writer at block g that has gathered these bytes; its memory lies in S. -/
def isW (w : World) (S : Nat → Prop) (g : Nat) (bs : List UInt8) : Prop :=
  S g ∧ ∃ v, w.heap[g]? = some (.cells #[v] 154 (0, 0)) ∧ OwnB w v bs ∧ ∀ k, own v k → S k ∧ k ≠ g

theorem isW.keep {w w1 : World} {S T : Nat → Prop} {g : Nat} {bs : List UInt8} (h : isW w S g bs) (hf : Fr T w w1) (hn : ∀ k, S k → ¬ T k) : isW w1 S g bs := by
  obtain ⟨hS, v, hh, ho, hk⟩ := h
  exact ⟨hS, v, hf.heap hh (hn _ hS), ho.keep hf (fun k q => hn k (hk k q).1), hk⟩

theorem new_any (w : World) : Calls Try.prog 64 #[] w fun e w' =>
    ∃ S, e = .returned (.pointer (some ⟨w.heap.size, 0, none⟩)) ∧ isW w' S w.heap.size [] ∧ Fr (fun _ => False) w w' ∧ Gro (fun _ => False) S w.heap.size := by
  go_enter Try.func64, Try.ntmps64
  go_wp2
  go_ret
  refine ⟨fun k => k = w.heap.size, rfl, ⟨rfl, .slice none 0 0, heap_new _ _, OwnB.nil _, fun k hk => by simp [own, Value.ownBlock] at hk⟩, (Fr.refl _ _).alloc _, fun k hk => .inr (by omega)⟩

/-- What a writer is behind the store of its new slice. -/
theorem isW_store {w w1 : World} {S : Nat → Prop} {g : Nat} {bs : List UInt8} {v v1 : Value} (hS : S g) (hh : w.heap[g]? = some (.cells #[v] 154 (0, 0))) (hk : ∀ k, own v k → S k ∧ k ≠ g)
    (ho : OwnB w1 v1 bs) (hf : Fr (own v) w w1) (hg : Gro (own v) (own v1) w.heap.size) :
    ∃ S', isW (w1.setCell ⟨g, 0, none⟩ v1) S' g bs ∧ Fr S w (w1.setCell ⟨g, 0, none⟩ v1) ∧ Gro S S' w.heap.size := by
  have hgne : ¬ own v g := fun q => (hk g q).2 rfl
  have hh1 := hf.heap hh hgne
  have hv1 : ∀ k, own v1 k → k ≠ g := fun k q e => by
    subst e
    rcases hg k q with q | q
    · exact hgne q
    · have := lt_of_heap hh; omega
  refine ⟨fun k => S k ∨ own v1 k, ⟨.inl hS, v1, heap_set hh1 0 v1, ?_, fun k q => ⟨.inr q, hv1 k q⟩⟩, (hf.mono (fun b _ q => (hk b q).1)).setCell (fun _ => hS) _, fun k q => ?_⟩
  · exact ho.keep ((Fr.refl (fun k => k = g) _).setCell (fun _ => rfl) _) (fun k q e => hv1 k q e)
  · rcases q with q | q
    · exact .inl q
    · exact (hg k q).imp (fun q => (hk k q).1) id

set_option maxHeartbeats 800000 in
set_option maxRecDepth 100000 in
theorem raw_any (w : World) (S : Nat → Prop) (g : Nat) (bs : List UInt8) (s : ByteArray) (hW : isW w S g bs) (hl : bs.length + s.size ≤ 140737488355328) :
    Calls Try.prog 65 #[.pointer (some ⟨g, 0, none⟩), .string s] w fun e w' =>
      ∃ S', e = .returned (.int .i64 0) ∧ isW w' S' g (bs ++ s.data.toList) ∧ Fr S w w' ∧ Gro S S' w.heap.size := by
  obtain ⟨hS, v, hh, ho, hk⟩ := hW
  have hc := (heap_cell hh 0).trans rfl
  have HH := Aside.mk hh
  have HO := Aside.mk ho
  have HK := Aside.mk hk
  have HS := Aside.mk hS
  clear hh ho hk hS
  go_enter Try.func65, Try.ntmps65
  go_wp2_with (at_builtin; refine append_str rfl (.tmp 11) (.tmp 12) rfl v bs s rfl rfl HO.out hl ?_)
  intro v1 w1 ho hf hg
  have HR := Aside.mk (isW_store HS.out HH.out HK.out ho hf hg)
  have HH1 := Aside.mk (hf.heap HH.out (fun q => (HK.out g q).2 rfl))
  have hc1 := (heap_cell HH1.out 0).trans rfl
  have hf1 := heap_frozen HH1.out 0
  obtain ⟨a1, n1, c1, rfl⟩ := ho.shape
  clear ho hf hg hc
  go_wp2
  go_ret
  obtain ⟨S', h⟩ := HR.out
  exact ⟨S', rfl, h⟩

set_option maxHeartbeats 800000 in
set_option maxRecDepth 100000 in
theorem count_any (w : World) (S : Nat → Prop) (g : Nat) (bs : List UInt8) (i : Int) (h0 : 0 ≤ i) (h1 : i < 9223372036854775808) (hW : isW w S g bs) (hl : bs.length + 20 ≤ 140737488355328) :
    Calls Try.prog 66 #[.pointer (some ⟨g, 0, none⟩), .int .i64 i] w fun e w' =>
      ∃ S', e = .returned (.int .i64 0) ∧ isW w' S' g (bs ++ gs i.toNat 64) ∧ Fr S w w' ∧ Gro S S' w.heap.size := by
  obtain ⟨n, rfl⟩ := Int.eq_ofNat_of_zero_le h0
  obtain ⟨hS, v, hh, ho, hk⟩ := hW
  have hc := (heap_cell hh 0).trans rfl
  have HH := Aside.mk hh
  have HO := Aside.mk ho
  have HK := Aside.mk hk
  have HS := Aside.mk hS
  have hd : decide ((n : Int) < 0) = false := by simp
  clear hh ho hk hS
  go_enter Try.func66, Try.ntmps66
  go_wp2_with fail
  refine (groups_any v bs n 64 w (by omega) (by omega) HO.out hl).mono ?_
  rintro e w1 ⟨v1, rfl, ho, hf, hg⟩
  have HR := Aside.mk (isW_store HS.out HH.out HK.out ho hf hg)
  have HH1 := Aside.mk (hf.heap HH.out (fun q => (HK.out g q).2 rfl))
  have hc1 := (heap_cell HH1.out 0).trans rfl
  have hf1 := heap_frozen HH1.out 0
  obtain ⟨a1, n1, c1, rfl⟩ := ho.shape
  clear ho hf hg hc
  go_wp2
  go_ret
  obtain ⟨S', h⟩ := HR.out
  exact ⟨S', rfl, h⟩

set_option maxHeartbeats 800000 in
set_option maxRecDepth 100000 in
theorem text_any (w : World) (S : Nat → Prop) (g : Nat) (bs : List UInt8) (s : ByteArray) (hW : isW w S g bs) (hl : bs.length + 20 + s.size ≤ 140737488355328) :
    Calls Try.prog 67 #[.pointer (some ⟨g, 0, none⟩), .string s] w fun e w' =>
      ∃ S', e = .returned (.int .i64 0) ∧ isW w' S' g (bs ++ gs s.size 64 ++ s.data.toList) ∧ Fr S w w' ∧ Gro S S' w.heap.size := by
  obtain ⟨hS, v, hh, ho, hk⟩ := hW
  have hc := (heap_cell hh 0).trans rfl
  have HH := Aside.mk hh
  have HO := Aside.mk ho
  have HK := Aside.mk hk
  have HS := Aside.mk hS
  clear hh ho hk hS
  go_enter Try.func67, Try.ntmps67
  go_wp2_with fail
  refine (groups_any v bs s.size 64 w (by omega) (by omega) HO.out (by omega)).mono ?_
  rintro e w1 ⟨v1, rfl, ho, hf, hg⟩
  have HO1 := Aside.mk ho
  have HF1 := Aside.mk hf
  have HG1 := Aside.mk hg
  have HL := Aside.mk (gs_len s.size 64 (by omega))
  clear ho hf hg
  go_wp2_with (at_builtin; refine append_str rfl (.tmp 15) (.tmp 16) rfl v1 (bs ++ gs s.size 64) s rfl rfl HO1.out (by have := HL.out; simp only [List.length_append]; omega) ?_)
  intro v2 w2 ho hf hg
  have HR := Aside.mk (isW_store HS.out HH.out HK.out ho (HF1.out.trans hf (fun b hb q => (HG1.out b q).elim id (fun z => by omega))) (fun k q => (hg k q).elim (fun z => HG1.out k z) (fun z => .inr (Nat.le_trans HF1.out.size z))))
  have HH1 := Aside.mk (hf.heap (HF1.out.heap HH.out (fun q => (HK.out g q).2 rfl)) (fun q => (HG1.out g q).elim (fun z => (HK.out g z).2 rfl) (fun z => by have := lt_of_heap HH.out; omega)))
  have hc1 := (heap_cell HH1.out 0).trans rfl
  have hf1 := heap_frozen HH1.out 0
  obtain ⟨a1, n1, c1, rfl⟩ := ho.shape
  clear ho hf hg hc
  go_wp2
  go_ret
  obtain ⟨S', h⟩ := HR.out
  exact ⟨S', rfl, by simpa only [List.append_assoc] using h⟩

set_option maxHeartbeats 800000 in
set_option maxRecDepth 100000 in
theorem bytes_any (w : World) (S : Nat → Prop) (g : Nat) (bs : List UInt8) (hW : isW w S g bs) :
    Calls Try.prog 69 #[.pointer (some ⟨g, 0, none⟩)] w fun e w' => e = .returned (.string ⟨bs.toArray⟩) ∧ w' = w := by
  obtain ⟨hS, v, hh, ho, hk⟩ := hW
  have hc := (heap_cell hh 0).trans rfl
  have hcv := ho.conv
  clear hh ho hk hS
  go_enter Try.func69, Try.ntmps69
  go_wp2
  go_ret
  exact ⟨rfl, rfl⟩

/-! ### A writer that was made in the world wB: what there was then is as it was. -/
def AtW (wB w : World) (g : Nat) (bs : List UInt8) : Prop := ∃ S, isW w S g bs ∧ (∀ k, S k → wB.heap.size ≤ k) ∧ Fr (fun _ => False) wB w
theorem AtW.fr {wB w : World} {g : Nat} {bs : List UInt8} (h : AtW wB w g bs) : Fr (fun _ => False) wB w := h.choose_spec.2.2
/-- Other steps between: they leave what there was in w. -/
theorem AtW.pass {wB w w1 : World} {g : Nat} {bs : List UInt8} (h : AtW wB w g bs) (hf : Fr (fun _ => False) w w1) : AtW wB w1 g bs := by
  obtain ⟨S, h1, h2, h3⟩ := h
  exact ⟨S, h1.keep hf (fun _ _ => id), h2, h3.trans hf (fun _ _ q => q)⟩
theorem AtW.step {wB w w1 : World} {g : Nat} {bs' : List UInt8} {S S' : Nat → Prop} (h2 : ∀ k, S k → wB.heap.size ≤ k) (h3 : Fr (fun _ => False) wB w)
    (hw : isW w1 S' g bs') (hf : Fr S w w1) (hg : Gro S S' w.heap.size) : AtW wB w1 g bs' :=
  ⟨S', hw, fun k q => (hg k q).elim (h2 k) (fun z => Nat.le_trans h3.size z), h3.trans hf (fun b hb q => by have := h2 b q; omega)⟩

theorem new_at (w : World) : Calls Try.prog 64 #[] w fun e w' => ∃ g, e = .returned (.pointer (some ⟨g, 0, none⟩)) ∧ AtW w w' g [] :=
  (new_any w).mono fun e w' ⟨S, he, h1, h2, h3⟩ => ⟨_, he, S, h1, fun k q => (h3 k q).elim False.elim id, h2⟩
theorem raw_at (wB w : World) (g : Nat) (bs : List UInt8) (s : ByteArray) (h : AtW wB w g bs) (hl : bs.length + s.size ≤ 140737488355328) :
    Calls Try.prog 65 #[.pointer (some ⟨g, 0, none⟩), .string s] w fun e w' => e = .returned (.int .i64 0) ∧ AtW wB w' g (bs ++ s.data.toList) := by
  obtain ⟨S, h1, h2, h3⟩ := h
  exact (raw_any w S g bs s h1 hl).mono fun e w' ⟨S', he, q1, q2, q3⟩ => ⟨he, AtW.step h2 h3 q1 q2 q3⟩
theorem count_at (wB w : World) (g : Nat) (bs : List UInt8) (i : Int) (h0 : 0 ≤ i) (hi : i < 9223372036854775808) (h : AtW wB w g bs) (hl : bs.length + 20 ≤ 140737488355328) :
    Calls Try.prog 66 #[.pointer (some ⟨g, 0, none⟩), .int .i64 i] w fun e w' => e = .returned (.int .i64 0) ∧ AtW wB w' g (bs ++ gs i.toNat 64) := by
  obtain ⟨S, h1, h2, h3⟩ := h
  exact (count_any w S g bs i h0 hi h1 hl).mono fun e w' ⟨S', he, q1, q2, q3⟩ => ⟨he, AtW.step h2 h3 q1 q2 q3⟩
theorem text_at (wB w : World) (g : Nat) (bs : List UInt8) (s : ByteArray) (h : AtW wB w g bs) (hl : bs.length + 20 + s.size ≤ 140737488355328) :
    Calls Try.prog 67 #[.pointer (some ⟨g, 0, none⟩), .string s] w fun e w' => e = .returned (.int .i64 0) ∧ AtW wB w' g (bs ++ gs s.size 64 ++ s.data.toList) := by
  obtain ⟨S, h1, h2, h3⟩ := h
  exact (text_any w S g bs s h1 hl).mono fun e w' ⟨S', he, q1, q2, q3⟩ => ⟨he, AtW.step h2 h3 q1 q2 q3⟩
theorem bytes_at (wB w : World) (g : Nat) (bs : List UInt8) (h : AtW wB w g bs) :
    Calls Try.prog 69 #[.pointer (some ⟨g, 0, none⟩)] w fun e w' => e = .returned (.string ⟨bs.toArray⟩) ∧ w' = w := by
  obtain ⟨S, h1, h2, h3⟩ := h
  exact bytes_any w S g bs h1

end Go.Proofs.Ytodhkdmkkjhnnaa
