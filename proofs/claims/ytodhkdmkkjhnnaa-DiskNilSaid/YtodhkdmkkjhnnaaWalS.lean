/- The walks of wal: Frame, Split on the text of awake, and silolaw12.awake. -/
import Derived.Test.YtodhkdmkkjhnnaaBoxPack
import Derived.Test.YtodhkdmkkjhnnaaBoxKey
import Derived.Test.YtodhkdmkkjhnnaaSixR
import Derived.Test.YtodhkdmkkjhnnaaCrcW
set_option linter.unusedVariables false
set_option linter.unusedSimpArgs false
namespace Go.Proofs.Ytodhkdmkkjhnnaa
open Go.RowKit

/-- A record's bytes in a log. -/
def frameB (l : List UInt8) : List UInt8 := Crc.put (gs l.length 64 ++ l)

set_option maxHeartbeats 1600000 in
set_option maxRecDepth 100000 in
theorem wframe_any (w : World) (l : List UInt8) (hl : l.length ≤ 1000000000) : Calls Try.prog 81 #[.string ⟨l.toArray⟩] w fun e w' => e = .returned (.string ⟨(frameB l).toArray⟩) ∧ Fr (fun _ => False) w w' := by
  have hsz : (ByteArray.mk l.toArray).size = l.length := by simp [ByteArray.size]
  have hg := gs_len l.length 64 (by omega)
  have HLN : Aside ((ByteArray.mk ([] ++ gs l.length 64 ++ l).toArray).size ≤ 140737488355328) := ⟨by simp [ByteArray.size]; omega⟩
  have HFB : Aside (frameB l = Crc.put ([] ++ gs l.length 64 ++ l)) := ⟨by unfold frameB; simp⟩
  clear hg
  go_enter Try.func81, Try.ntmps81
  go_wp2_with fail
  refine (new_at _).mono ?_
  rintro e w1 ⟨g, rfl, hW⟩
  have HW1 := Aside.mk hW
  clear hW
  go_wp2_with fail
  refine (text_at _ w1 g _ ⟨l.toArray⟩ HW1.out (by rw [hsz]; simp; omega)).mono ?_
  rintro e w2 ⟨rfl, hW⟩
  have HW2 : Aside (AtW w w2 g ([] ++ gs l.length 64 ++ l)) := ⟨by rw [hsz] at hW; exact hW⟩
  clear hW
  go_wp2_with fail
  refine (bytes_at _ w2 g _ HW2.out).mono ?_
  rintro e w3 ⟨rfl, rfl⟩
  go_wp2_with fail
  refine (crcput_any _ _ HLN.out).mono ?_
  rintro e w4 ⟨rfl, hf⟩
  have HF := Aside.mk (HW2.out.fr.trans hf (fun _ _ q => q))
  clear hf
  go_wp2
  go_ret
  rw [HFB.out]
  exact ⟨rfl, HF.out⟩

/-- v is a slice of the call's own that holds these strings. -/
def OwnT (w : World) (v : Value) (ss : List ByteArray) : Prop := w.ownsRow 0 9 1 v ss.length (ss.map Value.string)
theorem OwnT.nil (w : World) : OwnT w (.slice none 0 0) [] := ⟨by simp, .inl ⟨rfl, rfl⟩⟩
theorem OwnT.keep {w w1 : World} {v : Value} {bs : List ByteArray} {S : Nat → Prop} (h : OwnT w v bs) (hf : Fr S w w1) (hn : ∀ k, own v k → ¬ S k) : OwnT w1 v bs := by
  obtain ⟨h1, h2⟩ := h
  refine ⟨h1, ?_⟩
  rcases h2 with h2 | ⟨g, cap, cur, hv, hg, hh, r⟩
  · exact .inl h2
  · exact .inr ⟨g, cap, cur, hv, hg, hf.heap hh (hn g (by simp [own, hv, Value.ownBlock])), r⟩
theorem OwnT.alloc {w : World} {v : Value} {bs : List ByteArray} (h : OwnT w v bs) (o : Obj) : OwnT (w.alloc o) v bs := World.ownsRow.alloc h o
theorem OwnT.shape {w : World} {v : Value} {bs : List ByteArray} (h : OwnT w v bs) (hne : bs ≠ []) : ∃ a c, v = .slice (some ⟨a, 0, none⟩) bs.length c := by
  rcases h.2 with ⟨rfl, h0⟩ | ⟨g, cap, cur, rfl, _⟩
  · simp at h0; exact absurd h0 hne
  · exact ⟨_, _, rfl⟩
theorem Try.info_string : (Try.prog.info? 9).map (fun i => (i.zero, i.size, i.bytes)) = some (some (.string ⟨#[]⟩), 1, 16) := by kernel_rfl

/-- 'append(v, x)', x a string: v a slice of the call's own. -/
theorem append_string {ops : Array Oper} {rest : List Oper} {o : Oper} {a : Act} {Q : Exit → Act → World → Prop} {W : World} (hgd : o.guard = none) (s x : Operand)
    (ho : o.op = .call { callee := .builtin .append, args := #[s, x], argTypes := #[47, 47] })
    (v : Value) (bs : List ByteArray) (c : ByteArray) (hs : a.eval s = v) (hx : a.eval x = .slice (some ⟨W.heap.size, 0, none⟩) 1 1) (HO : OwnT W v bs) (hl : bs.length + 1 ≤ 1000000000)
    (h : ∀ v1 w1, OwnT w1 v1 (bs ++ [c]) → Fr (own v) W w1 → Gro (own v) (own v1) W.heap.size → wpList Try.prog ops Q rest (a.put o.dst v1) w1) :
    wpList Try.prog ops Q (o :: rest) a (W.alloc (.cells #[.string c] 9)) := by
  obtain ⟨i0, hi, hzz⟩ := Option.map_eq_some_iff.1 Try.info_string
  simp only [Prod.mk.injEq] at hzz
  obtain ⟨hz0, hz1, hz2⟩ := hzz
  refine wpList_append_own_at (W.alloc _) hgd s x 47 ho 0 9 i0 (.string ⟨#[]⟩) 1 16 Try.underlying47 hi hz0 hz1 hz2 rfl (by omega) v bs.length (bs.map Value.string) hs (HO.alloc _) ⟨W.heap.size, 0, none⟩ 1 1 [.string c] hx rfl
    (World.news_of_block (cs := #[.string c]) (t := 9) (fr := (0, 0)) (heap_alloc_new W _)) (by simp [Value.oneCell']) (by simp only [maxLen]; omega) (by omega) (by simp) ?_
  intro v1 w1 hown hg _ hat
  have hg' := World.grownBy.trans (World.grownBy_alloc W _ _) hg
  refine h v1 w1 (by simpa [OwnT] using hown) (Fr.grown hg') (fun k hk => ?_)
  rcases hat with hat | hat
  · exact .inl (by simpa [own, hat] using hk)
  · rw [own, hat] at hk; simp at hk; exact .inr (by omega)

def abFrame : List UInt8 := frameB [97, 98]
theorem ab_frame : abFrame.length = 7 := by unfold abFrame frameB; rw [Crc.put_len]; rw [show ([97, 98] : List UInt8).length = 2 from rfl, show gs 2 64 = [66] by simp [gs, digs_zero]]; rfl
theorem ab_text : rdText (abFrame ++ [66, 97]) = ([97, 98], 3, 0) := by
  have h : abFrame = [66, 97, 98] ++ Crc.four (Crc.sum [66, 97, 98]) := by unfold abFrame frameB; rw [show ([97, 98] : List UInt8).length = 2 from rfl, show gs 2 64 = [66] by simp [gs, digs_zero]]; rfl
  rw [h]
  have hf : ∀ r : List UInt8, rdText ([66, 97, 98] ++ r) = ([97, 98], 3, 0) := fun r => by
    simp [rdText, rdCount, num, numGo]
  rw [List.append_assoc]; exact hf _
theorem tail_text : rdText [66, 97] = ([], 0, 2) := by decide

set_option maxHeartbeats 3200000 in
set_option maxRecDepth 100000 in
theorem wsplit_ab (w : World) : Calls Try.prog 80 #[.string ⟨(abFrame ++ [66, 97]).toArray⟩] w fun e w' => ∃ a c, e = .returned (.tuple #[.slice (some ⟨a, 0, none⟩) 1 c, .int .i64 7]) ∧ w'.cell? ⟨a, 0, none⟩ = some (.string ⟨#[97, 98]⟩) ∧ Fr (fun _ => False) w w' := by
  have HT := Aside.mk ab_text
  have HT2 := Aside.mk tail_text
  have HLN := Aside.mk ab_frame
  have HW := Aside.mk (fun W => wframe_any W [97, 98] (by decide))
  rw [show frameB [97, 98] = abFrame from rfl] at HW
  generalize abFrame = F at *
  have hsz : (ByteArray.mk (F ++ [66, 97]).toArray).size = 9 := by simp [ByteArray.size, HLN.out]
  go_enter Try.func80, Try.ntmps80
  go_wp2_with fail
  refine (over_any _ _).mono ?_
  rintro e w1 ⟨rfl, hR, hf⟩
  have HR1 : Aside (isR w1 w.heap.size (F ++ [66, 97])) := ⟨by simpa using hR⟩
  have HF1 := Aside.mk hf
  clear hR hf
  go_wp2_with fail
  have hd7 : (F ++ [66, 97]).drop 7 = [66, 97] := by rw [← HLN.out]; simp
  have ht7 : (F ++ [66, 97]).take 7 = F := by rw [← HLN.out]; simp
  have hlen : (F ++ [66, 97]).length = 9 := by simp [HLN.out]
  generalize F ++ [66, 97] = T at *
  have Hd7 := Aside.mk hd7
  have Ht7 := Aside.mk ht7
  have Hlen := Aside.mk hlen
  have hx7 : (ByteArray.mk T.toArray).extract 0 7 = ⟨F.toArray⟩ := by rw [ba_to, ht7]
  clear hd7 ht7 hlen
  go_loopw [4] (fun i wr => ∃ d : Nat, d ≤ 1 ∧ (d = 0 → i = .slice none 0 0) ∧ (d = 1 → ∃ a c, i = .slice (some ⟨a, 0, none⟩) 1 c) ∧ Aside (OwnT wr i (if d = 0 then [] else [⟨#[97, 98]⟩])) ∧ Aside (isR wr w.heap.size (if d = 0 then T else [66, 97])) ∧ Aside (∀ k, own i k → w.heap.size < k) ∧ Aside (Fr (fun _ => False) w wr)) (fun i _ => match i with | .slice none _ _ => 1 | _ => 0)
  case atStart => exact ⟨0, by omega, fun _ => rfl, fun h => absurd h (by omega), ⟨OwnT.nil _⟩, HR1, ⟨fun k hk => by simp [own, Value.ownBlock] at hk⟩, HF1⟩
  case round =>
    obtain ⟨d, hd, h0, h1, HO, HR, HK, HF⟩ := hrel
    by_cases hd0 : d = 0
    · obtain rfl := hd0
      obtain rfl := h0 rfl
      simp only [if_true] at HO HR
      clear h0 h1 hd
      have hlt := lt_of_heap HR.out
      go_wp2_with fail
      refine (rest_any _ _ _ HR.out).mono ?_
      rintro e x1 ⟨rfl, rfl⟩
      go_wp2_with fail
      have hq := rtext_any x1 w.heap.size T HR.out (by rw [Hlen.out]; omega)
      rw [HT.out] at hq
      refine hq.mono ?_
      rintro e x2 ⟨rfl, hr, hf⟩
      have HR2 := Aside.mk hr
      have HF2 := Aside.mk (HF.out.trans hf (fun b hb q => by have q2 : b = w.heap.size := q; omega))
      clear hr hf hq
      go_wp2_with fail
      have hq := rraw_any x2 w.heap.size _ 4 (by omega) (by omega) HR2.out (by simp [Hlen.out])
      have hrw : rdRaw (T.drop 3) (4 : Int).toNat = ((T.drop 3).take 4, 4, 0) := by unfold rdRaw; rw [if_neg (by simp [Hlen.out])]; rfl
      rw [hrw] at hq
      refine hq.mono ?_
      rintro e x3 ⟨rfl, hr, hf⟩
      have HR3 : Aside (isR x3 w.heap.size [66, 97]) := ⟨by
        have e : (T.drop 3).drop 4 = [66, 97] := by rw [List.drop_drop]; exact Hd7.out
        simp only [e] at hr; exact hr⟩
      have HF3 := Aside.mk (HF2.out.trans hf (fun b hb q => by have q2 : b = w.heap.size := q; omega))
      clear hr hf hq hrw
      go_wp2_with fail
      refine (HW.out _).mono ?_
      rintro e x4 ⟨rfl, hf⟩
      have HR4 := Aside.mk (HR3.out.keep hf id)
      have HF4 := Aside.mk (HF3.out.trans hf (fun _ _ q => q))
      clear hf
      go_wp2_with fail
      refine (rest_any _ _ _ HR4.out).mono ?_
      rintro e x5 ⟨rfl, rfl⟩
      have hlt5 := lt_of_heap HR4.out
      go_wp2_with (at_builtin; refine append_string rfl (.tmp 51) (.tmp 53) rfl (.slice none 0 0) [] ⟨#[97, 98]⟩ rfl rfl (OwnT.nil _) (by simp) ?_)
      intro v1 x6 ho hf hg
      obtain ⟨a, c, rfl⟩ := ho.shape (by simp)
      have HO6 : Aside (OwnT x6 (.slice (some ⟨a, 0, none⟩) 1 c) [⟨#[97, 98]⟩]) := ⟨ho⟩
      have HR6 := Aside.mk (HR4.out.keep hf (by simp [own, Value.ownBlock]))
      have HF6 := Aside.mk (HF4.out.trans hf (fun b hb q => by simp [own, Value.ownBlock] at q))
      have HK6 : Aside (∀ k, own (.slice (some ⟨a, 0, none⟩) 1 c) k → w.heap.size < k) := ⟨fun k hk => by
        rcases hg k hk with q | q
        · simp [own, Value.ownBlock] at q
        · omega⟩
      clear ho hf hg
      go_wp2
      go_roundw
      case rel => exact ⟨1, by omega, fun h => absurd h (by omega), fun _ => ⟨a, c, rfl⟩, HO6, HR6, HK6, HF6⟩
      case measure => simp
    · have hd1 : d = 1 := by omega
      obtain ⟨a, c, rfl⟩ := h1 hd1
      simp only [if_neg hd0] at HO HR
      clear h0 h1 hd hd0 hd1
      have hlt := lt_of_heap HR.out
      go_wp2_with fail
      refine (rest_any _ _ _ HR.out).mono ?_
      rintro e x1 ⟨rfl, rfl⟩
      go_wp2_with fail
      have hq := rtext_any x1 w.heap.size [66, 97] HR.out (by decide)
      rw [HT2.out] at hq
      refine hq.mono ?_
      rintro e x2 ⟨rfl, hr, hf⟩
      have HO2 := Aside.mk (HO.out.keep hf (fun k hk q => by have := HK.out k hk; have q2 : k = w.heap.size := q; omega))
      have HF2 := Aside.mk (HF.out.trans hf (fun b hb q => by have q2 : b = w.heap.size := q; omega))
      clear hr hf hq
      go_wp2
      go_ret2
      exact ⟨a, c, rfl, World.ownsRow.cells HO2.out (g := a) rfl 0 _ rfl, HF2.out⟩

set_option maxHeartbeats 1600000 in
set_option maxRecDepth 100000 in
theorem awake12_any (w : World) : Calls Try.prog 22 #[] w fun e w' => e = .returned (.bool true) ∧ Fr (fun _ => False) w w' := by
  have HW := Aside.mk (fun W => wframe_any W [97, 98] (by decide))
  rw [show frameB [97, 98] = abFrame from rfl] at HW
  have HS := Aside.mk (fun W => wsplit_ab W)
  have hcat : (ByteArray.mk abFrame.toArray) ++ ⟨#[66, 97]⟩ = ⟨(abFrame ++ [66, 97]).toArray⟩ := by rw [ByteArray.mk_append_mk]
  have hfs : (ByteArray.mk abFrame.toArray).size = 7 := by simp [ByteArray.size, ab_frame]
  generalize abFrame = F at *
  generalize F ++ [66, 97] = T at *
  go_enter Try.func22, Try.ntmps22
  go_wp2_with fail
  refine (HW.out _).mono ?_
  rintro e w1 ⟨rfl, hf⟩
  have HF1 := Aside.mk hf
  clear hf
  go_wp2_with fail
  refine (HS.out _).mono ?_
  rintro e w2 ⟨a, c, rfl, hc, hf⟩
  have HF2 := Aside.mk (HF1.out.trans hf (fun _ _ q => q))
  clear hf
  go_wp2
  go_ret
  exact ⟨rfl, HF2.out⟩
end Go.Proofs.Ytodhkdmkkjhnnaa
