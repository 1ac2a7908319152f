/- The walk of siloref17.Split. -/
import Derived.Test.YtodhkdmkkjhnnaaPureS
import Derived.Test.YtodhkdmkkjhnnaaElem
import Derived.Test.YtodhkdmkkjhnnaaRefOpen
set_option linter.unusedVariables false
set_option linter.unusedSimpArgs false
namespace Go.Proofs.Ytodhkdmkkjhnnaa
open Go.RowKit

def recCs (l : List It) : List (List Value) := l.map fun x => recL x.r
def endCs (l : List It) : List (List Value) := l.map fun x => [Value.int .i64 ((x.at_ + x.len : Nat) : Int)]

set_option maxHeartbeats 12800000 in
set_option maxRecDepth 100000 in
theorem rsplitR_any (w : World) (s : List UInt8) (hs : s.length ≤ 1000000) : Calls Try.prog 31 #[.string ⟨s.toArray⟩] w fun e w' => ∃ u v, e = .returned (.tuple #[u, v, .int .i64 ((splitR 0 s).2 : Nat)]) ∧
    OwnE w' 25 66 u (recCs (splitR 0 s).1) ∧ OwnE w' 3 1 v (endCs (splitR 0 s).1) ∧ Fr (fun _ => False) w w' := by
  have hsz : (ByteArray.mk s.toArray).size = s.length := by simp [ByteArray.size]
  have HS0 := Aside.mk (SplitRAt.start s)
  go_enter Try.func31, Try.ntmps31
  go_wp2_with fail
  go_loopw [5, 6, 7] (fun i j k wr => ∃ acc, ∃ at_ : Nat, k = .int .i64 at_ ∧ Aside (SplitRAt s acc at_) ∧ Aside (OwnE wr 25 66 i (recCs acc)) ∧ Aside (OwnE wr 3 1 j (endCs acc)) ∧ Aside (∀ b, own i b → w.heap.size ≤ b ∧ b < wr.heap.size ∧ ¬ own j b) ∧ Aside (∀ b, own j b → w.heap.size ≤ b ∧ b < wr.heap.size) ∧ Aside (Fr (fun _ => False) w wr)) (fun _ _ k _ => s.length - (intOf k).toNat)
  case atStart => exact ⟨[], 0, rfl, HS0, ⟨OwnE.nil _ _ _⟩, ⟨OwnE.nil _ _ _⟩, ⟨fun k hk => by simp [own, Value.ownBlock] at hk⟩, ⟨fun k hk => by simp [own, Value.ownBlock] at hk⟩, ⟨Fr.refl _ _⟩⟩
  case round =>
    obtain ⟨acc, at_, rfl, HS, HO, HE, HKO, HKE, HF⟩ := hrel
    have hle := HS.out.le
    have hdl : (s.drop at_).length = s.length - at_ := by simp
    have z0 : (ByteArray.mk (s.drop at_).toArray).size = s.length - at_ := by simp [ByteArray.size]
    have hx0 : (ByteArray.mk s.toArray).extract at_ s.length = ⟨(s.drop at_).toArray⟩ := ba_from _ _
    have y0 : (0 : Int) ≤ (at_ : Int) := by omega
    have y1 : (at_ : Int) ≤ (s.length : Int) := by omega
    have HB := Aside.mk (fun W => begin_any W ⟨(s.drop at_).toArray⟩ (by rw [z0]; omega))
    rw [show (ByteArray.mk (s.drop at_).toArray).data.toList = s.drop at_ by simp] at HB
    have hts := rdRec_size (s.drop at_)
    have hok := rdRec_ok (s.drop at_)
    have HSTOP := Aside.mk (fun h => HS.out.stop (stepR_no h))
    have HSTEP := Aside.mk (fun n e r0 r hr hO h => HS.out.step (n := n) (e := e) (r0 := r0) (r := r) hr hO h)
    have HGO := Aside.mk (stepR_of (l := s.drop at_))
    rw [hdl] at hts
    generalize hT : rdRec (s.drop at_) = T at *
    obtain ⟨r0, n, e0⟩ := T
    simp only at hts hok HSTOP HGO
    unfold BPost at HB
    simp only at HB
    go_wp2_with fail
    refine (HB.out _).mono ?_
    rintro e x1 ⟨rfl, hf⟩
    have HO1 := Aside.mk (HO.out.keep hf (fun _ _ => id))
    have HE1 := Aside.mk (HE.out.keep hf (fun _ _ => id))
    have HF1 := Aside.mk (HF.out.trans hf (fun _ _ q => q))
    have hsz1 := Aside.mk hf.size
    have HX1 := Aside.mk (isRec.fresh 25 x1 (.cells recLit 25) rfl)
    have hfa : Fr (fun _ => False) x1 (x1.alloc (.cells recLit 25)) := (Fr.refl _ _).alloc _
    have HOa := Aside.mk (HO1.out.keep hfa (fun _ _ => id))
    have HEa := Aside.mk (HE1.out.keep hfa (fun _ _ => id))
    have HFa := Aside.mk (HF1.out.trans hfa (fun _ _ q => q))
    clear hf hfa
    go_wp2_with ((with_reducible refine gate (.store 25 (.tmp 8) (.tmp 17)) rfl ?_); refine st_all recT_ref rfl rfl (.tmp 8) (.tmp 17) rfl x1.heap.size _ r0 (recV r0) rfl rfl rfl hok HX1.out ?_)
    intro x2 hx hf
    have HO2 := Aside.mk (HOa.out.keep hf (fun b hb q => by have q2 : b = x1.heap.size := q; have := HKO.out b hb; have := hsz1.out; omega))
    have HE2 := Aside.mk (HEa.out.keep hf (fun b hb q => by have q2 : b = x1.heap.size := q; have := HKE.out b hb; have := hsz1.out; omega))
    have HF2 := Aside.mk (HFa.out.trans hf (fun b hb q => by have q2 : b = x1.heap.size := q; have := HF1.out.size; omega))
    have hsz2 : Aside (x1.heap.size < x2.heap.size) := ⟨lt_of_heap hx.1⟩
    clear hx hf
    by_cases he : e0 = 0
    · subst he
      have z1 : IntKind.i64.wrap ((s.length : Int) - (at_ : Int)) = (s.length : Int) - (at_ : Int) := by simp [IntKind.wrap, IntKind.bits, IntKind.signed]; omega
      have z2 : IntKind.i64.wrap ((s.length : Int) - (at_ : Int) - (n : Int)) = (s.length : Int) - (at_ : Int) - (n : Int) := by simp [IntKind.wrap, IntKind.bits, IntKind.signed]; omega
      by_cases h4 : n + 4 ≤ s.length - at_
      · have q2 : decide ((s.length : Int) - (at_ : Int) - (n : Int) < 4) = false := by simp; omega
        have z3 : IntKind.i64.wrap ((n : Int) + 4) = ((n + 4 : Nat) : Int) := by simp [IntKind.wrap, IntKind.bits, IntKind.signed]; omega
        have z4 : (0 : Int) ≤ ((n + 4 : Nat) : Int) := by omega
        have z5 : ((n + 4 : Nat) : Int) ≤ ((s.length - at_ : Nat) : Int) := by omega
        have hx : (ByteArray.mk (s.drop at_).toArray).extract 0 (n + 4) = ⟨((s.drop at_).take (n + 4)).toArray⟩ := ba_to _ _
        have HP := Aside.mk (fun W => refopen_any W ⟨((s.drop at_).take (n + 4)).toArray⟩ (by simp [ByteArray.size]; omega))
        rw [show (ByteArray.mk ((s.drop at_).take (n + 4)).toArray).data.toList = (s.drop at_).take (n + 4) by simp] at HP
        have hokq := openR_ok ((s.drop at_).take (n + 4))
        generalize hC : openR ((s.drop at_).take (n + 4)) = C at *
        obtain ⟨r, C2⟩ := C
        simp only at hokq HP HSTOP HGO
        go_wp2_with fail
        refine (HP.out _).mono ?_
        rintro e x3 ⟨rfl, hf⟩
        have HO3 := Aside.mk (HO2.out.keep hf (fun _ _ => id))
        have HE3 := Aside.mk (HE2.out.keep hf (fun _ _ => id))
        have HF3 := Aside.mk (HF2.out.trans hf (fun _ _ q => q))
        have hsz3 := Aside.mk hf.size
        have HX3 := Aside.mk (isRec.fresh 25 x3 (.cells recLit 25) rfl)
        have hfa : Fr (fun _ => False) x3 (x3.alloc (.cells recLit 25)) := (Fr.refl _ _).alloc _
        have HOb := Aside.mk (HO3.out.keep hfa (fun _ _ => id))
        have HEb := Aside.mk (HE3.out.keep hfa (fun _ _ => id))
        have HFb := Aside.mk (HF3.out.trans hfa (fun _ _ q => q))
        clear hf hfa HP
        go_wp2_with ((with_reducible refine gate (.store 25 (.tmp 11) (.tmp 42)) rfl ?_); refine st_all recT_ref rfl rfl (.tmp 11) (.tmp 42) rfl x3.heap.size _ r (recV r) rfl rfl rfl hokq HX3.out ?_)
        intro x4 hx hf
        have hbig : Aside (∀ b, (own u5 b ∨ own u6 b) → b < x3.heap.size) := ⟨fun b q => by
          have h1 := hsz1.out; have h2 := hsz2.out; have h3 := hsz3.out
          rcases q with q | q
          · have := HKO.out b q; omega
          · have := HKE.out b q; omega⟩
        have HO4 := Aside.mk (HOb.out.keep hf (fun b hb q => by have q2 : b = x3.heap.size := q; have := hbig.out b (.inl hb); omega))
        have HE4 := Aside.mk (HEb.out.keep hf (fun b hb q => by have q2 : b = x3.heap.size := q; have := hbig.out b (.inr hb); omega))
        have HF4 := Aside.mk (HFb.out.trans hf (fun b hb q => by have q2 : b = x3.heap.size := q; have := HF3.out.size; omega))
        have HX4 := Aside.mk hx
        have hsz4 : Aside (x3.heap.size < x4.heap.size) := ⟨lt_of_heap hx.1⟩
        clear hx hf
        by_cases hfr : C2 = 0
        · subst hfr
          have HST := Aside.mk (HSTEP.out n 0 r0 r rfl hC (HGO.out trivial (by rw [hdl]; omega) rfl))
          have hm1 := HS.out.few
          have z7 : IntKind.i64.wrap ((at_ : Int) + (n : Int)) = (at_ : Int) + (n : Int) := by simp [IntKind.wrap, IntKind.bits, IntKind.signed]; omega
          have z8 : IntKind.i64.wrap ((at_ : Int) + (n : Int) + 4) = ((at_ + (n + 4) : Nat) : Int) := by simp [IntKind.wrap, IntKind.bits, IntKind.signed]; omega
          have hlR := recL_len hokq
          go_wp2_with (first
            | ((with_reducible refine gate (.load 25 (.tmp 11)) rfl ?_); refine ld_all recT_ref (by simp [Region.wanted]) (.tmp 11) rfl x3.heap.size r rfl HX4.out ?_)
            | ((with_reducible refine gate (.buildSlice 54 1 #[(0, .tmp 54)]) rfl ?_); refine bs_one elem_rec rfl (.tmp 54) rfl (recV r) (recL r) rfl rfl hlR ?_)
            | (at_builtin; refine append_elem elem_rec rfl (.tmp 53) (.tmp 55) rfl u5 (recCs acc) (recL r) rfl rfl HO4.out hlR (recL_one r) (by simp [recCs]; omega) ?_))
          intro v1 x5 ho hf hg
          have hown1 : ∀ b, own v1 b → w.heap.size ≤ b ∧ ¬ own u6 b := fun b q => by
            have h3 := hsz3.out; have h4 := hsz4.out; have h5 := HF3.out.size
            rcases hg b q with q | q
            · exact ⟨(HKO.out b q).1, (HKO.out b q).2.2⟩
            · exact ⟨by omega, fun q2 => by have := hbig.out b (.inr q2); omega⟩
          have HOWN := Aside.mk hown1
          have HO5 := Aside.mk ho
          have HE5 := Aside.mk (HE4.out.keep hf (fun b hb q => (HKO.out b q).2.2 hb))
          have HF5 := Aside.mk (HF4.out.trans hf (fun b hb q => by have := HKO.out b q; omega))
          have hsz5 := Aside.mk hf.size
          clear ho hf hg hown1
          go_wp2_with (at_builtin; refine append_elem elem_int rfl (.tmp 57) (.tmp 59) rfl u6 (endCs acc) [.int .i64 ((at_ + (n + 4) : Nat) : Int)] rfl rfl HE5.out rfl (by intro u hu; simp only [List.mem_singleton] at hu; subst hu; rfl) (by simp [endCs]; omega) ?_)
          intro v2 x6 ho hf hg
          have hlt5 : ∀ b, own v1 b → b < x5.heap.size := fun b q => by
            have h2 := HO5.out.2
            rcases h2 with ⟨hv, _⟩ | ⟨g, cap, cur, hv, _, hh, _⟩
            · subst hv; simp [own, Value.ownBlock] at q
            · subst hv
              have : g = b := by simpa [own, Value.ownBlock] using q
              subst this; exact lt_of_heap hh
          have HO6 := Aside.mk (HO5.out.keep hf (fun b hb q => (HOWN.out b hb).2 q))
          have HE6 := Aside.mk ho
          have HF6 := Aside.mk (HF5.out.trans hf (fun b hb q => by have := HKE.out b q; omega))
          have hlt6 : ∀ b, own v2 b → b < x6.heap.size := fun b q => by
            have h2 := ho.2
            rcases h2 with ⟨hv, _⟩ | ⟨g, cap, cur, hv, _, hh, _⟩
            · subst hv; simp [own, Value.ownBlock] at q
            · subst hv
              have : g = b := by simpa [own, Value.ownBlock] using q
              subst this; exact lt_of_heap hh
          have hsz6 := hf.size
          have HK6 : Aside (∀ b, own v1 b → w.heap.size ≤ b ∧ b < x6.heap.size ∧ ¬ own v2 b) := ⟨fun b q => ⟨(HOWN.out b q).1, by have := hlt5 b q; omega, fun q2 => by
            rcases hg b q2 with q3 | q3
            · exact (HOWN.out b q).2 q3
            · have := hlt5 b q; omega⟩⟩
          have HL6 : Aside (∀ b, own v2 b → w.heap.size ≤ b ∧ b < x6.heap.size) := ⟨fun b q => ⟨by
            rcases hg b q with q3 | q3
            · exact (HKE.out b q3).1
            · have h1 := HF5.out.size; omega, hlt6 b q⟩⟩
          clear ho hf hg hlt5 hlt6 hsz6
          go_wp2
          go_roundw
          case rel => exact ⟨_, _, rfl, HST, ⟨by simpa [recCs] using HO6.out⟩, ⟨by simpa [endCs] using HE6.out⟩, HK6, HL6, HF6⟩
          case measure => simp [intOf]; omega
        · have hb : ((C2 : Int) == 0) = false := by simp; omega
          have HSP := Aside.mk (HSTOP.out (fun q => hfr q.2.2))
          clear hfr
          go_wp2
          go_ret3
          rw [HSP.out]
          exact ⟨_, _, rfl, HO4.out, HE4.out, HF4.out⟩
      · have q2 : decide ((s.length : Int) - (at_ : Int) - (n : Int) < 4) = true := by simp; omega
        have HSP := Aside.mk (HSTOP.out (fun q => h4 (by have := q.2.1; rw [hdl] at this; exact this)))
        go_wp2
        go_ret3
        rw [HSP.out]
        exact ⟨_, _, rfl, HO2.out, HE2.out, HF2.out⟩
    · have heb : ((e0 : Int) == 0) = false := by simp; omega
      have HSP := Aside.mk (HSTOP.out (fun q => he q.1))
      go_wp2
      go_ret3
      rw [HSP.out]
      exact ⟨_, _, rfl, HO2.out, HE2.out, HF2.out⟩
end Go.Proofs.Ytodhkdmkkjhnnaa
