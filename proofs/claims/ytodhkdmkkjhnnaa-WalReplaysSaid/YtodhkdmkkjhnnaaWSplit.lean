/- The walk of wal.Split, for any bytes. -/
import Derived.Test.YtodhkdmkkjhnnaaPureW
set_option linter.unusedVariables false
set_option linter.unusedSimpArgs false
namespace Go.Proofs.Ytodhkdmkkjhnnaa
open Go.RowKit

set_option maxHeartbeats 6400000 in
set_option maxRecDepth 100000 in
theorem wsplit_any (w : World) (s : List UInt8) (hs : s.length ≤ 1000000) : Calls Try.prog 80 #[.string ⟨s.toArray⟩] w fun e w' => ∃ v, e = .returned (.tuple #[v, .int .i64 ((splitW s).2 : Nat)]) ∧ OwnT w' v (splitW s).1 ∧ (∀ k, own v k → w.heap.size ≤ k) ∧ Fr (fun _ => False) w w' := by
  have HW := Aside.mk (fun W l hl => wframe_any W l hl)
  have hsz : (ByteArray.mk s.toArray).size = s.length := by simp [ByteArray.size]
  have HS0 := Aside.mk (SplitAt.start s)
  go_enter Try.func80, Try.ntmps80
  go_wp2_with fail
  refine (over_any _ _).mono ?_
  rintro e w1 ⟨rfl, hR, hf⟩
  have HR1 : Aside (isR w1 w.heap.size (s.drop 0)) := ⟨by simpa using hR⟩
  have HF1 := Aside.mk hf
  clear hR hf
  go_wp2_with fail
  go_loopw [4] (fun i wr => ∃ acc, ∃ at_ : Nat, Aside (SplitAt s acc at_) ∧ Aside (OwnT wr i acc) ∧ Aside (isR wr w.heap.size (s.drop at_)) ∧ Aside (∀ k, own i k → w.heap.size < k) ∧ Aside (Fr (fun _ => False) w wr)) (fun _ wr => match wr.cell? ⟨w.heap.size, 0, none⟩ with | some (.string t) => t.size | _ => 0)
  case atStart => exact ⟨[], 0, HS0, ⟨OwnT.nil _⟩, HR1, ⟨fun k hk => by simp [own, Value.ownBlock] at hk⟩, HF1⟩
  case round =>
    obtain ⟨acc, at_, HS, HO, HR, HK, HF⟩ := hrel
    have hlt := lt_of_heap HR.out
    have hle := HS.out.le
    go_wp2_with fail
    refine (rest_any _ _ _ HR.out).mono ?_
    rintro e x1 ⟨rfl, rfl⟩
    have hM0 : (match x1.cell? ⟨w.heap.size, 0, none⟩ with | some (.string t) => t.size | _ => 0) = s.length - at_ := by
      have q : x1.cell? ⟨w.heap.size, 0, none⟩ = some (.string ⟨(s.drop at_).toArray⟩) := heap_cell HR.out 0
      rw [q]; simp [ByteArray.size]
    have HM0 := Aside.mk hM0
    clear hM0
    go_wp2_with fail
    have hq := rtext_any x1 w.heap.size (s.drop at_) HR.out (by simp; omega)
    have htl := rdText_len (s.drop at_)
    have hts := rdText_size (s.drop at_)
    have HSTOP := Aside.mk (fun h => HS.out.stop (stepW_no h))
    have HSTEP := Aside.mk (fun t m e hr h => HS.out.step (t := t) (m := m) (e := e) hr h)
    have HGO := Aside.mk (stepW_of (l := s.drop at_))
    have hdl : (s.drop at_).length = s.length - at_ := by simp
    rw [hdl] at htl hts
    generalize hT : rdText (s.drop at_) = T at *
    obtain ⟨t, m, e0⟩ := T
    simp only at hq htl hts HSTOP HGO
    by_cases he : e0 = 0
    · subst he
      refine hq.mono ?_
      rintro e x2 ⟨rfl, hr, hf⟩
      have HR2 := Aside.mk hr
      have HO2 := Aside.mk (HO.out.keep hf (fun k hk q => by have := HK.out k hk; have q2 : k = w.heap.size := q; omega))
      have HF2 := Aside.mk (HF.out.trans hf (fun b hb q => by have q2 : b = w.heap.size := q; omega))
      clear hr hf hq
      go_wp2_with fail
      have hq := rraw_any x2 w.heap.size _ 4 (by omega) (by omega) HR2.out (by simp; omega)
      by_cases h4 : m + 4 ≤ s.length - at_
      · have hrw : rdRaw ((s.drop at_).drop m) (4 : Int).toNat = (((s.drop at_).drop m).take 4, 4, 0) := by unfold rdRaw; rw [if_neg (by simp; omega)]; rfl
        rw [hrw] at hq
        refine hq.mono ?_
        rintro e x3 ⟨rfl, hr, hf⟩
        have HR3 : Aside (isR x3 w.heap.size (s.drop (at_ + (m + 4)))) := ⟨by
          have e : ((s.drop at_).drop m).drop 4 = s.drop (at_ + (m + 4)) := by simp only [List.drop_drop]; congr 1
          simp only [e] at hr; exact hr⟩
        have HO3 := Aside.mk (HO2.out.keep hf (fun k hk q => by have := HK.out k hk; have q2 : k = w.heap.size := q; omega))
        have HF3 := Aside.mk (HF2.out.trans hf (fun b hb q => by have q2 : b = w.heap.size := q; omega))
        clear hr hf hq hrw
        have htz : (ByteArray.mk t.toArray).size = t.length := by simp [ByteArray.size]
        have q1 : decide ((1048576 : Int) < (t.length : Int)) = false := by simp; omega
        go_wp2_with fail
        refine (HW.out _ t (by omega)).mono ?_
        rintro e x4 ⟨rfl, hf⟩
        have HR4 := Aside.mk (HR3.out.keep hf id)
        have HO4 := Aside.mk (HO3.out.keep hf (fun _ _ => id))
        have HF4 := Aside.mk (HF3.out.trans hf (fun _ _ q => q))
        clear hf
        go_wp2_with fail
        refine (rest_any _ _ _ HR4.out).mono ?_
        rintro e x5 ⟨rfl, rfl⟩
        have hlt5 := lt_of_heap HR4.out
        have z1 : (ByteArray.mk (s.drop at_).toArray).size = s.length - at_ := by simp [ByteArray.size]
        have z2 : (ByteArray.mk (s.drop (at_ + (m + 4))).toArray).size = s.length - (at_ + (m + 4)) := by simp [ByteArray.size]
        have z3 : IntKind.i64.wrap (((s.length - at_ : Nat) : Int) - ((s.length - (at_ + (m + 4)) : Nat) : Int)) = ((m + 4 : Nat) : Int) := by simp [IntKind.wrap, IntKind.bits, IntKind.signed]; omega
        have z4 : (0 : Int) ≤ ((m + 4 : Nat) : Int) := by omega
        have z5 : ((m + 4 : Nat) : Int) ≤ ((s.length - at_ : Nat) : Int) := by omega
        have hx : (ByteArray.mk (s.drop at_).toArray).extract 0 (m + 4) = ⟨((s.drop at_).take (m + 4)).toArray⟩ := ba_to _ _
        by_cases hfr : frameB t = (s.drop at_).take (m + 4)
        · have HST := Aside.mk (HSTEP.out t m 0 rfl (HGO.out trivial (by rw [hdl]; omega) hfr))
          have hb : (frameB t == (s.drop at_).take (m + 4)) = true := by rw [hfr]; simp
          have hm1 := HS.out.few
          have hM1 : ∀ W, Fr (own u4) x5 W → (match W.cell? ⟨w.heap.size, 0, none⟩ with | some (.string t) => t.size | _ => 0) = s.length - (at_ + (m + 4)) := fun W hf => by
            have q : W.cell? ⟨w.heap.size, 0, none⟩ = some (.string ⟨(s.drop (at_ + (m + 4))).toArray⟩) := heap_cell (hf.heap HR4.out (fun q => by have := HK.out _ q; omega)) 0
            rw [q]; exact z2
          have HM1 := Aside.mk hM1
          clear hfr hM1
          go_wp2_with (at_builtin; refine append_string rfl (.tmp 51) (.tmp 53) rfl u4 acc ⟨t.toArray⟩ rfl rfl HO4.out (by omega) ?_)
          intro v1 x6 ho hf hg
          have HO6 := Aside.mk ho
          have HR6 := Aside.mk (HR4.out.keep hf (fun q => by have := HK.out _ q; omega))
          have HF6 := Aside.mk (HF4.out.trans hf (fun b hb q => by have := HK.out _ q; omega))
          have HK6 : Aside (∀ k, own v1 k → w.heap.size < k) := ⟨fun k hk => by
            rcases hg k hk with q | q
            · exact HK.out k q
            · omega⟩
          have HM6 := Aside.mk (HM1.out x6 hf)
          clear ho hf hg
          go_wp2
          go_roundw
          case rel => exact ⟨_, _, HST, HO6, HR6, HK6, HF6⟩
          case measure => rw [HM0.out, HM6.out]; omega
        · have hb : (frameB t == (s.drop at_).take (m + 4)) = false := beq_eq_false_iff_ne.2 hfr
          have HSP := Aside.mk <| HSTOP.out (fun q => hfr q.2.2)
          have z6 : IntKind.i64.wrap ((s.length : Int) - ((s.length - at_ : Nat) : Int)) = (at_ : Int) := by simp [IntKind.wrap, IntKind.bits, IntKind.signed]; omega
          clear hfr
          go_wp2
          go_ret2
          rw [HSP.out]
          exact ⟨_, rfl, HO4.out, fun k hk => Nat.le_of_lt (HK.out k hk), HF4.out⟩
      · have HSP := Aside.mk <| HSTOP.out (fun q => h4 (by have := q.2.1; rw [hdl] at this; exact this))
        have hrw : rdRaw ((s.drop at_).drop m) (4 : Int).toNat = ([], 0, 2) := by unfold rdRaw; rw [if_pos (by simp; omega)]
        rw [hrw] at hq
        refine hq.mono ?_
        rintro e x3 ⟨rfl, hr, hf⟩
        have HO3 := Aside.mk (HO2.out.keep hf (fun k hk q => by have := HK.out k hk; have q2 : k = w.heap.size := q; omega))
        have HF3 := Aside.mk (HF2.out.trans hf (fun b hb q => by have q2 : b = w.heap.size := q; omega))
        clear hr hf hq hrw
        have z1 : (ByteArray.mk (s.drop at_).toArray).size = s.length - at_ := by simp [ByteArray.size]
        have z3 : IntKind.i64.wrap ((s.length : Int) - ((s.length - at_ : Nat) : Int)) = (at_ : Int) := by simp [IntKind.wrap, IntKind.bits, IntKind.signed]; omega
        go_wp2
        go_ret2
        rw [HSP.out]
        exact ⟨_, rfl, HO3.out, fun k hk => Nat.le_of_lt (HK.out k hk), HF3.out⟩
    · have heb : ((e0 : Int) == 0) = false := by simp; omega
      have HSP := Aside.mk <| HSTOP.out (fun q => he q.1)
      refine hq.mono ?_
      rintro e x2 ⟨rfl, hr, hf⟩
      have HO2 := Aside.mk (HO.out.keep hf (fun k hk q => by have := HK.out k hk; have q2 : k = w.heap.size := q; omega))
      have HF2 := Aside.mk (HF.out.trans hf (fun b hb q => by have q2 : b = w.heap.size := q; omega))
      clear hr hf hq
      have z1 : (ByteArray.mk (s.drop at_).toArray).size = s.length - at_ := by simp [ByteArray.size]
      have z3 : IntKind.i64.wrap ((s.length : Int) - ((s.length - at_ : Nat) : Int)) = (at_ : Int) := by simp [IntKind.wrap, IntKind.bits, IntKind.signed]; omega
      go_wp2
      go_ret2
      rw [HSP.out]
      exact ⟨_, rfl, HO2.out, fun k hk => Nat.le_of_lt (HK.out k hk), HF2.out⟩
end Go.Proofs.Ytodhkdmkkjhnnaa
