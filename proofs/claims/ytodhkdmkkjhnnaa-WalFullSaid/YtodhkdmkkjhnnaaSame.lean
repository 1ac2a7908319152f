/- The walks of siloref01.Same and siloref12.Split, for any bytes. -/
import Derived.Test.YtodhkdmkkjhnnaaPureW
import Derived.Test.YtodhkdmkkjhnnaaRefA
import Derived.Test.YtodhkdmkkjhnnaaRef02
set_option linter.unusedVariables false
set_option linter.unusedSimpArgs false
namespace Go.Proofs.Ytodhkdmkkjhnnaa
open Go.RowKit

theorem OwnT.slice {w : World} {v : Value} {bs : List ByteArray} (h : OwnT w v bs) : ∃ p c, v = .slice p bs.length c ∧ (bs ≠ [] → ∃ g, p = some ⟨g, 0, none⟩ ∧ ∀ i (h : i < bs.length), w.cell? ⟨g, i, none⟩ = some (.string bs[i])) := by
  rcases h.2 with ⟨rfl, h0⟩ | ⟨g, cap, cur, rfl, _⟩
  · simp at h0; subst h0; exact ⟨_, _, rfl, fun q => absurd rfl q⟩
  · refine ⟨_, _, rfl, fun _ => ⟨g, rfl, fun i hi => ?_⟩⟩
    have q := World.ownsRow.cells h (g := g) rfl i (.string bs[i]) (by simp [hi])
    have e : (⟨g, 0, none⟩ : Addr).add i = ⟨g, i, none⟩ := by unfold Addr.add; split <;> simp_all
    rw [e] at q; exact q

set_option maxHeartbeats 1600000 in
set_option maxRecDepth 100000 in
theorem same_any (w : World) (v u : Value) (l : List ByteArray) (hl : l.length ≤ 1000000) (HV : OwnT w v l) (HU : OwnT w u l) : Calls Try.prog 28 #[v, u] w fun e w' => e = .returned (.bool true) ∧ Fr (fun _ => False) w w' := by
  have HV0 := Aside.mk HV
  have HU0 := Aside.mk HU
  obtain ⟨p, c, rfl, hp⟩ := HV.slice
  obtain ⟨q, d, rfl, hq⟩ := HU.slice
  clear hp hq HV HU
  go_enter Try.func28, Try.ntmps28
  go_wp2_with fail
  go_loopw [5] (fun i wr => ∃ k : Nat, i = .int .i64 k ∧ k ≤ l.length ∧ Aside (OwnT wr (.slice p l.length c) l) ∧ Aside (OwnT wr (.slice q l.length d) l) ∧ Aside (Fr (fun _ => False) w wr)) (fun i _ => l.length - (intOf i).toNat)
  case atStart => exact ⟨0, rfl, by omega, HV0, HU0, ⟨Fr.refl _ _⟩⟩
  case round =>
    obtain ⟨k, rfl, hk, HV1, HU1, HF⟩ := hrel
    by_cases hkl : k < l.length
    · have q1 : decide ((k : Int) < (l.length : Int)) = true := by simp; omega
      have hne : l ≠ [] := by rintro rfl; simp at hkl
      obtain ⟨p', c', e1, hp⟩ := HV1.out.slice
      obtain ⟨q', d', e2, hq⟩ := HU1.out.slice
      obtain ⟨g, hp1, hg⟩ := hp hne
      obtain ⟨g2, hq1, hg2⟩ := hq hne
      simp only [Value.slice.injEq] at e1 e2
      obtain ⟨rfl, _, rfl⟩ := e1
      obtain ⟨rfl, _, rfl⟩ := e2
      subst hp1
      subst hq1
      have c1 := hg k hkl
      have c2 := hg2 k hkl
      have x1 : IntKind.i64.wrap ((k : Int) + 1) = (k : Int) + 1 := by simp [IntKind.wrap, IntKind.bits, IntKind.signed]; omega
      clear hg hg2
      go_wp2_with fail
      go_quiet (fail)
      go_wp2
      go_roundw
      case rel => exact ⟨k + 1, by go_num, by omega, ⟨HV1.out.keep ((Fr.refl (fun _ => False) _).drewN _) (fun _ _ => id)⟩, ⟨HU1.out.keep ((Fr.refl (fun _ => False) _).drewN _) (fun _ _ => id)⟩, ⟨HF.out.drewN _⟩⟩
      case measure => simp [intOf]; omega
    · have q1 : decide ((k : Int) < (l.length : Int)) = false := by simp; omega
      go_wp2
      go_ret
      exact ⟨rfl, HF.out⟩

set_option maxHeartbeats 6400000 in
set_option maxRecDepth 100000 in
theorem rsplit_any (w : World) (s : List UInt8) (hs : s.length ≤ 1000000) : Calls Try.prog 27 #[.string ⟨s.toArray⟩] w fun e w' => ∃ v, e = .returned (.tuple #[v, .int .i64 ((splitW s).2 : Nat)]) ∧ OwnT w' v (splitW s).1 ∧ (∀ k, own v k → w.heap.size ≤ k) ∧ Fr (fun _ => False) w w' := by
  have hsz : (ByteArray.mk s.toArray).size = s.length := by simp [ByteArray.size]
  have HS0 := Aside.mk (SplitAt.start s)
  go_enter Try.func27, Try.ntmps27
  go_wp2_with fail
  go_loopw [4, 5] (fun i j wr => ∃ acc, ∃ at_ : Nat, j = .int .i64 at_ ∧ Aside (SplitAt s acc at_) ∧ Aside (OwnT wr i acc) ∧ Aside (∀ k, own i k → w.heap.size ≤ k) ∧ Aside (Fr (fun _ => False) w wr)) (fun _ j _ => s.length - (intOf j).toNat)
  case atStart => exact ⟨[], 0, rfl, HS0, ⟨OwnT.nil _⟩, ⟨fun k hk => by simp [own, Value.ownBlock] at hk⟩, ⟨Fr.refl _ _⟩⟩
  case round =>
    obtain ⟨acc, at_, rfl, HS, HO, HK, HF⟩ := hrel
    have hle := HS.out.le
    have hdl : (s.drop at_).length = s.length - at_ := by simp
    have z0 : (ByteArray.mk (s.drop at_).toArray).size = s.length - at_ := by simp [ByteArray.size]
    have hx0 : (ByteArray.mk s.toArray).extract at_ s.length = ⟨(s.drop at_).toArray⟩ := ba_from _ _
    have y0 : (0 : Int) ≤ (at_ : Int) := by omega
    have y1 : (at_ : Int) ≤ (s.length : Int) := by omega
    have HR := Aside.mk (fun W => rreadtext_any W ⟨(s.drop at_).toArray⟩ (by rw [z0]; omega))
    rw [show (ByteArray.mk (s.drop at_).toArray).data.toList = s.drop at_ by simp] at HR
    have htl := rdText_len (s.drop at_)
    have hts := rdText_size (s.drop at_)
    have HSTOP := Aside.mk (fun h => HS.out.stop (stepW_no h))
    have HSTEP := Aside.mk (fun t m e hr h => HS.out.step (t := t) (m := m) (e := e) hr h)
    have HGO := Aside.mk (stepW_of (l := s.drop at_))
    have HTK := Aside.mk (fun t m h => take_frame (l := s.drop at_) (t := t) (m := m) h)
    rw [hdl] at htl hts
    generalize hT : rdText (s.drop at_) = T at *
    obtain ⟨t, m, e0⟩ := T
    simp only at htl hts HSTOP HGO HR
    go_wp2_with fail
    refine (HR.out _).mono ?_
    rintro e x1 ⟨rfl, rfl⟩
    simp only [retS]
    by_cases he : e0 = 0
    · subst he
      have htz : (ByteArray.mk t.toArray).size = t.length := by simp [ByteArray.size]
      have q1 : decide ((1048576 : Int) < (t.length : Int)) = false := by simp; omega
      have z1 : IntKind.i64.wrap ((s.length : Int) - (at_ : Int)) = (s.length : Int) - (at_ : Int) := by simp [IntKind.wrap, IntKind.bits, IntKind.signed]; omega
      have z2 : IntKind.i64.wrap ((s.length : Int) - (at_ : Int) - (m : Int)) = (s.length : Int) - (at_ : Int) - (m : Int) := by simp [IntKind.wrap, IntKind.bits, IntKind.signed]; omega
      by_cases h4 : m + 4 ≤ s.length - at_
      · have q2 : decide ((s.length : Int) - (at_ : Int) - (m : Int) < 4) = false := by simp; omega
        have z3 : IntKind.i64.wrap ((m : Int) + 4) = ((m + 4 : Nat) : Int) := by simp [IntKind.wrap, IntKind.bits, IntKind.signed]; omega
        have z4 : (0 : Int) ≤ ((m + 4 : Nat) : Int) := by omega
        have z5 : ((m + 4 : Nat) : Int) ≤ ((s.length - at_ : Nat) : Int) := by omega
        have hx : (ByteArray.mk (s.drop at_).toArray).extract 0 (m + 4) = ⟨((s.drop at_).take (m + 4)).toArray⟩ := ba_to _ _
        have HT := Aside.mk (fun W => rtake_any W ⟨((s.drop at_).take (m + 4)).toArray⟩ (by simp [ByteArray.size]; omega))
        rw [show (ByteArray.mk ((s.drop at_).take (m + 4)).toArray).data.toList = (s.drop at_).take (m + 4) by simp] at HT
        have hq := HTK.out t m rfl (by rw [hdl]; exact h4)
        go_wp2_with fail
        refine (HT.out _).mono ?_
        rintro e x2 ⟨rfl, hf⟩
        have HO2 := Aside.mk (HO.out.keep hf (fun _ _ => id))
        have HF2 := Aside.mk (HF.out.trans hf (fun _ _ q => q))
        clear hf HT
        generalize Crc.take ((s.drop at_).take (m + 4)) = C at *
        obtain ⟨C1, C2⟩ := C
        simp only at hq
        by_cases hfr : C2 = 0
        · subst hfr
          have HST := Aside.mk (HSTEP.out t m 0 rfl (HGO.out trivial (by rw [hdl]; omega) (by rw [← hq])))
          have hm1 := HS.out.few
          have z7 : IntKind.i64.wrap ((at_ : Int) + (m : Int)) = (at_ : Int) + (m : Int) := by simp [IntKind.wrap, IntKind.bits, IntKind.signed]; omega
          have z8 : IntKind.i64.wrap ((at_ : Int) + (m : Int) + 4) = ((at_ + (m + 4) : Nat) : Int) := by simp [IntKind.wrap, IntKind.bits, IntKind.signed]; omega
          clear hq
          go_wp2_with (at_builtin; refine append_string rfl (.tmp 51) (.tmp 53) rfl u4 acc ⟨t.toArray⟩ rfl rfl HO2.out (by omega) ?_)
          intro v1 x6 ho hf hg
          have HO6 := Aside.mk ho
          have HF6 := Aside.mk (HF2.out.trans hf (fun b hb q => by have := HK.out _ q; omega))
          have hsz2 := HF2.out.size
          have HK6 : Aside (∀ k, own v1 k → w.heap.size ≤ k) := ⟨fun k hk => by
            rcases hg k hk with q | q
            · exact HK.out k q
            · omega⟩
          clear ho hf hg
          go_wp2
          go_roundw
          case rel => exact ⟨_, _, rfl, HST, HO6, HK6, HF6⟩
          case measure => simp [intOf]; omega
        · have hb : ((C2 : Int) == 0) = false := by simp; omega
          have HSP := Aside.mk (HSTOP.out (fun q => hfr (by rw [hq]; exact q.2.2)))
          clear hq hfr
          go_wp2
          go_ret2
          rw [HSP.out]
          exact ⟨_, rfl, HO2.out, HK.out, HF2.out⟩
      · have q2 : decide ((s.length : Int) - (at_ : Int) - (m : Int) < 4) = true := by simp; omega
        have HSP := Aside.mk (HSTOP.out (fun q => h4 (by have := q.2.1; rw [hdl] at this; exact this)))
        go_wp2
        go_ret2
        rw [HSP.out]
        exact ⟨_, rfl, HO.out, HK.out, HF.out⟩
    · have heb : ((e0 : Int) == 0) = false := by simp; omega
      have HSP := Aside.mk (HSTOP.out (fun q => he q.1))
      go_wp2
      go_ret2
      rw [HSP.out]
      exact ⟨_, rfl, HO.out, HK.out, HF.out⟩
end Go.Proofs.Ytodhkdmkkjhnnaa
