/- The walk of silolaw12.WalFull. Printed by gen_wfull.py. -/
import Derived.Test.YtodhkdmkkjhnnaaWLog2
import Derived.Test.YtodhkdmkkjhnnaaDiskRd
set_option linter.unusedVariables false
set_option linter.unusedSimpArgs false
namespace Go.Proofs.Ytodhkdmkkjhnnaa
open Go.RowKit

set_option maxRecDepth 100000 in
theorem wlbegin (w : World) (g : Nat) (t n : Int) (Post : World → Prop) (HC : Calls Try.prog 24 #[.pointer (some ⟨g, 0, none⟩), .int .i64 t, .int .i64 n] w fun e w' => e = .returned (.int .i64 0) ∧ Post w') :
    Calls Try.prog 33 #[.pointer (some ⟨g, 0, none⟩), .int .i64 t, .int .i64 n] w fun e w' => ∃ w1, Post w1 ∧ e = .returned (.tuple #[.pointer (some ⟨w1.heap.size, 0, none⟩), .int .i64 0]) ∧ w' = w1.alloc (.cells (logL g n (.slice none 0 0) 0 0) 144) := by
  replace HC := Aside.mk HC
  go_enter Try.func33, Try.ntmps33
  go_wp2_with fail
  refine HC.out.mono ?_
  rintro e w1 ⟨rfl, hf⟩
  have HF := Aside.mk hf
  clear hf
  go_wp2
  go_ret2
  exact ⟨w1, HF.out, rfl, rfl⟩

def WfPost (w : World) (e : Ending) (w' : World) : Prop := e = .returned (.bool true) ∧ Fr (fun _ => False) w w'

set_option maxHeartbeats 3200000 in
set_option maxRecDepth 100000 in
theorem wfull_few (w : World) (v : Value) (ss : List ByteArray) (hn : ss.length ≤ 9223372036854775807) (H : isSs w v ss) (y : Int) (hf : fewS ss 0 0 = false) : Calls Try.prog 7 #[v, .int .u8 y] w (WfPost w) := by
  have HA := Aside.mk (fun W => awake12_any W)
  have HW := Aside.mk (fun W h => few12_any W v ss hn (H.keep h))
  rw [hf] at HW
  clear H hf
  go_enter Try.func7, Try.ntmps7
  go_wp2_with fail
  refine (HA.out _).mono ?_
  rintro e w1 ⟨rfl, hf⟩
  have HF1 := Aside.mk hf
  clear hf
  go_wp2_with fail
  refine (HW.out _ HF1.out).mono ?_
  rintro e w2 ⟨rfl, rfl⟩
  go_wp2_with fail
  refine (HA.out _).mono ?_
  rintro e w3 ⟨rfl, hf⟩
  have HF3 := Aside.mk (HF1.out.trans hf (fun _ _ q => q))
  clear hf
  go_wp2
  go_ret
  exact ⟨rfl, HF3.out⟩

set_option maxHeartbeats 3200000 in
set_option maxRecDepth 100000 in
theorem wfull_nil (w : World) (v : Value) (H : isSs w v []) (y : Int) : Calls Try.prog 7 #[v, .int .u8 y] w (WfPost w) := by
  have HA := Aside.mk (fun W => awake12_any W)
  have HW := Aside.mk (fun W h => few12_any W v [] (by simp) (H.keep h))
  rw [show fewS [] 0 0 = true from rfl] at HW
  obtain ⟨p, c, rfl, -⟩ := H
  go_enter Try.func7, Try.ntmps7
  go_wp2_with fail
  refine (HA.out _).mono ?_
  rintro e w1 ⟨rfl, hf⟩
  have HF1 := Aside.mk hf
  clear hf
  go_wp2_with fail
  refine (HW.out _ HF1.out).mono ?_
  rintro e w2 ⟨rfl, rfl⟩
  go_wp2_with fail
  refine (HA.out _).mono ?_
  rintro e w3 ⟨rfl, hf⟩
  have HF3 := Aside.mk (HF1.out.trans hf (fun _ _ q => q))
  clear hf
  go_wp2
  go_ret
  exact ⟨rfl, HF3.out⟩

set_option maxHeartbeats 25600000 in
set_option maxRecDepth 100000 in
theorem wfull_no (w : World) (v : Value) (ss : List ByteArray) (hne : ss ≠ []) (H : isSs w v ss) (y : Nat) (hy : y ≤ 255) (hf : fewS ss 0 0 = true) (hroom : y < ((frames ss).length + 63) / 64) : Calls Try.prog 7 #[v, .int .u8 (y : Int)] w (WfPost w) := by
  obtain ⟨hbd, hcnt⟩ := fewS_true hf
  have hcnt := hcnt hne
  have HNE := Aside.mk hne
  have hfl := frames_len ss (by omega)
  have HPL := Aside.mk (fun k => frames_le ss k)
  have HA := Aside.mk (fun W => awake12_any W)
  have HW := Aside.mk (fun W h => few12_any W v ss (by omega) (H.keep h))
  rw [hf] at HW
  have HSZ : Aside (∀ s ∈ ss, s.size ≤ 30000) := ⟨fun s h => by have := size_le ss s h; omega⟩
  have HBD := Aside.mk hbd
  have hF64 : (frames ss).length ≤ 40000 := by omega
  have hl0 : ((ss.length : Int) == 0) = false := by simp; exact hne
  have hln : ¬ ss.length = 0 := fun q => hne (List.eq_nil_of_length_eq_zero q)
  obtain ⟨hh, hH⟩ : ∃ hh : Nat, hh = 1 + y := ⟨_, rfl⟩
  have w0 : IntKind.i64.wrap (y : Int) = (y : Int) := by simp [IntKind.wrap, IntKind.bits, IntKind.signed]; omega
  have w1 : IntKind.i64.wrap (1 + (y : Int)) = (hh : Int) := by simp [IntKind.wrap, IntKind.bits, IntKind.signed]; omega
  have HDN := Aside.mk (fun W => dnew_any W hh 0 (by omega) (by omega))
  have HHH := Aside.mk hH
  obtain ⟨p, c, rfl, hp⟩ := H
  have HP := Aside.mk hp
  clear hp hf hbd hfl hH hne
  go_enter Try.func7, Try.ntmps7
  go_wp2_with fail
  refine (HA.out _).mono ?_
  rintro e x1 ⟨rfl, hf⟩
  have HF1 := Aside.mk hf
  clear hf
  go_wp2_with fail
  refine (HW.out _ HF1.out).mono ?_
  rintro e x1' ⟨rfl, rfl⟩
  clear HW HA
  go_wp2_with fail
  refine (HDN.out _).mono ?_
  rintro e x2 ⟨rfl, hD, hM, hf⟩
  have HF2 := Aside.mk (HF1.out.trans hf (fun _ _ q => q))
  have hs1 := Aside.mk HF1.out.size
  have HMK := Aside.mk (wlbegin x2 (x1'.heap.size + 1) 0 1 _ (make_ok x2 (x1'.heap.size + 1) x1'.heap.size hh 0 0 0 0 0 1 (by omega) (by have := HHH.out; omega) (by have := HHH.out; omega) (by omega) hD hM))
  have hlm := Aside.mk (lt_of_heap hD)
  clear hD hM hf HDN
  generalize hg : x1'.heap.size + 1 = g at *
  generalize hm : x1'.heap.size = m at *
  have hgm : Aside (g = m + 1) := ⟨hg.symm⟩
  clear hg hm
  go_wp2_with fail
  refine HMK.out.mono ?_
  rintro e x4 ⟨x3, ⟨hD, hM, hfl, hf⟩, rfl, hx4⟩
  have HF3 := Aside.mk (HF2.out.trans hf (fun b hb q => by have := hs1.out; have := hgm.out; omega))
  have hfa : Fr (fun _ => False) x3 x4 := by rw [hx4]; exact (Fr.refl _ _).alloc _
  have HF4 := Aside.mk (HF3.out.trans hfa (fun _ _ q => q))
  have HD4 := Aside.mk (hfa.heap hD id)
  have HM4 := Aside.mk (hfa.heap hM id)
  have HI4 : Aside (isF x4 x2.heap.size 0 (.slice none 0 0) [] (-1)) := ⟨⟨hfa.heap hfl id, OwnB.nil _⟩⟩
  have HL4 : Aside (isLog x4 x3.heap.size g 1 (.slice none 0 0) (ss.take 0) 0 0) := ⟨⟨by rw [hx4]; exact heap_new _ _, OwnT.nil _⟩⟩
  have hs2 := HF2.out.size
  have hs3 := hf.size
  have hdist : Aside (w.heap.size ≤ m ∧ m < g ∧ g < x2.heap.size ∧ x2.heap.size < x3.heap.size ∧ x3.heap.size < x4.heap.size) := ⟨by
    have := hs1.out; have := hgm.out; have := hlm.out; have := lt_of_heap hfl; have := lt_of_heap HL4.out.at_
    omega⟩
  clear hD hM hfl hf hfa hx4 HMK hs2 hs3 hs1 hlm hgm
  generalize x2.heap.size = f at *
  generalize x3.heap.size = x at *
  go_wp2_with fail
  go_loopw [9, 10] (fun t i wr => ∃ k : Nat, t = .string ⟨(frames (ss.take k)).toArray⟩ ∧ i = .int .i64 k ∧ k ≤ ss.length ∧ Aside (∃ v, isLog wr x g 1 v (ss.take k) 0 0 ∧ ∀ b, own v b → w.heap.size ≤ b ∧ b ≠ x ∧ b ≠ g ∧ b ≠ m ∧ b ≠ f) ∧ Aside (Fr (fun b => w.heap.size ≤ b ∧ b ≠ g ∧ b ≠ m ∧ b ≠ f) x4 wr)) (fun _ i _ => ss.length - (intOf i).toNat)
  case atStart => exact ⟨0, rfl, rfl, by omega, ⟨_, HL4.out, fun k hk => by simp [own, Value.ownBlock] at hk⟩, ⟨Fr.refl _ _⟩⟩
  case round =>
    obtain ⟨k, rfl, rfl, hk, HL, HF⟩ := hrel
    have HFw : Aside (Fr (fun _ => False) w wr) := ⟨HF4.out.trans HF.out (fun b hb q => by omega)⟩
    by_cases hkl : k < ss.length
    · have d1 : decide ((k : Int) < (ss.length : Int)) = true := by simp; omega
      obtain ⟨b, off, rfl, hx⟩ := HP.out HNE.out
      have hc0 := hx k ss[k] (List.getElem?_eq_getElem hkl)
      have hc := HFw.out.cell hc0
      have htk := frames_take ss k ss[k] (List.getElem?_eq_getElem hkl)
      have hsk := HSZ.out ss[k] (List.getElem_mem hkl)
      have hle := HPL.out (k + 1)
      have htt : ss.take (k + 1) = ss.take k ++ [ss[k]] := List.take_succ_eq_append_getElem hkl
      have hx0 := Aside.mk hx
      clear hx
      generalize ss[k] = s at *
      obtain ⟨lv, hlog, hlo⟩ := HL.out
      have HLA := Aside.mk (wladd_ok wr x g 1 lv (ss.take k) 0 0 s (by omega) (by simp; omega) hlog (fun q => (hlo x q).2.1 rfl))
      have HLO := Aside.mk hlo
      have HRF := Aside.mk (fun W => rframe_any W s (by omega))
      have HTK := Aside.mk htk
      have HTT := Aside.mk htt
      have hfs := frameB_len s (by omega)
      rw [htk, List.length_append] at hle
      have hC0 := Aside.mk hc0
      have x1 : IntKind.i64.wrap ((k : Int) + 1) = (k : Int) + 1 := by simp [IntKind.wrap, IntKind.bits, IntKind.signed]; omega
      have hz1 : (ByteArray.mk (frames (ss.take k)).toArray).size = (frames (ss.take k)).length := by simp [ByteArray.size]
      have hz2 : (ByteArray.mk (frameB s.data.toList).toArray).size = (frameB s.data.toList).length := by simp [ByteArray.size]
      have hcat : ByteArray.mk (frames (ss.take k)).toArray ++ ⟨(frameB s.data.toList).toArray⟩ = ⟨(frames (ss.take k) ++ frameB s.data.toList).toArray⟩ := by rw [ByteArray.mk_append_mk]
      have hsw := HF.out.size
      clear hlog hlo htk htt hc0 HL
      go_wp2_with fail
      refine HLA.out.mono ?_
      rintro e x5 ⟨rfl, v1, hlog, hgr, hf⟩
      have HFa := Aside.mk (HF.out.trans hf (fun b hb q => by
        have hd := hdist.out
        rcases q with q | q
        · subst q; omega
        · have := HLO.out b q; omega))
      have HFb : Aside (Fr (fun _ => False) w x5) := ⟨HFw.out.trans hf (fun b hb q => by
        have hd := hdist.out
        rcases q with q | q
        · subst q; omega
        · have := HLO.out b q; omega)⟩
      have HL5 : Aside (isLog x5 x g 1 v1 (ss.take (k + 1)) 0 0) := ⟨by rw [HTT.out]; exact hlog⟩
      have HK5 : Aside (∀ b, own v1 b → w.heap.size ≤ b ∧ b ≠ x ∧ b ≠ g ∧ b ≠ m ∧ b ≠ f) := ⟨fun b q => by
        have hd := hdist.out
        rcases hgr b q with q | q
        · exact HLO.out b q
        · omega⟩
      have hc5 := HFb.out.cell hC0.out
      clear hlog hgr hf hc
      go_wp2_with fail
      refine (HRF.out _).mono ?_
      rintro e x6 ⟨rfl, hf⟩
      have HF6 := Aside.mk (HFa.out.trans hf (fun _ _ q => q.elim))
      have HL6 := Aside.mk (HL5.out.keep hf id (fun _ _ => id))
      clear hf hc5
      go_wp2
      go_roundw
      case rel => exact ⟨k + 1, by rw [HTK.out], rfl, by omega, ⟨v1, HL6.out, HK5.out⟩, HF6⟩
      case measure => simp [intOf]; omega
    · have d1 : decide ((k : Int) < (ss.length : Int)) = false := by simp; omega
      have hkr : ss.take k = ss := List.take_of_length_le (by omega)
      rw [hkr]
      rw [hkr] at HL
      obtain ⟨lv, hlog, hlo⟩ := HL.out
      have HD7 := Aside.mk (HF.out.heap HD4.out (fun q => by omega))
      have HM7 := Aside.mk (HF.out.heap HM4.out (fun q => by omega))
      have HI7 := Aside.mk (HI4.out.keep HF.out (fun q => by omega) (fun k hk => by simp [own, Value.ownBlock] at hk))
      have HL7 := Aside.mk hlog
      have HLO := Aside.mk hlo
      have hsw := HF.out.size
      have hFz : (ByteArray.mk (frames ss).toArray).size = (frames ss).length := by simp [ByteArray.size]
      have hFt : (ByteArray.mk (frames ss).toArray).data.toList = frames ss := by simp
      obtain ⟨Mn, hMn⟩ : ∃ Mn : Nat, Mn = ((frames ss).length + 63) / 64 := ⟨_, rfl⟩
      have w5 : IntKind.i64.wrap (((frames ss).length : Int) + 63) = ((frames ss).length : Int) + 63 := by simp [IntKind.wrap, IntKind.bits, IntKind.signed]; omega
      have w6 : (((frames ss).length : Int) + 63).tdiv 64 = (Mn : Int) := by rw [Int.tdiv_eq_ediv_of_nonneg (by omega)]; omega
      have w7 : IntKind.i64.wrap (Mn : Int) = (Mn : Int) := by simp [IntKind.wrap, IntKind.bits, IntKind.signed]; omega
      rw [← hMn] at hroom
      clear hkr HL hlog hlo
      have HAD := Aside.mk (fun W (h : Fr (fun _ => False) wr W) => dadd_no W g m f hh 1 0 0 0 1 1 (-1) (.slice none 0 0) [] ⟨(frames ss).toArray⟩ (by rw [hFz]; simp; omega) (by omega) (by have := HHH.out; omega) (by rw [hFz]; simp only [List.length_nil, Nat.zero_add, blk]; have := HHH.out; omega) (h.heap HD7.out id) (HI7.out.keep h id (fun _ _ => id)) (lk_yes W m 1 0 1 _ (h.heap HM7.out id)))
      have HWR := Aside.mk (wlwrite_full wr x g 1 lv ss 0 0 HNE.out (by have := HBD.out; omega) (by omega) HL7.out HAD.out)
      have d2 : decide ((y : Int) < (Mn : Int)) = true := by simp; omega
      clear hMn HAD
      go_wp2_with fail
      refine HWR.out.mono ?_
      rintro e x8 ⟨rfl, hf⟩
      have HF8 := Aside.mk (HFw.out.trans hf (fun _ _ q => q))
      have HL8 := Aside.mk (HL7.out.keep hf id (fun _ _ => id))
      have HD8 := Aside.mk (hf.heap HD7.out id)
      have HM8 := Aside.mk (hf.heap HM7.out id)
      have HI8 := Aside.mk (HI7.out.keep hf id (fun _ _ => id))
      clear hf
      go_wp2_with fail
      refine (wlcounts_any x8 x g 1 lv ss 0 0 HL8.out).mono ?_
      rintro e x9 ⟨rfl, hf⟩
      have HF9 := Aside.mk (HF8.out.trans hf (fun _ _ q => q))
      have HSZ9 := Aside.mk (dsize_ok x9 g m f 1 (-1) 0 (.slice none 0 0) [] (isD.c0 (hf.heap HD8.out id)) (isD.c8 (hf.heap HD8.out id)) (HI8.out.keep hf id (fun _ _ => id)) (lk_yes x9 m 1 0 1 _ (hf.heap HM8.out id)))
      clear hf
      go_wp2_with fail
      refine HSZ9.out.mono ?_
      rintro e x10 ⟨rfl, hf⟩
      have HF10 := Aside.mk (HF9.out.trans hf (fun _ _ q => q))
      clear hf
      go_wp2
      go_ret
      exact ⟨rfl, HF10.out⟩

set_option maxHeartbeats 25600000 in
set_option maxRecDepth 100000 in
theorem wfull_ok (w : World) (v : Value) (ss : List ByteArray) (hne : ss ≠ []) (H : isSs w v ss) (y : Nat) (hy : y ≤ 255) (hf : fewS ss 0 0 = true) (hroom : ¬ y < ((frames ss).length + 63) / 64) : Calls Try.prog 7 #[v, .int .u8 (y : Int)] w (WfPost w) := by
  obtain ⟨hbd, hcnt⟩ := fewS_true hf
  have hcnt := hcnt hne
  have HNE := Aside.mk hne
  have hfl := frames_len ss (by omega)
  have HPL := Aside.mk (fun k => frames_le ss k)
  have HA := Aside.mk (fun W => awake12_any W)
  have HW := Aside.mk (fun W h => few12_any W v ss (by omega) (H.keep h))
  rw [hf] at HW
  have HSZ : Aside (∀ s ∈ ss, s.size ≤ 30000) := ⟨fun s h => by have := size_le ss s h; omega⟩
  have HBD := Aside.mk hbd
  have hF64 : (frames ss).length ≤ 40000 := by omega
  have hl0 : ((ss.length : Int) == 0) = false := by simp; exact hne
  have hln : ¬ ss.length = 0 := fun q => hne (List.eq_nil_of_length_eq_zero q)
  obtain ⟨hh, hH⟩ : ∃ hh : Nat, hh = 1 + y := ⟨_, rfl⟩
  have w0 : IntKind.i64.wrap (y : Int) = (y : Int) := by simp [IntKind.wrap, IntKind.bits, IntKind.signed]; omega
  have w1 : IntKind.i64.wrap (1 + (y : Int)) = (hh : Int) := by simp [IntKind.wrap, IntKind.bits, IntKind.signed]; omega
  have HDN := Aside.mk (fun W => dnew_any W hh 0 (by omega) (by omega))
  have HHH := Aside.mk hH
  obtain ⟨p, c, rfl, hp⟩ := H
  have HP := Aside.mk hp
  clear hp hf hbd hfl hH hne
  go_enter Try.func7, Try.ntmps7
  go_wp2_with fail
  refine (HA.out _).mono ?_
  rintro e x1 ⟨rfl, hf⟩
  have HF1 := Aside.mk hf
  clear hf
  go_wp2_with fail
  refine (HW.out _ HF1.out).mono ?_
  rintro e x1' ⟨rfl, rfl⟩
  clear HW HA
  go_wp2_with fail
  refine (HDN.out _).mono ?_
  rintro e x2 ⟨rfl, hD, hM, hf⟩
  have HF2 := Aside.mk (HF1.out.trans hf (fun _ _ q => q))
  have hs1 := Aside.mk HF1.out.size
  have HMK := Aside.mk (wlbegin x2 (x1'.heap.size + 1) 0 1 _ (make_ok x2 (x1'.heap.size + 1) x1'.heap.size hh 0 0 0 0 0 1 (by omega) (by have := HHH.out; omega) (by have := HHH.out; omega) (by omega) hD hM))
  have hlm := Aside.mk (lt_of_heap hD)
  clear hD hM hf HDN
  generalize hg : x1'.heap.size + 1 = g at *
  generalize hm : x1'.heap.size = m at *
  have hgm : Aside (g = m + 1) := ⟨hg.symm⟩
  clear hg hm
  go_wp2_with fail
  refine HMK.out.mono ?_
  rintro e x4 ⟨x3, ⟨hD, hM, hfl, hf⟩, rfl, hx4⟩
  have HF3 := Aside.mk (HF2.out.trans hf (fun b hb q => by have := hs1.out; have := hgm.out; omega))
  have hfa : Fr (fun _ => False) x3 x4 := by rw [hx4]; exact (Fr.refl _ _).alloc _
  have HF4 := Aside.mk (HF3.out.trans hfa (fun _ _ q => q))
  have HD4 := Aside.mk (hfa.heap hD id)
  have HM4 := Aside.mk (hfa.heap hM id)
  have HI4 : Aside (isF x4 x2.heap.size 0 (.slice none 0 0) [] (-1)) := ⟨⟨hfa.heap hfl id, OwnB.nil _⟩⟩
  have HL4 : Aside (isLog x4 x3.heap.size g 1 (.slice none 0 0) (ss.take 0) 0 0) := ⟨⟨by rw [hx4]; exact heap_new _ _, OwnT.nil _⟩⟩
  have hs2 := HF2.out.size
  have hs3 := hf.size
  have hdist : Aside (w.heap.size ≤ m ∧ m < g ∧ g < x2.heap.size ∧ x2.heap.size < x3.heap.size ∧ x3.heap.size < x4.heap.size) := ⟨by
    have := hs1.out; have := hgm.out; have := hlm.out; have := lt_of_heap hfl; have := lt_of_heap HL4.out.at_
    omega⟩
  clear hD hM hfl hf hfa hx4 HMK hs2 hs3 hs1 hlm hgm
  generalize x2.heap.size = f at *
  generalize x3.heap.size = x at *
  go_wp2_with fail
  go_loopw [9, 10] (fun t i wr => ∃ k : Nat, t = .string ⟨(frames (ss.take k)).toArray⟩ ∧ i = .int .i64 k ∧ k ≤ ss.length ∧ Aside (∃ v, isLog wr x g 1 v (ss.take k) 0 0 ∧ ∀ b, own v b → w.heap.size ≤ b ∧ b ≠ x ∧ b ≠ g ∧ b ≠ m ∧ b ≠ f) ∧ Aside (Fr (fun b => w.heap.size ≤ b ∧ b ≠ g ∧ b ≠ m ∧ b ≠ f) x4 wr)) (fun _ i _ => ss.length - (intOf i).toNat)
  case atStart => exact ⟨0, rfl, rfl, by omega, ⟨_, HL4.out, fun k hk => by simp [own, Value.ownBlock] at hk⟩, ⟨Fr.refl _ _⟩⟩
  case round =>
    obtain ⟨k, rfl, rfl, hk, HL, HF⟩ := hrel
    have HFw : Aside (Fr (fun _ => False) w wr) := ⟨HF4.out.trans HF.out (fun b hb q => by omega)⟩
    by_cases hkl : k < ss.length
    · have d1 : decide ((k : Int) < (ss.length : Int)) = true := by simp; omega
      obtain ⟨b, off, rfl, hx⟩ := HP.out HNE.out
      have hc0 := hx k ss[k] (List.getElem?_eq_getElem hkl)
      have hc := HFw.out.cell hc0
      have htk := frames_take ss k ss[k] (List.getElem?_eq_getElem hkl)
      have hsk := HSZ.out ss[k] (List.getElem_mem hkl)
      have hle := HPL.out (k + 1)
      have htt : ss.take (k + 1) = ss.take k ++ [ss[k]] := List.take_succ_eq_append_getElem hkl
      have hx0 := Aside.mk hx
      clear hx
      generalize ss[k] = s at *
      obtain ⟨lv, hlog, hlo⟩ := HL.out
      have HLA := Aside.mk (wladd_ok wr x g 1 lv (ss.take k) 0 0 s (by omega) (by simp; omega) hlog (fun q => (hlo x q).2.1 rfl))
      have HLO := Aside.mk hlo
      have HRF := Aside.mk (fun W => rframe_any W s (by omega))
      have HTK := Aside.mk htk
      have HTT := Aside.mk htt
      have hfs := frameB_len s (by omega)
      rw [htk, List.length_append] at hle
      have hC0 := Aside.mk hc0
      have x1 : IntKind.i64.wrap ((k : Int) + 1) = (k : Int) + 1 := by simp [IntKind.wrap, IntKind.bits, IntKind.signed]; omega
      have hz1 : (ByteArray.mk (frames (ss.take k)).toArray).size = (frames (ss.take k)).length := by simp [ByteArray.size]
      have hz2 : (ByteArray.mk (frameB s.data.toList).toArray).size = (frameB s.data.toList).length := by simp [ByteArray.size]
      have hcat : ByteArray.mk (frames (ss.take k)).toArray ++ ⟨(frameB s.data.toList).toArray⟩ = ⟨(frames (ss.take k) ++ frameB s.data.toList).toArray⟩ := by rw [ByteArray.mk_append_mk]
      have hsw := HF.out.size
      clear hlog hlo htk htt hc0 HL
      go_wp2_with fail
      refine HLA.out.mono ?_
      rintro e x5 ⟨rfl, v1, hlog, hgr, hf⟩
      have HFa := Aside.mk (HF.out.trans hf (fun b hb q => by
        have hd := hdist.out
        rcases q with q | q
        · subst q; omega
        · have := HLO.out b q; omega))
      have HFb : Aside (Fr (fun _ => False) w x5) := ⟨HFw.out.trans hf (fun b hb q => by
        have hd := hdist.out
        rcases q with q | q
        · subst q; omega
        · have := HLO.out b q; omega)⟩
      have HL5 : Aside (isLog x5 x g 1 v1 (ss.take (k + 1)) 0 0) := ⟨by rw [HTT.out]; exact hlog⟩
      have HK5 : Aside (∀ b, own v1 b → w.heap.size ≤ b ∧ b ≠ x ∧ b ≠ g ∧ b ≠ m ∧ b ≠ f) := ⟨fun b q => by
        have hd := hdist.out
        rcases hgr b q with q | q
        · exact HLO.out b q
        · omega⟩
      have hc5 := HFb.out.cell hC0.out
      clear hlog hgr hf hc
      go_wp2_with fail
      refine (HRF.out _).mono ?_
      rintro e x6 ⟨rfl, hf⟩
      have HF6 := Aside.mk (HFa.out.trans hf (fun _ _ q => q.elim))
      have HL6 := Aside.mk (HL5.out.keep hf id (fun _ _ => id))
      clear hf hc5
      go_wp2
      go_roundw
      case rel => exact ⟨k + 1, by rw [HTK.out], rfl, by omega, ⟨v1, HL6.out, HK5.out⟩, HF6⟩
      case measure => simp [intOf]; omega
    · have d1 : decide ((k : Int) < (ss.length : Int)) = false := by simp; omega
      have hkr : ss.take k = ss := List.take_of_length_le (by omega)
      rw [hkr]
      rw [hkr] at HL
      obtain ⟨lv, hlog, hlo⟩ := HL.out
      have HD7 := Aside.mk (HF.out.heap HD4.out (fun q => by omega))
      have HM7 := Aside.mk (HF.out.heap HM4.out (fun q => by omega))
      have HI7 := Aside.mk (HI4.out.keep HF.out (fun q => by omega) (fun k hk => by simp [own, Value.ownBlock] at hk))
      have HL7 := Aside.mk hlog
      have HLO := Aside.mk hlo
      have hsw := HF.out.size
      have hFz : (ByteArray.mk (frames ss).toArray).size = (frames ss).length := by simp [ByteArray.size]
      have hFt : (ByteArray.mk (frames ss).toArray).data.toList = frames ss := by simp
      obtain ⟨Mn, hMn⟩ : ∃ Mn : Nat, Mn = ((frames ss).length + 63) / 64 := ⟨_, rfl⟩
      have w5 : IntKind.i64.wrap (((frames ss).length : Int) + 63) = ((frames ss).length : Int) + 63 := by simp [IntKind.wrap, IntKind.bits, IntKind.signed]; omega
      have w6 : (((frames ss).length : Int) + 63).tdiv 64 = (Mn : Int) := by rw [Int.tdiv_eq_ediv_of_nonneg (by omega)]; omega
      have w7 : IntKind.i64.wrap (Mn : Int) = (Mn : Int) := by simp [IntKind.wrap, IntKind.bits, IntKind.signed]; omega
      rw [← hMn] at hroom
      clear hkr HL hlog hlo
      have HAD := Aside.mk (fun W (h : Fr (fun _ => False) wr W) => dadd_ok W g m f hh 0 1 0 0 1 1 (-1) (.slice none 0 0) [] ⟨(frames ss).toArray⟩ (by rw [hFz]; simp; omega) (by omega) (by omega) (by have := HHH.out; omega) (by rw [hFz]; simp only [List.length_nil, Nat.zero_add, blk]; have := HHH.out; omega) (h.heap HD7.out id) (HI7.out.keep h id (fun _ _ => id)) (by have := hdist.out; omega) (fun k hk => by simp [own, Value.ownBlock] at hk) (lk_yes W m 1 0 1 _ (h.heap HM7.out id)))
      rw [hFt, hFz] at HAD
      simp only [List.nil_append, List.length_nil, Nat.zero_add] at HAD
      generalize hU : 1 + (blk (frames ss).length - blk 0) = U at *
      have HWR := Aside.mk (wlwrite_ok wr x g 1 lv ss 0 0 (by omega) HNE.out (by have := HBD.out; omega) (by omega) HL7.out
        (fun W w' => ∃ v1, isD w' g m hh 0 U 0 0 (1 + 1) (-1) false ∧ isF w' f 0 v1 (frames ss) (-1) ∧ (∀ k, own v1 k → own (.slice none 0 0) k ∨ W.heap.size ≤ k) ∧ Fr (fun k => k = g ∨ k = f ∨ own (.slice none 0 0) k) W w')
        (fun k => k = g ∨ k = f ∨ own (.slice none 0 0) k) (fun W w' ⟨v1, _, _, _, h⟩ => h) (fun q => by
          have := hdist.out
          rcases q with q | q | q
          · omega
          · omega
          · simp [own, Value.ownBlock] at q) (fun k hk q => by
          have := HLO.out k hk
          rcases q with q | q | q
          · omega
          · omega
          · simp [own, Value.ownBlock] at q) (fun k hk q => by
          have := hdist.out
          rcases q with q | q | q
          · omega
          · omega
          · simp [own, Value.ownBlock] at q) HAD.out)
      have d2 : decide ((y : Int) < (Mn : Int)) = false := by simp; omega
      clear hMn HAD hU
      rw [show 0 + ss.length = ss.length by omega] at HWR
      go_wp2_with fail
      refine HWR.out.mono ?_
      rintro e x8 ⟨rfl, y1, y2, hfA, ⟨v1, hD, hI, hv1, hfB⟩, hfC, hlog⟩
      have hno : ∀ b, ¬ own (.slice none 0 0) b := fun b q => by simp [own, Value.ownBlock] at q
      have hdd := hdist.out
      have hszA := hfA.size
      have hszB := hfB.size
      have hvv : ∀ b, own v1 b → b ≠ x ∧ b ≠ g ∧ b ≠ m ∧ b ≠ f ∧ w.heap.size ≤ b := fun b q => by
        rcases hv1 b q with q | q
        · exact absurd q (hno b)
        · omega
      have HVV := Aside.mk hvv
      have HF8 : Aside (Fr (fun _ => False) w x8) := ⟨((HFw.out.trans hfA (fun _ _ q => q)).trans hfB (fun b hb q => by
        rcases q with q | q | q
        · omega
        · omega
        · exact hno b q)).trans hfC (fun b hb q => by have q2 : b = x := q; omega)⟩
      have HL8 := Aside.mk hlog
      have HD8 := Aside.mk (hfC.heap hD (fun q => by have q2 : g = x := q; omega))
      have HI8 := Aside.mk (hI.keep hfC (fun q => by have q2 : f = x := q; omega) (fun b hb q => (hvv b hb).1 q))
      have HM8 := Aside.mk (hfC.heap (hfB.heap (hfA.heap HM7.out id) (fun q => by
        rcases q with q | q | q
        · omega
        · omega
        · exact hno m q)) (fun q => by have q2 : m = x := q; omega))
      clear hfA hD hI hv1 hfB hfC hlog hno hszA hszB hvv HWR
      go_wp2_with fail
      refine (wlcounts_any x8 x g 1 (.slice none 0 0) [] ss.length 0 HL8.out).mono ?_
      rintro e x9 ⟨rfl, hf⟩
      have HF9 := Aside.mk (HF8.out.trans hf (fun _ _ q => q))
      have HL9 := Aside.mk (HL8.out.keep hf id (fun _ _ => id))
      have HD9 := Aside.mk (hf.heap HD8.out id)
      have HM9 := Aside.mk (hf.heap HM8.out id)
      have HI9 := Aside.mk (HI8.out.keep hf id (fun _ _ => id))
      have HSZ9 := Aside.mk (dsize_ok x9 g m f 1 (-1) 0 v1 (frames ss) (isD.c0 HD9.out) (isD.c8 HD9.out) HI9.out (lk_yes x9 m 1 0 1 _ HM9.out))
      clear hf
      go_wp2_with fail
      refine HSZ9.out.mono ?_
      rintro e x10 ⟨rfl, hf⟩
      have HF10 := Aside.mk (HF9.out.trans hf (fun _ _ q => q))
      have HL10 := Aside.mk (HL9.out.keep hf id (fun _ _ => id))
      have HD10 := Aside.mk (hf.heap HD9.out id)
      have HM10 := Aside.mk (hf.heap HM9.out id)
      have HI10 := Aside.mk (HI9.out.keep hf id (fun _ _ => id))
      have hR := dread_ok x10 g m f 0 (frames ss).length 1 (-1) 0 v1 (frames ss) (by omega) (by omega) (isD.c0 HD10.out) (isD.c8 HD10.out) HI10.out (lk_yes x10 m 1 0 1 _ HM10.out)
      rw [List.drop_zero, List.take_length] at hR
      have HR := Aside.mk hR
      have HSY := Aside.mk (wlsync_ok x10 x g 1 (.slice none 0 0) [] ss.length 0 HL10.out (fun W w' => Fr (fun k => k = g ∨ k = f) W w') (fun k => k = g ∨ k = f) (fun _ _ h => h) (fun q => by omega)
        (fun W hW => by
          have h : Fr (fun _ => False) x10 W := by rw [hW]; exact (Fr.refl (fun _ => False) x10).drew
          exact (dsync_ok W g m f hh 0 U 0 0 (1 + 1) 1 (-1) 0 v1 (frames ss) (by omega) (h.heap HD10.out id) (HI10.out.keep h id (fun _ _ => id)) (by omega) (fun b hb => ⟨(HVV.out b hb).2.1, (HVV.out b hb).2.2.2.1⟩) (lk_yes W m 1 0 1 _ (h.heap HM10.out id))).mono fun e w' ⟨he, _, _, h⟩ => ⟨he, h⟩))
      clear hf hR
      go_wp2_with fail
      refine HR.out.mono ?_
      rintro e x11 ⟨rfl, rfl⟩
      go_wp2_with fail
      refine HSY.out.mono ?_
      rintro e x12 ⟨rfl, y3, hr, hf, -⟩
      have HF12 : Aside (Fr (fun _ => False) w x12) := ⟨((HF10.out.drew).trans hr (fun b hb q => by
        rcases q with q | q
        · omega
        · omega)).trans hf (fun b hb q => by have q2 : b = x := q; omega)⟩
      clear hr hf
      go_wp2
      go_ret
      exact ⟨rfl, HF12.out⟩

theorem wfull_any (w : World) (v : Value) (ss : List ByteArray) (hn : ss.length ≤ 9223372036854775807) (H : isSs w v ss) (y : Int) (hy : 0 ≤ y ∧ y ≤ 255) : Calls Try.prog 7 #[v, .int .u8 y] w fun e w' => e = .returned (.bool true) ∧ Fr (fun _ => False) w w' := by
  cases hf : fewS ss 0 0 with
  | false => exact wfull_few w v ss hn H y hf
  | true =>
    by_cases hne : ss = []
    · subst hne; exact wfull_nil w v H y
    obtain ⟨n, rfl⟩ : ∃ n : Nat, y = (n : Int) := ⟨y.toNat, by omega⟩
    by_cases hr : n < ((frames ss).length + 63) / 64
    · exact wfull_no w v ss hne H n (by omega) hf hr
    · exact wfull_ok w v ss hne H n (by omega) hf hr

end Go.Proofs.Ytodhkdmkkjhnnaa
