/- The walks of a log: Write and Sync. -/
import Derived.Test.YtodhkdmkkjhnnaaWLog
import Derived.Test.YtodhkdmkkjhnnaaSame
import Derived.Test.YtodhkdmkkjhnnaaHeld
set_option linter.unusedVariables false
set_option linter.unusedSimpArgs false
namespace Go.Proofs.Ytodhkdmkkjhnnaa
open Go.RowKit

set_option maxHeartbeats 6400000 in
set_option maxRecDepth 100000 in
theorem wlwrite_full (w : World) (x g : Nat) (n : Int) (v : Value) (ss : List ByteArray) (wr su : Nat) (hne : ss ≠ []) (hsz : sizes ss ≤ 1000000) (hcnt : ss.length ≤ 1000000) (H : isLog w x g n v ss wr su)
    (HADD : ∀ W, Fr (fun _ => False) w W → Calls Try.prog 25 #[.pointer (some ⟨g, 0, none⟩), .int .i64 n, .string ⟨(frames ss).toArray⟩] W fun e w' => e = .returned (.int .i64 7) ∧ Fr (fun _ => False) W w') :
    Calls Try.prog 36 #[.pointer (some ⟨x, 0, none⟩)] w fun e w' => e = .returned (.int .i64 7) ∧ Fr (fun _ => False) w w' := by
  obtain ⟨p, c, hv, hp⟩ := H.own_.slice
  subst hv
  obtain ⟨gv, rfl, -⟩ := hp hne
  have c2 : w.cell? ⟨x, 2, none⟩ = some (.slice (some ⟨gv, 0, none⟩) ss.length c) := heap_cell H.at_ 2
  have HH := Aside.mk H
  have HA := Aside.mk HADD
  have hl0 : ((ss.length : Int) == 0) = false := by
    have : 0 < ss.length := List.length_pos_iff.2 hne
    simp; exact hne
  have hln : ¬ ss.length = 0 := by
    have : 0 < ss.length := List.length_pos_iff.2 hne
    omega
  have hfl := frames_len ss (by omega)
  have HFL := Aside.mk (fun k => frames_le ss k)
  clear H HADD hp
  go_enter Try.func36, Try.ntmps36
  go_wp2_with fail
  go_loopw [3, 20] (fun m i wr => ∃ k : Nat, i = .int .i64 k ∧ k ≤ ss.length ∧ Aside (OwnB wr m (frames (ss.take k))) ∧ Aside (∀ b, own m b → w.heap.size ≤ b) ∧ Aside (Fr (fun _ => False) w wr)) (fun _ i _ => ss.length - (intOf i).toNat)
  case atStart => exact ⟨0, rfl, by omega, ⟨OwnB.nil _⟩, ⟨fun k hk => by simp [own, Value.ownBlock] at hk⟩, ⟨Fr.refl _ _⟩⟩
  case round =>
    obtain ⟨k, rfl, hk, HO, HK, HF⟩ := hrel
    by_cases hkl : k < ss.length
    · have d1 : decide ((k : Int) < (ss.length : Int)) = true := by simp; omega
      have HW1 := HH.out.own_.keep HF.out (fun _ _ => id)
      have hc : wr.cell? ⟨gv, k, none⟩ = some (.string ss[k]) := by
        have q := World.ownsRow.cells HW1 (g := gv) rfl k (.string ss[k]) (by simp [hkl])
        have e : (⟨gv, 0, none⟩ : Addr).add k = ⟨gv, k, none⟩ := by unfold Addr.add; split <;> simp_all
        rw [e] at q; exact q
      have htk := frames_take ss k ss[k] (List.getElem?_eq_getElem hkl)
      have hsk := size_le ss ss[k] (List.getElem_mem hkl)
      have hle := HFL.out (k + 1)
      generalize ss[k] = s at *
      have hws := fun W => wframe_any W s.data.toList (by rw [← ba_size]; omega)
      simp only [ba_eta] at hws
      have HWS := Aside.mk hws
      have HTK := Aside.mk htk
      rw [htk, List.length_append] at hle
      clear htk HW1 hws
      have x1 : IntKind.i64.wrap ((k : Int) + 1) = (k : Int) + 1 := by simp [IntKind.wrap, IntKind.bits, IntKind.signed]; omega
      have hz : (ByteArray.mk (frameB s.data.toList).toArray).size = (frameB s.data.toList).length := by simp [ByteArray.size]
      go_wp2_with fail
      refine (HWS.out _).mono ?_
      rintro e x2 ⟨rfl, hf⟩
      have HO2 := Aside.mk (HO.out.keep hf (fun _ _ => id))
      have HF2 := Aside.mk (HF.out.trans hf (fun _ _ q => q))
      clear hf
      go_wp2_with (at_builtin; refine append_str rfl (.tmp 24) (.tmp 26) rfl u3 (frames (ss.take k)) ⟨(frameB s.data.toList).toArray⟩ rfl rfl HO2.out (by rw [hz]; omega) ?_)
      intro v1 x3 ho hf hg
      have HO3 : Aside (OwnB x3 v1 (frames (ss.take (k + 1)))) := ⟨by rw [HTK.out]; simpa using ho⟩
      have hs2 := HF2.out.size
      have HK3 : Aside (∀ b, own v1 b → w.heap.size ≤ b) := ⟨fun b q => by
        rcases hg b q with q | q
        · exact HK.out b q
        · omega⟩
      have HF3 := Aside.mk (HF2.out.trans hf (fun b hb q => by have := HK.out b q; omega))
      clear ho hf hg
      go_wp2
      go_roundw
      case rel => exact ⟨k + 1, by go_num, by omega, HO3, HK3, HF3⟩
      case measure => simp [intOf]; omega
    · have d1 : decide ((k : Int) < (ss.length : Int)) = false := by simp; omega
      have hkr : ss.take k = ss := List.take_of_length_le (by omega)
      rw [hkr] at HO
      have hx0 := HF.out.heap HH.out.at_ id
      have e0 : wr.cell? ⟨x, 0, none⟩ = some (.pointer (some ⟨g, 0, none⟩)) := heap_cell hx0 0
      have e1 : wr.cell? ⟨x, 1, none⟩ = some (.int .i64 n) := heap_cell hx0 1
      have hcv : (convert 80 9 u3).run Try.prog wr.drew = .ok (.string ⟨(frames ss).toArray⟩) wr.drew := (HO.out.keep ((Fr.refl (fun _ => False) wr).drew) (fun _ _ => id)).conv
      have HFd := Aside.mk (HF.out.drew)
      clear hx0 hkr
      go_wp2_with fail
      go_region_with (first | (go_at_call 25; refine (HA.out _ HFd.out).mono ?_; rintro e w5 ⟨rfl, hf⟩; have HF5 := Aside.mk (HFd.out.trans hf (fun _ _ q => q)); clear hf))
      all_goals (go_wp2; go_ret; exact ⟨rfl, HF5.out⟩)

set_option maxHeartbeats 12800000 in
set_option maxRecDepth 100000 in
theorem wlwrite_ok (w : World) (x g : Nat) (n : Int) (v : Value) (ss : List ByteArray) (wt su : Nat) (hwr : wt ≤ 1000000) (hne : ss ≠ []) (hsz : sizes ss ≤ 1000000) (hcnt : ss.length ≤ 1000000) (H : isLog w x g n v ss wt su) (R : World → World → Prop) (S : Nat → Prop) (hRS : ∀ W W', R W W' → Fr S W W') (hxS : ¬ S x) (hvS : ∀ k, own v k → ¬ S k) (hnew : ∀ k, w.heap.size ≤ k → ¬ S k)
    (HADD : ∀ W, Fr (fun _ => False) w W → Calls Try.prog 25 #[.pointer (some ⟨g, 0, none⟩), .int .i64 n, .string ⟨(frames ss).toArray⟩] W fun e w' => e = .returned (.int .i64 0) ∧ R W w') :
    Calls Try.prog 36 #[.pointer (some ⟨x, 0, none⟩)] w fun e w' => e = .returned (.int .i64 0) ∧ ∃ w1 w2, Fr (fun _ => False) w w1 ∧ R w1 w2 ∧ Fr (fun k => k = x) w2 w' ∧ isLog w' x g n (.slice none 0 0) [] (wt + ss.length) su := by
  obtain ⟨p, c, hv, hp⟩ := H.own_.slice
  subst hv
  obtain ⟨gv, rfl, -⟩ := hp hne
  have c2 : w.cell? ⟨x, 2, none⟩ = some (.slice (some ⟨gv, 0, none⟩) ss.length c) := heap_cell H.at_ 2
  have HH := Aside.mk H
  have HA := Aside.mk HADD
  have HRS := Aside.mk hRS
  have HXS := Aside.mk hxS
  have HNS := Aside.mk hnew
  have hl0 : ((ss.length : Int) == 0) = false := by
    have : 0 < ss.length := List.length_pos_iff.2 hne
    simp; exact hne
  have hln : ¬ ss.length = 0 := by
    have : 0 < ss.length := List.length_pos_iff.2 hne
    omega
  have hfl := frames_len ss (by omega)
  have HFL := Aside.mk (fun k => frames_le ss k)
  clear H HADD hp hRS hxS hvS hnew
  go_enter Try.func36, Try.ntmps36
  go_wp2_with fail
  go_loopw [3, 20] (fun m i wr => ∃ k : Nat, i = .int .i64 k ∧ k ≤ ss.length ∧ Aside (OwnB wr m (frames (ss.take k))) ∧ Aside (∀ b, own m b → w.heap.size ≤ b) ∧ Aside (Fr (fun _ => False) w wr)) (fun _ i _ => ss.length - (intOf i).toNat)
  case atStart => exact ⟨0, rfl, by omega, ⟨OwnB.nil _⟩, ⟨fun k hk => by simp [own, Value.ownBlock] at hk⟩, ⟨Fr.refl _ _⟩⟩
  case round =>
    obtain ⟨k, rfl, hk, HO, HK, HF⟩ := hrel
    by_cases hkl : k < ss.length
    · have d1 : decide ((k : Int) < (ss.length : Int)) = true := by simp; omega
      have HW1 := HH.out.own_.keep HF.out (fun _ _ => id)
      have hc : wr.cell? ⟨gv, k, none⟩ = some (.string ss[k]) := by
        have q := World.ownsRow.cells HW1 (g := gv) rfl k (.string ss[k]) (by simp [hkl])
        have e : (⟨gv, 0, none⟩ : Addr).add k = ⟨gv, k, none⟩ := by unfold Addr.add; split <;> simp_all
        rw [e] at q; exact q
      have htk := frames_take ss k ss[k] (List.getElem?_eq_getElem hkl)
      have hsk := size_le ss ss[k] (List.getElem_mem hkl)
      have hle := HFL.out (k + 1)
      generalize ss[k] = s at *
      have hws := fun W => wframe_any W s.data.toList (by rw [← ba_size]; omega)
      simp only [ba_eta] at hws
      have HWS := Aside.mk hws
      have HTK := Aside.mk htk
      rw [htk, List.length_append] at hle
      clear htk HW1 hws
      have x1 : IntKind.i64.wrap ((k : Int) + 1) = (k : Int) + 1 := by simp [IntKind.wrap, IntKind.bits, IntKind.signed]; omega
      have hz : (ByteArray.mk (frameB s.data.toList).toArray).size = (frameB s.data.toList).length := by simp [ByteArray.size]
      go_wp2_with fail
      refine (HWS.out _).mono ?_
      rintro e x2 ⟨rfl, hf⟩
      have HO2 := Aside.mk (HO.out.keep hf (fun _ _ => id))
      have HF2 := Aside.mk (HF.out.trans hf (fun _ _ q => q))
      clear hf
      go_wp2_with (at_builtin; refine append_str rfl (.tmp 24) (.tmp 26) rfl u3 (frames (ss.take k)) ⟨(frameB s.data.toList).toArray⟩ rfl rfl HO2.out (by rw [hz]; omega) ?_)
      intro v1 x3 ho hf hg
      have HO3 : Aside (OwnB x3 v1 (frames (ss.take (k + 1)))) := ⟨by rw [HTK.out]; simpa using ho⟩
      have hs2 := HF2.out.size
      have HK3 : Aside (∀ b, own v1 b → w.heap.size ≤ b) := ⟨fun b q => by
        rcases hg b q with q | q
        · exact HK.out b q
        · omega⟩
      have HF3 := Aside.mk (HF2.out.trans hf (fun b hb q => by have := HK.out b q; omega))
      clear ho hf hg
      go_wp2
      go_roundw
      case rel => exact ⟨k + 1, by go_num, by omega, HO3, HK3, HF3⟩
      case measure => simp [intOf]; omega
    · have d1 : decide ((k : Int) < (ss.length : Int)) = false := by simp; omega
      have hkr : ss.take k = ss := List.take_of_length_le (by omega)
      rw [hkr] at HO
      have hx0 := HF.out.heap HH.out.at_ id
      have HSK : Aside (∀ W, Fr (fun _ => False) wr W → W.cell? ⟨x, 0, none⟩ = some (.pointer (some ⟨g, 0, none⟩)) ∧ W.cell? ⟨x, 1, none⟩ = some (.int .i64 n) ∧ (convert 80 9 u3).run Try.prog W = .ok (.string ⟨(frames ss).toArray⟩) W) := ⟨fun W h => ⟨heap_cell (h.heap hx0 id) 0, heap_cell (h.heap hx0 id) 1, (HO.out.keep h (fun _ _ => id)).conv⟩⟩
      have HSK5 : Aside (∀ W, Fr S wr.drew W → W.cell? ⟨x, 0, none⟩ = some (.pointer (some ⟨g, 0, none⟩)) ∧ W.cell? ⟨x, 1, none⟩ = some (.int .i64 n) ∧ (convert 80 9 u3).run Try.prog W = .ok (.string ⟨(frames ss).toArray⟩) W) := ⟨fun W h => ⟨heap_cell (h.heap (show wr.drew.heap[x]? = _ from hx0) HXS.out) 0, heap_cell (h.heap (show wr.drew.heap[x]? = _ from hx0) HXS.out) 1, ((HO.out.keep ((Fr.refl (fun _ => False) wr).drew) (fun _ _ => id)).keep h (fun b hb => HNS.out b (HK.out b hb))).conv⟩⟩
      have HFd : Aside (Fr (fun _ => False) wr wr.drew) := ⟨(Fr.refl _ wr).drew⟩
      have HFww := Aside.mk (HF.out.drew)
      have HX0 : Aside (wr.drew.heap[x]? = some (.cells (logL g n (.slice (some ⟨gv, 0, none⟩) ss.length c) wt su) 144 (0, 0))) := ⟨hx0⟩
      clear hx0 hkr
      go_wp2_with fail
      refine startH (S := fun w' => w'.cell? ⟨x, 0, none⟩ = some (.pointer (some ⟨g, 0, none⟩)) ∧ w'.cell? ⟨x, 1, none⟩ = some (.int .i64 n) ∧ (convert 80 9 u3).run Try.prog w' = .ok (.string ⟨(frames ss).toArray⟩) w') 12 #[false, false, false, false, false, false, false, false, false, false, false, false] (by kernel_rfl) rfl rfl (HSK.out _ HFd.out) (fun hHeld => ?_)
      refine takeH (i := 0) (v := ?_) (some 29) #[true, false, false, false, false, false, false, false, false, false, false, false] rfl rfl rfl (by kernel_rfl) (by kernel_rfl) (by kernel_rfl) (fun _ _ _ h => h) (Or.inl ⟨by rfl, ?_⟩) hHeld ?_
      rotate_left
      · intro w hSw; obtain ⟨s1, s2, s3⟩ := hSw; go_simp; with_reducible rfl
      rotate_left
      simp only [Act.put, List.setIfInBounds_toArray, List.set_cons_zero, List.set_cons_succ]
      refine takeH (i := 1) (v := ?_) (some 30) #[true, true, false, false, false, false, false, false, false, false, false, false] rfl rfl rfl (by kernel_rfl) (by kernel_rfl) (by kernel_rfl) (fun _ _ _ h => h) (Or.inl ⟨by rfl, ?_⟩) hHeld ?_
      rotate_left
      · intro w hSw; obtain ⟨s1, s2, s3⟩ := hSw; go_simp; with_reducible rfl
      rotate_left
      simp only [Act.put, List.setIfInBounds_toArray, List.set_cons_zero, List.set_cons_succ]
      refine takeH (i := 2) (v := ?_) (some 31) #[true, true, true, false, false, false, false, false, false, false, false, false] rfl rfl rfl (by kernel_rfl) (by kernel_rfl) (by kernel_rfl) (fun _ _ _ h => h) (Or.inl ⟨by rfl, ?_⟩) hHeld ?_
      rotate_left
      · intro w hSw; obtain ⟨s1, s2, s3⟩ := hSw; go_simp; with_reducible rfl
      rotate_left
      simp only [Act.put, List.setIfInBounds_toArray, List.set_cons_zero, List.set_cons_succ]
      refine takeH (i := 3) (v := ?_) (some 32) #[true, true, true, true, false, false, false, false, false, false, false, false] rfl rfl rfl (by kernel_rfl) (by kernel_rfl) (by kernel_rfl) (fun _ _ _ h => h) (Or.inl ⟨by rfl, ?_⟩) hHeld ?_
      rotate_left
      · intro w hSw; obtain ⟨s1, s2, s3⟩ := hSw; go_simp; with_reducible rfl
      rotate_left
      simp only [Act.put, List.setIfInBounds_toArray, List.set_cons_zero, List.set_cons_succ]
      refine takeH (i := 4) (v := ?_) (some 33) #[true, true, true, true, true, false, false, false, false, false, false, false] rfl rfl rfl (by kernel_rfl) (by kernel_rfl) (by kernel_rfl) (fun _ _ _ h => h) (Or.inl ⟨by rfl, ?_⟩) hHeld ?_
      rotate_left
      · intro w hSw; obtain ⟨s1, s2, s3⟩ := hSw; go_simp; with_reducible rfl
      rotate_left
      simp only [Act.put, List.setIfInBounds_toArray, List.set_cons_zero, List.set_cons_succ]
      refine takeH (i := 5) (v := ?_) (some 34) #[true, true, true, true, true, true, false, false, false, false, false, false] rfl rfl rfl (by kernel_rfl) (by kernel_rfl) (by kernel_rfl) (fun _ _ _ h => h) (Or.inl ⟨by rfl, ?_⟩) hHeld ?_
      rotate_left
      · intro w hSw; obtain ⟨s1, s2, s3⟩ := hSw; go_simp; with_reducible rfl
      rotate_left
      simp only [Act.put, List.setIfInBounds_toArray, List.set_cons_zero, List.set_cons_succ]
      refine takeH (i := 6) (v := ?_) (some 35) #[true, true, true, true, true, true, true, false, false, false, false, false] rfl rfl rfl (by kernel_rfl) (by kernel_rfl) (by kernel_rfl) (fun _ _ _ h => h) (Or.inl ⟨by rfl, ?_⟩) hHeld ?_
      rotate_left
      · intro w hSw; obtain ⟨s1, s2, s3⟩ := hSw; go_simp; with_reducible rfl
      rotate_left
      simp only [Act.put, List.setIfInBounds_toArray, List.set_cons_zero, List.set_cons_succ]
      refine takeH (i := 7) (v := ?_) (some 36) #[true, true, true, true, true, true, true, true, false, false, false, false] rfl rfl rfl (by kernel_rfl) (by kernel_rfl) (by kernel_rfl) (fun _ _ _ h => h) (Or.inl ⟨by rfl, ?_⟩) hHeld ?_
      rotate_left
      · intro w hSw; obtain ⟨s1, s2, s3⟩ := hSw; go_simp; with_reducible rfl
      rotate_left
      simp only [Act.put, List.setIfInBounds_toArray, List.set_cons_zero, List.set_cons_succ]
      refine takeH (i := 8) (v := ?_) (some 37) #[true, true, true, true, true, true, true, true, true, false, false, false] rfl rfl rfl (by kernel_rfl) (by kernel_rfl) (by kernel_rfl) (fun _ _ _ h => h) (Or.inl ⟨by rfl, ?_⟩) hHeld ?_
      rotate_left
      · intro w hSw; obtain ⟨s1, s2, s3⟩ := hSw; go_simp; with_reducible rfl
      rotate_left
      simp only [Act.put, List.setIfInBounds_toArray, List.set_cons_zero, List.set_cons_succ]
      refine takeH (i := 9) (v := ?_) (some 38) #[true, true, true, true, true, true, true, true, true, true, false, false] rfl rfl rfl (by kernel_rfl) (by kernel_rfl) (by kernel_rfl) (fun _ _ _ h => h) (Or.inl ⟨by rfl, ?_⟩) hHeld ?_
      rotate_left
      · intro w hSw; obtain ⟨s1, s2, s3⟩ := hSw; go_simp; with_reducible rfl
      rotate_left
      simp only [Act.put, List.setIfInBounds_toArray, List.set_cons_zero, List.set_cons_succ]
      have HHd := Aside.mk hHeld
      clear hHeld
      refine wpAnyH_ready (rs := [10]) (by kernel_rfl) (by simp) ?_
      refine AllReadyH.cons rfl (fun K hK => ?_) AllReadyH.nil
      go_simp
      refine (HA.out _ HFww.out).mono ?_
      rintro e w5 ⟨rfl, hr⟩
      have hf := HRS.out _ _ hr
      have HR5 := Aside.mk hr
      have HS5 := Aside.mk (HSK5.out _ hf)
      clear hf hr
      go_wp2_with fail
      refine hK.out _ _ HS5.out (fun hHeld => ?_)
      clear hK K
      refine listH #[true, true, true, true, true, true, true, true, true, true, true, false] rfl ?_
      refine wpAnyH_ready (rs := [11]) (by kernel_rfl) (by simp) ?_
      refine AllReadyH.cons rfl (fun K hK => ?_) AllReadyH.nil
      go_simp
      refine hK.out _ _ hHeld (fun hHeld => ?_)
      clear hK K
      refine listH #[true, true, true, true, true, true, true, true, true, true, true, true] rfl ?_
      refine wpAnyH_done (by kernel_rfl) ?_ _
      clear hHeld
      have hx5 := (HRS.out _ _ HR5.out).heap HX0.out HXS.out
      have f2 : w5.cell? ⟨x, 2, none⟩ = some (.slice (some ⟨gv, 0, none⟩) ss.length c) := heap_cell hx5 2
      have f3 : w5.cell? ⟨x, 3, none⟩ = some (.int .i64 (wt : Nat)) := heap_cell hx5 3
      have z3 : w5.frozen? ⟨x, 3, none⟩ = false := heap_frozen hx5 3
      have z2 : w5.frozen? ⟨x, 2, none⟩ = false := heap_frozen hx5 2
      have w7 : IntKind.i64.wrap ((wt : Int) + (ss.length : Int)) = ((wt + ss.length : Nat) : Int) := by simp [IntKind.wrap, IntKind.bits, IntKind.signed]; omega
      have HX5 := Aside.mk hx5
      have HFN : Aside (∀ N : Int, Fr (fun k => k = x) w5 ((w5.drew.setCell ⟨x, 3, none⟩ (.int .i64 N)).setCell ⟨x, 2, none⟩ (.slice none 0 0))) := ⟨fun N => (((Fr.refl (fun k => k = x) w5).drew).setCell (p := ⟨x, 3, none⟩) (fun _ => rfl) _).setCell (p := ⟨x, 2, none⟩) (fun _ => rfl) _⟩
      have HLN : Aside (isLog ((w5.drew.setCell ⟨x, 3, none⟩ (.int .i64 ((wt + ss.length : Nat) : Int))).setCell ⟨x, 2, none⟩ (.slice none 0 0)) x g n (.slice none 0 0) [] (wt + ss.length) su) := ⟨⟨heap_set (heap_set (w := w5.drew) hx5 3 _) 2 _, OwnT.nil _⟩⟩
      clear hx5
      go_wp2_with fail
      go_region_with (fail)
      all_goals
        go_wp2
        go_ret
        exact ⟨rfl, _, _, HFww.out, HR5.out, HFN.out _, HLN.out⟩

set_option maxHeartbeats 6400000 in
set_option maxRecDepth 100000 in
theorem wlsync_ok (w : World) (x g : Nat) (n : Int) (v : Value) (ss : List ByteArray) (wt su : Nat) (H : isLog w x g n v ss wt su) (R : World → World → Prop) (S : Nat → Prop) (hRS : ∀ W W', R W W' → Fr S W W') (hxS : ¬ S x)
    (HSY : ∀ W, W = w.drew → Calls Try.prog 87 #[.pointer (some ⟨g, 0, none⟩), .int .i64 n] W fun e w' => e = .returned (.int .i64 0) ∧ R W w') :
    Calls Try.prog 40 #[.pointer (some ⟨x, 0, none⟩)] w fun e w' => e = .returned (.int .i64 0) ∧ ∃ w2, R w.drew w2 ∧ Fr (fun k => k = x) w2 w' ∧ w'.heap[x]? = some (.cells (logL g n v wt wt) 144 (0, 0)) := by
  have e0 : w.cell? ⟨x, 0, none⟩ = some (.pointer (some ⟨g, 0, none⟩)) := heap_cell H.at_ 0
  have e1 : w.cell? ⟨x, 1, none⟩ = some (.int .i64 n) := heap_cell H.at_ 1
  have HH : Aside (isLog w.drew x g n v ss wt su) := ⟨H.keep ((Fr.refl (fun _ => False) w).drew) id (fun _ _ => id)⟩
  have HA := Aside.mk HSY
  have HRS := Aside.mk hRS
  have HXS := Aside.mk hxS
  clear H HSY hRS hxS
  go_enter Try.func40, Try.ntmps40
  go_wp2_with fail
  refine startH (S := fun w' => w'.cell? ⟨x, 0, none⟩ = some (.pointer (some ⟨g, 0, none⟩)) ∧ w'.cell? ⟨x, 1, none⟩ = some (.int .i64 n)) 10 #[false, false, false, false, false, false, false, false, false, false] (by kernel_rfl) rfl rfl ⟨e0, e1⟩ (fun hHeld => ?_)
  refine takeH (i := 0) (v := ?_) (some 6) #[true, false, false, false, false, false, false, false, false, false] rfl rfl rfl (by kernel_rfl) (by kernel_rfl) (by kernel_rfl) (fun _ _ _ h => h) (Or.inl ⟨by rfl, ?_⟩) hHeld ?_
  rotate_left
  · intro w hSw; obtain ⟨s1, s2⟩ := hSw; go_simp; with_reducible rfl
  rotate_left
  simp only [Act.put, List.setIfInBounds_toArray, List.set_cons_zero, List.set_cons_succ]
  refine takeH (i := 1) (v := ?_) (some 7) #[true, true, false, false, false, false, false, false, false, false] rfl rfl rfl (by kernel_rfl) (by kernel_rfl) (by kernel_rfl) (fun _ _ _ h => h) (Or.inl ⟨by rfl, ?_⟩) hHeld ?_
  rotate_left
  · intro w hSw; obtain ⟨s1, s2⟩ := hSw; go_simp; with_reducible rfl
  rotate_left
  simp only [Act.put, List.setIfInBounds_toArray, List.set_cons_zero, List.set_cons_succ]
  refine takeH (i := 2) (v := ?_) (some 8) #[true, true, true, false, false, false, false, false, false, false] rfl rfl rfl (by kernel_rfl) (by kernel_rfl) (by kernel_rfl) (fun _ _ _ h => h) (Or.inl ⟨by rfl, ?_⟩) hHeld ?_
  rotate_left
  · intro w hSw; obtain ⟨s1, s2⟩ := hSw; go_simp; with_reducible rfl
  rotate_left
  simp only [Act.put, List.setIfInBounds_toArray, List.set_cons_zero, List.set_cons_succ]
  refine takeH (i := 3) (v := ?_) (some 9) #[true, true, true, true, false, false, false, false, false, false] rfl rfl rfl (by kernel_rfl) (by kernel_rfl) (by kernel_rfl) (fun _ _ _ h => h) (Or.inl ⟨by rfl, ?_⟩) hHeld ?_
  rotate_left
  · intro w hSw; obtain ⟨s1, s2⟩ := hSw; go_simp; with_reducible rfl
  rotate_left
  simp only [Act.put, List.setIfInBounds_toArray, List.set_cons_zero, List.set_cons_succ]
  refine takeH (i := 4) (v := ?_) (some 10) #[true, true, true, true, true, false, false, false, false, false] rfl rfl rfl (by kernel_rfl) (by kernel_rfl) (by kernel_rfl) (fun _ _ _ h => h) (Or.inl ⟨by rfl, ?_⟩) hHeld ?_
  rotate_left
  · intro w hSw; obtain ⟨s1, s2⟩ := hSw; go_simp; with_reducible rfl
  rotate_left
  simp only [Act.put, List.setIfInBounds_toArray, List.set_cons_zero, List.set_cons_succ]
  refine takeH (i := 5) (v := ?_) (some 11) #[true, true, true, true, true, true, false, false, false, false] rfl rfl rfl (by kernel_rfl) (by kernel_rfl) (by kernel_rfl) (fun _ _ _ h => h) (Or.inl ⟨by rfl, ?_⟩) hHeld ?_
  rotate_left
  · intro w hSw; obtain ⟨s1, s2⟩ := hSw; go_simp; with_reducible rfl
  rotate_left
  simp only [Act.put, List.setIfInBounds_toArray, List.set_cons_zero, List.set_cons_succ]
  refine takeH (i := 6) (v := ?_) (some 12) #[true, true, true, true, true, true, true, false, false, false] rfl rfl rfl (by kernel_rfl) (by kernel_rfl) (by kernel_rfl) (fun _ _ _ h => h) (Or.inl ⟨by rfl, ?_⟩) hHeld ?_
  rotate_left
  · intro w hSw; obtain ⟨s1, s2⟩ := hSw; go_simp; with_reducible rfl
  rotate_left
  simp only [Act.put, List.setIfInBounds_toArray, List.set_cons_zero, List.set_cons_succ]
  refine takeH (i := 7) (v := ?_) (some 13) #[true, true, true, true, true, true, true, true, false, false] rfl rfl rfl (by kernel_rfl) (by kernel_rfl) (by kernel_rfl) (fun _ _ _ h => h) (Or.inl ⟨by rfl, ?_⟩) hHeld ?_
  rotate_left
  · intro w hSw; obtain ⟨s1, s2⟩ := hSw; go_simp; with_reducible rfl
  rotate_left
  simp only [Act.put, List.setIfInBounds_toArray, List.set_cons_zero, List.set_cons_succ]
  have HHd := Aside.mk hHeld
  clear hHeld
  refine wpAnyH_ready (rs := [8]) (by kernel_rfl) (by simp) ?_
  refine AllReadyH.cons rfl (fun K hK => ?_) AllReadyH.nil
  go_simp
  refine (HA.out _ rfl).mono ?_
  rintro e w5 ⟨rfl, hr⟩
  have hf := HRS.out _ _ hr
  have HR5 := Aside.mk hr
  have hx5 := hf.heap HH.out.at_ HXS.out
  have HS5 : Aside (w5.cell? ⟨x, 0, none⟩ = some (.pointer (some ⟨g, 0, none⟩)) ∧ w5.cell? ⟨x, 1, none⟩ = some (.int .i64 n)) := ⟨⟨heap_cell hx5 0, heap_cell hx5 1⟩⟩
  have HX5 := Aside.mk hx5
  clear hf hr hx5
  go_wp2_with fail
  refine hK.out _ _ HS5.out (fun hHeld => ?_)
  clear hK K
  refine listH #[true, true, true, true, true, true, true, true, true, false] rfl ?_
  refine wpAnyH_ready (rs := [9]) (by kernel_rfl) (by simp) ?_
  refine AllReadyH.cons rfl (fun K hK => ?_) AllReadyH.nil
  go_simp
  refine hK.out _ _ hHeld (fun hHeld => ?_)
  clear hK K
  refine listH #[true, true, true, true, true, true, true, true, true, true] rfl ?_
  refine wpAnyH_done (by kernel_rfl) ?_ _
  clear hHeld
  have f3 : w5.cell? ⟨x, 3, none⟩ = some (.int .i64 (wt : Nat)) := heap_cell HX5.out 3
  have f4 : w5.cell? ⟨x, 4, none⟩ = some (.int .i64 (su : Nat)) := heap_cell HX5.out 4
  have z4 : w5.frozen? ⟨x, 4, none⟩ = false := heap_frozen HX5.out 4
  go_wp2
  go_ret
  exact ⟨rfl, w5, HR5.out, (Fr.refl (fun k => k = x) w5).setCell (p := ⟨x, 4, none⟩) (fun _ => rfl) _, heap_set HX5.out 4 _⟩
end Go.Proofs.Ytodhkdmkkjhnnaa
