/- The walk of box.Split. -/
import Derived.Test.YtodhkdmkkjhnnaaRSplitR
import Derived.Test.YtodhkdmkkjhnnaaBoxOpen
set_option linter.unusedVariables false
set_option linter.unusedSimpArgs false
namespace Go.Proofs.Ytodhkdmkkjhnnaa
open Go.RowKit

def itemL (x : It) : List Value := .int .i64 (x.at_ : Nat) :: .int .i64 (x.len : Nat) :: recL x.r
def itemCs (l : List It) : List (List Value) := l.map itemL
theorem itemL_len {x : It} (h : x.r.Ok) : (itemL x).length = 68 := by simp [itemL, recL_len h]
theorem itemL_one (x : It) : ∀ q ∈ itemL x, q.oneCell' = true := by
  intro q hq
  simp only [itemL, List.mem_cons] at hq
  rcases hq with rfl | rfl | hq
  · rfl
  · rfl
  · exact recL_one x.r q hq

theorem item_under : ∃ fs : Array Field, Try.prog.underlying 63 = some (.struct fs) ∧ ∀ W, (fs.mapM fun f => (do pure (f.offset, ← sizeOf f.type) : Sem (Nat × Nat))).run Try.prog W = .ok #[(0, 1), (1, 1), (2, 66)] W := ⟨_, Try.underlying63, fun W => by kernel_rfl⟩
set_option maxRecDepth 100000 in
theorem build_item (a n : Nat) (r : Rec) (hr : r.Ok) (W : World) : (Instr.build 63 #[(0, .int .i64 (a : Nat)), (1, .int .i64 (n : Nat)), (2, recV r)]).run Try.prog W = .ok (.agg (itemL ⟨a, n, r⟩).toArray) W := by
  obtain ⟨fs, hu, hm⟩ := item_under
  have hz : (zeroValue 63).run Try.prog W = .ok (.agg itemZ) W := by kernel_rfl
  have hzs : itemZ.size = 68 := by kernel_rfl
  unfold Instr.build
  rw [Sem.run_bind, hz]
  simp only [Result.andThen_ok, Sem.run_bind, run_underlying hu, hm]
  have hf : Instr.fill ((#[(0, 1), (1, 1), (2, 66)] : Array (Nat × Nat))[·]?) (Value.agg itemZ).cells [(0, .int .i64 (a : Nat)), (1, .int .i64 (n : Nat)), (2, recV r)] = some (itemL ⟨a, n, r⟩).toArray := by
    have hd : itemZ.toList = .int .i64 0 :: .int .i64 0 :: recLit.toList := by kernel_rfl
    have hrl : recLit.toList.length = 66 := by kernel_rfl
    rw [show (Value.agg itemZ).cells = itemZ from rfl]
    rw [fill_step _ _ 0 0 1 _ [.int .i64 (a : Nat)] _ rfl rfl rfl (by omega)]
    rw [fill_step _ _ 1 1 1 _ [.int .i64 (n : Nat)] _ rfl rfl rfl (by rw [hd]; simp [hrl])]
    rw [fill_step _ _ 2 2 66 _ (recL r) _ rfl rfl (recL_len hr) (by rw [hd]; simp [hrl])]
    rw [hd, recL_len hr]
    simp only [List.take_zero, List.nil_append, List.length_singleton, List.singleton_append, List.take_succ_cons, List.drop_succ_cons, List.drop_zero, List.cons_append, Instr.fill]
    rw [show List.drop (64 + 2) recLit.toList = [] from List.drop_of_length_le (by omega)]
    simp [itemL]
  rw [hf]
  rfl

theorem ba_mid (s : List UInt8) (a n : Nat) : (ByteArray.mk s.toArray).extract a (a + n) = ⟨((s.drop a).take n).toArray⟩ := by
  rw [ba_extract]
  simp

set_option maxHeartbeats 12800000 in
set_option maxRecDepth 100000 in
theorem bsplit_any (w : World) (s : List UInt8) (hs : s.length ≤ 1000000) : Calls Try.prog 30 #[.string ⟨s.toArray⟩] w fun e w' => ∃ u, e = .returned (.tuple #[u, .int .i64 ((splitR 0 s).2 : Nat)]) ∧
    OwnE w' 63 68 u (itemCs (splitR 0 s).1) ∧ Fr (fun _ => False) w w' := by
  have hsz : (ByteArray.mk s.toArray).size = s.length := by simp [ByteArray.size]
  have HS0 := Aside.mk (SplitRAt.start s)
  go_enter Try.func30, Try.ntmps30
  go_wp2_with fail
  go_loopw [4, 5] (fun i k wr => ∃ acc, ∃ at_ : Nat, k = .int .i64 at_ ∧ Aside (SplitRAt s acc at_) ∧ Aside (OwnE wr 63 68 i (itemCs acc)) ∧ Aside (∀ b, own i b → w.heap.size ≤ b ∧ b < wr.heap.size) ∧ Aside (Fr (fun _ => False) w wr)) (fun _ k _ => s.length - (intOf k).toNat)
  case atStart => exact ⟨[], 0, rfl, HS0, ⟨OwnE.nil _ _ _⟩, ⟨fun k hk => by simp [own, Value.ownBlock] at hk⟩, ⟨Fr.refl _ _⟩⟩
  case round =>
    obtain ⟨acc, at_, rfl, HS, HO, HKO, HF⟩ := hrel
    have hle := HS.out.le
    have hdl : (s.drop at_).length = s.length - at_ := by simp
    have hx0 : (ByteArray.mk s.toArray).extract at_ s.length = ⟨(s.drop at_).toArray⟩ := ba_from _ _
    have y0 : (0 : Int) ≤ (at_ : Int) := by omega
    have y1 : (at_ : Int) ≤ (s.length : Int) := by omega
    have hts := rdRec_size (s.drop at_)
    have hok := rdRec_ok (s.drop at_)
    have HNX := Aside.mk (fun W g h => next_any W g (s.drop at_) h (by rw [hdl]; omega))
    have HSTOP := Aside.mk (fun h => HS.out.stop (stepR_no h))
    have HSTEP := Aside.mk (fun n e r0 r hr hO h => HS.out.step (n := n) (e := e) (r0 := r0) (r := r) hr hO h)
    have HGO := Aside.mk (stepR_of (l := s.drop at_))
    rw [hdl] at hts
    generalize hT : rdRec (s.drop at_) = T at *
    obtain ⟨r0, n, e0⟩ := T
    simp only at hts hok HSTOP HGO
    unfold NextPost at HNX
    simp only at HNX
    go_wp2_with fail
    refine (over_any _ _).mono ?_
    rintro e x1 ⟨rfl, hR, hf⟩
    have HR1 : Aside (isR x1 wr.heap.size (s.drop at_)) := ⟨by simpa using hR⟩
    have HO1 := Aside.mk (HO.out.keep hf (fun _ _ => id))
    have HF1 := Aside.mk (HF.out.trans hf (fun _ _ q => q))
    have hsz0 := Aside.mk HF.out.size
    have hsz1 : Aside (wr.heap.size < x1.heap.size) := ⟨lt_of_heap HR1.out⟩
    clear hR hf
    generalize hgr : wr.heap.size = gr at *
    go_wp2_with fail
    refine (HNX.out x1 gr HR1.out).mono ?_
    rintro e x2 ⟨rfl, ⟨l', hR, hl'⟩, hf⟩
    have HO2 := Aside.mk (HO1.out.keep hf (fun b hb q => by have q2 : b = gr := q; have := HKO.out b hb; omega))
    have HF2 := Aside.mk (HF1.out.trans hf (fun b hb q => by have q2 : b = gr := q; have := hsz0.out; omega))
    have HR2 := Aside.mk hR
    have HL2 := Aside.mk hl'
    have hsz2 := Aside.mk hf.size
    have HX2 := Aside.mk (isRec.fresh 30 x2 (.cells recLit 30) rfl)
    have hfa : Fr (fun _ => False) x2 (x2.alloc (.cells recLit 30)) := (Fr.refl _ _).alloc _
    have HOa := Aside.mk (HO2.out.keep hfa (fun _ _ => id))
    have HRa := Aside.mk (HR2.out.keep hfa id)
    have HFa := Aside.mk (HF2.out.trans hfa (fun _ _ q => q))
    clear hf hfa hR hl'
    go_wp2_with ((with_reducible refine gate (.store 30 (.tmp 7) (.tmp 18)) rfl ?_); refine st_all recT_box rfl rfl (.tmp 7) (.tmp 18) rfl x2.heap.size _ r0 (recV r0) rfl rfl rfl hok HX2.out ?_)
    intro x3 hx hf
    have HO3 := Aside.mk (HOa.out.keep hf (fun b hb q => by have q2 : b = x2.heap.size := q; have := HKO.out b hb; have := hsz1.out; have := hsz2.out; omega))
    have HR3 := Aside.mk (HRa.out.keep hf (fun q => by have := hsz1.out; have := hsz2.out; omega))
    have HF3 := Aside.mk (HFa.out.trans hf (fun b hb q => by have q2 : b = x2.heap.size := q; have := HF2.out.size; omega))
    have hsz3 : Aside (x2.heap.size < x3.heap.size) := ⟨lt_of_heap hx.1⟩
    clear hx hf
    by_cases he : e0 = 0
    · subst he
      obtain rfl := HL2.out rfl
      have HR3 : Aside (isR x3 gr (s.drop (at_ + n))) := ⟨by have q := HR3.out; rw [List.drop_drop] at q; exact q⟩
      have z0 : (ByteArray.mk (s.drop (at_ + n)).toArray).size = s.length - (at_ + n) := by simp [ByteArray.size]
      go_wp2_with fail
      refine (rest_any _ _ _ HR3.out).mono ?_
      rintro e x3' ⟨rfl, rfl⟩
      by_cases h4 : n + 4 ≤ s.length - at_
      · have q2 : decide (((s.length - (at_ + n) : Nat) : Int) < 4) = false := by simp; omega
        have z1 : IntKind.i64.wrap ((s.length : Int) - (at_ : Int)) = (s.length : Int) - (at_ : Int) := by simp [IntKind.wrap, IntKind.bits, IntKind.signed]; omega
        have z2 : IntKind.i64.wrap ((s.length : Int) - (at_ : Int) - ((s.length - (at_ + n) : Nat) : Int)) = (n : Int) := by simp [IntKind.wrap, IntKind.bits, IntKind.signed]; omega
        obtain ⟨N, hN⟩ : ∃ N : Nat, N = n + 4 := ⟨_, rfl⟩
        obtain ⟨M, hM⟩ : ∃ M : Nat, M = at_ + N := ⟨_, rfl⟩
        have z3 : IntKind.i64.wrap ((n : Int) + 4) = (N : Int) := by simp [IntKind.wrap, IntKind.bits, IntKind.signed]; omega
        have z4 : IntKind.i64.wrap ((at_ : Int) + (N : Int)) = (M : Int) := by simp [IntKind.wrap, IntKind.bits, IntKind.signed]; omega
        have z5 : (at_ : Int) ≤ (M : Int) := by omega
        have z6 : (M : Int) ≤ (s.length : Int) := by omega
        have hx : (ByteArray.mk s.toArray).extract at_ M = ⟨((s.drop at_).take (n + 4)).toArray⟩ := by rw [hM, hN]; exact ba_mid _ _ _
        have HNM := Aside.mk (And.intro hN hM)
        clear hN hM
        have HP := Aside.mk (fun W => boxopen_any W ⟨((s.drop at_).take (n + 4)).toArray⟩ (by simp [ByteArray.size]; omega))
        rw [show (ByteArray.mk ((s.drop at_).take (n + 4)).toArray).data.toList = (s.drop at_).take (n + 4) by simp] at HP
        have hokq := openR_ok ((s.drop at_).take (n + 4))
        generalize hC : openR ((s.drop at_).take (n + 4)) = C at *
        obtain ⟨r, C2⟩ := C
        simp only at hokq HP HSTOP HGO
        go_wp2_with fail
        refine (rest_any _ _ _ HR3.out).mono ?_
        rintro e x3' ⟨rfl, rfl⟩
        go_wp2_with fail
        refine (HP.out _).mono ?_
        rintro e x4 ⟨rfl, hf⟩
        have HO4 := Aside.mk (HO3.out.keep hf (fun _ _ => id))
        have HF4 := Aside.mk (HF3.out.trans hf (fun _ _ q => q))
        have hsz4 := Aside.mk hf.size
        have HX4 := Aside.mk (isRec.fresh 30 x4 (.cells recLit 30) rfl)
        have hfa : Fr (fun _ => False) x4 (x4.alloc (.cells recLit 30)) := (Fr.refl _ _).alloc _
        have HOb := Aside.mk (HO4.out.keep hfa (fun _ _ => id))
        have HFb := Aside.mk (HF4.out.trans hfa (fun _ _ q => q))
        clear hf hfa HP
        go_wp2_with ((with_reducible refine gate (.store 30 (.tmp 10) (.tmp 47)) rfl ?_); refine st_all recT_box rfl rfl (.tmp 10) (.tmp 47) rfl x4.heap.size _ r (recV r) rfl rfl rfl hokq HX4.out ?_)
        intro x5 hx5 hf
        have HO5 := Aside.mk (HOb.out.keep hf (fun b hb q => by have q2 : b = x4.heap.size := q; have := HKO.out b hb; have := hsz1.out; have := hsz2.out; have := hsz3.out; have := hsz4.out; omega))
        have HF5 := Aside.mk (HFb.out.trans hf (fun b hb q => by have q2 : b = x4.heap.size := q; have := HF4.out.size; omega))
        have HX5 := Aside.mk hx5
        clear hx5 hf
        by_cases hfr : C2 = 0
        · subst hfr
          have HST := HSTEP.out n 0 r0 r rfl hC (HGO.out trivial (by rw [hdl]; omega) rfl)
          rw [← HNM.out.1, ← HNM.out.2] at HST
          replace HST := Aside.mk HST
          have hm1 := HS.out.few
          have hlI : (itemL ⟨at_, N, r⟩).length = 68 := itemL_len hokq
          have HBI := Aside.mk (fun W => build_item at_ N r hokq W)
          go_wp2_with (first
            | ((with_reducible refine gate (.load 30 (.tmp 10)) rfl ?_); refine ld_all recT_box (by simp [Region.wanted]) (.tmp 10) rfl x4.heap.size r rfl HX5.out ?_)
            | ((with_reducible refine gate (.build 63 _) rfl ?_); refine bld (by simp [Region.wanted]) _ _ rfl _ (.agg (itemL ⟨at_, N, r⟩).toArray) (by simp only [List.map_toArray, List.map_cons, List.map_nil]; rfl) HBI.out ?_)
            | ((with_reducible refine gate (.buildSlice 56 1 #[(0, .tmp 57)]) rfl ?_); refine bs_one elem_item rfl (.tmp 57) rfl (.agg (itemL ⟨at_, N, r⟩).toArray) (itemL ⟨at_, N, r⟩) rfl rfl hlI ?_)
            | (at_builtin; refine append_elem elem_item rfl (.tmp 53) (.tmp 58) rfl u4 (itemCs acc) (itemL ⟨at_, N, r⟩) rfl rfl HO5.out hlI (itemL_one _) (by simp [itemCs]; omega) ?_))
          intro v1 x6 ho hf hg
          have HO6 := Aside.mk ho
          have HF6 := Aside.mk (HF5.out.trans hf (fun b hb q => by have := HKO.out b q; omega))
          have HK6 : Aside (∀ b, own v1 b → w.heap.size ≤ b ∧ b < x6.heap.size) := ⟨fun b q => ⟨by
            rcases hg b q with q3 | q3
            · exact (HKO.out b q3).1
            · have h1 := HF5.out.size; omega, by
            have h2 := ho.2
            rcases h2 with ⟨hv, _⟩ | ⟨g, cap, cur, hv, _, hh, _⟩
            · subst hv; simp [own, Value.ownBlock] at q
            · subst hv
              have : g = b := by simpa [own, Value.ownBlock] using q
              subst this; exact lt_of_heap hh⟩⟩
          clear ho hf hg
          go_wp2
          go_roundw
          case rel => exact ⟨_, _, rfl, HST, ⟨by simpa [itemCs] using HO6.out⟩, HK6, HF6⟩
          case measure => have hNM := HNM.out; simp [intOf]; omega
        · have hb : ((C2 : Int) == 0) = false := by simp; omega
          have HSP := Aside.mk (HSTOP.out (fun q => hfr q.2.2))
          clear hfr
          go_wp2
          go_ret2
          rw [HSP.out]
          exact ⟨_, rfl, HO5.out, HF5.out⟩
      · have q2 : decide (((s.length - (at_ + n) : Nat) : Int) < 4) = true := by simp; omega
        have HSP := Aside.mk (HSTOP.out (fun q => h4 (by have := q.2.1; rw [hdl] at this; exact this)))
        go_wp2
        go_ret2
        rw [HSP.out]
        exact ⟨_, rfl, HO3.out, HF3.out⟩
    · have heb : ((e0 : Int) == 0) = false := by simp; omega
      have HSP := Aside.mk (HSTOP.out (fun q => he q.1))
      go_wp2
      go_ret2
      rw [HSP.out]
      exact ⟨_, rfl, HO3.out, HF3.out⟩
end Go.Proofs.Ytodhkdmkkjhnnaa
