/- The walk of silolaw17.BoxSplits. Printed by gen_splits.py. -/
import Derived.Test.YtodhkdmkkjhnnaaBSplitR
import Derived.Test.YtodhkdmkkjhnnaaFewR
import Derived.Test.YtodhkdmkkjhnnaaRefPack
import Derived.Test.YtodhkdmkkjhnnaaAwake17
import Derived.Test.YtodhkdmkkjhnnaaTheirs
import Derived.Test.YtodhkdmkkjhnnaaHeld
set_option linter.unusedVariables false
set_option linter.unusedSimpArgs false
namespace Go.Proofs.Ytodhkdmkkjhnnaa
open Go.RowKit

theorem run_ldm {T : Nat} (hT : RecT T) (w : World) (b o : Nat) (r : Rec) (hr : r.Ok) (hc : w.rangeAt b o (recL r)) : (loadVar T ⟨b, o, none⟩).run Try.prog w = .ok (recV r) w := by
  have hl : (loadCells ⟨b, o, none⟩ (recL r).length).run Try.prog w = .ok (recL r).toArray w :=
    run_loadCells_list (P := Try.prog) w ⟨b, o, none⟩ (recL r) (fun j v hv => by rw [Addr.add_mid]; exact hc j v hv)
  rw [recL_len hr] at hl
  obtain ⟨d, hu, hd⟩ := hT.under
  have hi := hT.info
  cases hq : Try.prog.info? T with
  | none => simp [hq] at hi
  | some i =>
    have hs : i.size = 66 := by simpa [hq] using hi
    have hagg : (isAgg T).run Try.prog w = .ok true w := by
      unfold isAgg
      rw [Sem.run_bind, run_underlying hu w]
      cases d <;> simp_all [aggD]
    simp [loadVar, Sem.run_bind, hagg, sizeOf, typeInfo, hq, hs, hl, recV]
theorem ld_mid {T : Nat} (hT : RecT T) {ops : Array Oper} {rest : List Oper} {o : Oper} {a : Act} {w : World} {Q : Exit → Act → World → Prop} (hw : Region.wanted o (yielded ops a.tmps) = true) (x : Operand) (ho : o.op = .load T x) (b n : Nat) (r : Rec) (hr : r.Ok) (hx : a.eval x = .pointer (some ⟨b, n, none⟩)) (hc : w.rangeAt b n (recL r))
    (h : wpList Try.prog ops Q rest (a.put o.dst (recV r)) w) : wpList Try.prog ops Q (o :: rest) a w := by
  refine wpList_step fun K hK => ?_
  rw [if_pos hw]
  unfold Oper.wp execOp
  simp only [ho, hx, Instr.loadAt, Instr.sureAddr, Sem.run_bind, Sem.run_pure, Result.andThen_ok, run_ldm hT w b n r hr hc]
  exact hK _ _ h
theorem yi_mid {T : Nat} (hT : RecT T) {ops : Array Oper} {S : World → Prop} {o : Oper} {a : Act} (hw : Region.wanted o (yielded ops a.tmps) = true) (x : Operand) (ho : o.op = .load T x) (b n : Nat) (r : Rec) (hr : r.Ok) (u : Value) (hu : recV r = u) (hx : a.eval x = .pointer (some ⟨b, n, none⟩))
    (hS : ∀ w, S w → w.rangeAt b n (recL r)) : YieldsIf Try.prog ops S o u a := .inl ⟨hw, fun w hw' => by
  unfold execOp
  simp only [ho, hx, Instr.loadAt, Instr.sureAddr, Sem.run_bind, Sem.run_pure, Result.andThen_ok, run_ldm hT w b n r hr (hS w hw')]
  rw [hu]⟩

/-- The packings, one behind the other. -/
def packs (rs : List Rec) : List UInt8 := (rs.map fun r => (packR r).1).flatten
theorem packs_nil : packs [] = [] := rfl
theorem packs_take (rs : List Rec) (k : Nat) (r : Rec) (h : rs[k]? = some r) : packs (rs.take (k + 1)) = packs (rs.take k) ++ (packR r).1 := by
  obtain ⟨hk, hr⟩ := List.getElem?_eq_some_iff.1 h
  unfold packs
  rw [List.take_succ_eq_append_getElem hk, hr]
  simp
theorem packR_small {r : Rec} (hr : r.Ok) : (packR r).1.length ≤ r.body.length + 100 := by
  unfold packR
  split
  · simp
  · split
    · simp
    · rename_i h _
      have h1 := gs_len 1 64 (by omega)
      have h0 := gs_len 0 64 (by omega)
      have h2 := gs_len r.body.length 64 (by omega)
      have hk := hr.1
      have hb := hr.2
      rw [Crc.put_len]
      unfold recB
      split <;> simp only [List.length_append] <;> omega
theorem packs_len : ∀ (rs : List Rec) (h : ∀ r ∈ rs, r.Ok), (packs rs).length ≤ bodies rs + 20 * rs.length := by
  intro rs
  induction rs with
  | nil => intro _; simp [packs]
  | cons r rs ih =>
    intro h
    have h1 := packR_small (h r (by simp))
    have h2 := ih (fun x hx => h x (by simp [hx]))
    unfold packs bodies at *
    simp only [List.map_cons, List.flatten_cons, List.length_append, List.sum_cons, List.length_cons]
    omega
theorem packs_le (rs : List Rec) (k : Nat) : (packs (rs.take k)).length ≤ (packs rs).length := by
  have e : rs = rs.take k ++ rs.drop k := (List.take_append_drop k rs).symm
  have : (packs rs).length = (packs (rs.take k)).length + (packs (rs.drop k)).length := by
    conv => lhs; rw [e]
    unfold packs
    rw [List.map_append, List.flatten_append, List.length_append]
  omega

theorem body_le : ∀ (rs : List Rec) (r : Rec), r ∈ rs → r.body.length ≤ bodies rs := by
  intro rs
  induction rs with
  | nil => intro r h; simp at h
  | cons x xs ih =>
    intro r h
    unfold bodies at *
    simp only [List.map_cons, List.sum_cons]
    rcases List.mem_cons.1 h with rfl | h
    · omega
    · have := ih r h; omega

def SpPost (w : World) (e : Ending) (w' : World) : Prop := e = .returned (.bool true) ∧ Fr (fun _ => False) w w'

set_option maxHeartbeats 3200000 in
set_option maxRecDepth 100000 in
theorem splits_few (w : World) (v : Value) (rs : List Rec) (hn : rs.length ≤ 9223372036854775807) (H : isRs w v rs) (s : ByteArray) (hf : fewGo rs 0 0 = false) : Calls Try.prog 6 #[v, .string s] w (SpPost w) := by
  have HA := Aside.mk (fun W => awake_any W)
  have HW := Aside.mk (fun W h => few_any W v rs hn (H.keep h))
  rw [hf] at HW
  clear H hf
  go_enter Try.func6, Try.ntmps6
  go_wp2_with fail
  refine (HA.out _).mono ?_
  rintro e w1 ⟨rfl, hf⟩
  have HF1 := Aside.mk hf
  clear hf
  go_wp2_with fail
  refine (HW.out _ HF1.out).mono ?_
  rintro e w2 ⟨rfl, rfl⟩
  go_wp2_with fail
  refine (HA.out _).mono ?_
  rintro e w3 ⟨rfl, hf⟩
  have HF3 := Aside.mk (HF1.out.trans hf (fun _ _ q => q))
  clear hf
  go_wp2
  go_ret
  exact ⟨rfl, HF3.out⟩

set_option maxHeartbeats 3200000 in
set_option maxRecDepth 100000 in
theorem splits_long (w : World) (v : Value) (rs : List Rec) (hn : rs.length ≤ 9223372036854775807) (H : isRs w v rs) (s : ByteArray) (hf : fewGo rs 0 0 = true) (hl : 30000 < s.size) : Calls Try.prog 6 #[v, .string s] w (SpPost w) := by
  have HA := Aside.mk (fun W => awake_any W)
  have HW := Aside.mk (fun W h => few_any W v rs hn (H.keep h))
  rw [hf] at HW
  have q1 : decide ((30000 : Int) < (s.size : Int)) = true := by simp; omega
  clear H hf
  go_enter Try.func6, Try.ntmps6
  go_wp2_with fail
  refine (HA.out _).mono ?_
  rintro e w1 ⟨rfl, hf⟩
  have HF1 := Aside.mk hf
  clear hf
  go_wp2_with fail
  refine (HW.out _ HF1.out).mono ?_
  rintro e w2 ⟨rfl, rfl⟩
  go_wp2_with fail
  refine (HA.out _).mono ?_
  rintro e w3 ⟨rfl, hf⟩
  have HF3 := Aside.mk (HF1.out.trans hf (fun _ _ q => q))
  clear hf
  go_wp2
  go_ret
  exact ⟨rfl, HF3.out⟩

set_option maxHeartbeats 25600000 in
set_option maxRecDepth 100000 in
theorem splits_ok (w : World) (v : Value) (rs : List Rec) (H : isRs w v rs) (s : List UInt8) (hf : fewGo rs 0 0 = true) (hl : s.length ≤ 30000) : Calls Try.prog 6 #[v, .string ⟨s.toArray⟩] w (SpPost w) := by
  obtain ⟨hbd, hcnt⟩ := fewGo_true hf
  have hr200 : rs.length ≤ 200 := by
    by_cases h : rs = []
    · subst h; simp
    · have := hcnt h; omega
  have hpl := packs_len rs H.ok
  have HPL := Aside.mk (fun k => packs_le rs k)
  have HBD : Aside (∀ r ∈ rs, r.body.length ≤ 1000000000) := ⟨fun r h => by have := body_le rs r h; omega⟩
  have HA := Aside.mk (fun W => awake_any W)
  have HW := Aside.mk (fun W h => few_any W v rs (by omega) (H.keep h))
  rw [hf] at HW
  have hsz : (ByteArray.mk s.toArray).size = s.length := by simp [ByteArray.size]
  have q1 : decide ((30000 : Int) < (s.length : Int)) = false := by simp; omega
  have hP64 : (packs rs).length ≤ 64000 := by omega
  have HRS := Aside.mk H
  obtain ⟨p, c, rfl, hp⟩ := H.at_
  have HP := Aside.mk hp
  clear hp H hf hbd hcnt hpl
  go_enter Try.func6, Try.ntmps6
  go_wp2_with fail
  refine (HA.out _).mono ?_
  rintro e w1 ⟨rfl, hf⟩
  have HF1 := Aside.mk hf
  clear hf
  go_wp2_with fail
  refine (HW.out _ HF1.out).mono ?_
  rintro e w2 ⟨rfl, rfl⟩
  clear HW HA
  go_wp2_with fail
  go_loopw [5, 6] (fun m i wr => ∃ k : Nat, m = .string ⟨(packs (rs.take k)).toArray⟩ ∧ i = .int .i64 k ∧ k ≤ rs.length ∧ Aside (Fr (fun _ => False) w wr)) (fun _ i _ => rs.length - (intOf i).toNat)
  case atStart => exact ⟨0, rfl, rfl, by omega, HF1⟩
  case round =>
    obtain ⟨k, rfl, rfl, hk, HF⟩ := hrel
    by_cases hkl : k < rs.length
    · have d1 : decide ((k : Int) < (rs.length : Int)) = true := by simp; omega
      have hne : rs ≠ [] := by rintro rfl; simp at hkl
      obtain ⟨b, off, rfl, hx⟩ := HP.out hne
      have hxk := hx k rs[k] (List.getElem?_eq_getElem hkl)
      have hok : rs[k].Ok := HRS.out.ok _ (List.getElem_mem hkl)
      have htk := packs_take rs k rs[k] (List.getElem?_eq_getElem hkl)
      have hle := HPL.out (k + 1)
      have hxk := Aside.mk (HF.out.range hxk)
      have hbr := Aside.mk (HBD.out _ (List.getElem_mem hkl))
      generalize rs[k] = r at *
      have hps := packR_small hok
      have HPK := Aside.mk (fun W hb => refpack_any W r hok hb)
      have HTK := Aside.mk htk
      rw [htk, List.length_append] at hle
      clear htk hx
      generalize (packR r).1 = P1 at *
      have hz1 : (ByteArray.mk (packs (rs.take k)).toArray).size = (packs (rs.take k)).length := by simp [ByteArray.size]
      have hz2 : (ByteArray.mk P1.toArray).size = P1.length := by simp [ByteArray.size]
      have hcat : ByteArray.mk (packs (rs.take k)).toArray ++ ⟨P1.toArray⟩ = ⟨(packs (rs.take k) ++ P1).toArray⟩ := by rw [ByteArray.mk_append_mk]
      go_wp2_with ((with_reducible refine gate (.load 25 (.tmp 38)) rfl ?_); refine ld_mid recT_ref (by simp [Region.wanted, yielded]) (.tmp 38) rfl b (off + k * 66) r hok rfl hxk.out ?_)
      refine (HPK.out _ hbr.out).mono ?_
      rintro e x1 ⟨rfl, hf⟩
      have HF2 := Aside.mk (HF.out.trans hf (fun _ _ q => q))
      clear hf
      go_wp2
      go_roundw
      case rel => exact ⟨k + 1, by rw [HTK.out], rfl, by omega, HF2⟩
      case measure => simp [intOf]; omega
    · have d1 : decide ((k : Int) < (rs.length : Int)) = false := by simp; omega
      have hkr : rs.take k = rs := List.take_of_length_le (by omega)
      rw [hkr]
      have HFk := HF
      clear hkr HF HPL
      generalize packs rs = P at *
      have hz1 : (ByteArray.mk P.toArray).size = P.length := by simp [ByteArray.size]
      have hcat : ByteArray.mk P.toArray ++ ⟨s.toArray⟩ = ⟨(P ++ s).toArray⟩ := by rw [ByteArray.mk_append_mk]
      have hall : (P ++ s).length ≤ 1000000 := by rw [List.length_append]; omega
      have HB := Aside.mk (fun W => bsplit_any W (P ++ s) hall)
      have HR := Aside.mk (fun W => rsplitR_any W (P ++ s) hall)
      obtain ⟨hch, hall2, hfw⟩ := splitR_all (P ++ s) 0
      have hlen2 : (P ++ s).length ≤ 94000 := by rw [List.length_append]; omega
      generalize hQ : splitR 0 (P ++ s) = Q at *
      obtain ⟨its, N⟩ := Q
      simp only at HB HR hch hall2 hfw
      have hn2 : its.length ≤ 100000 := by omega
      have HCH := Aside.mk hch
      have HALL : Aside (∀ x ∈ its, x.r.Ok ∧ x.at_ + x.len ≤ 94000) := ⟨fun x hx => ⟨(hall2 x hx).1, by have := (hall2 x hx).2; omega⟩⟩
      clear hch hall2 hfw hall hlen2 hQ
      go_wp2_with fail
      refine (HB.out _).mono ?_
      rintro e x1 ⟨ui, rfl, ho, hf⟩
      have HI1 := Aside.mk ho
      have HF1 := Aside.mk (HFk.out.trans hf (fun _ _ q => q))
      clear ho hf
      go_wp2_with fail
      refine (HR.out _).mono ?_
      rintro e x2 ⟨ur, ue, rfl, ho, he, hf⟩
      have HI2 := Aside.mk (HI1.out.keep hf (fun _ _ => id))
      have HR2 := Aside.mk ho
      have HE2 := Aside.mk he
      have HF2 := Aside.mk (HF1.out.trans hf (fun _ _ q => q))
      clear ho he hf HB HR
      obtain ⟨pi, ci, rfl, hpi⟩ := HI2.out.shape
      obtain ⟨pr, cr, rfl, hpr⟩ := HR2.out.shape
      obtain ⟨pe, ce, rfl, hpe⟩ := HE2.out.shape
      have li : (itemCs its).length = its.length := by simp [itemCs]
      have lr : (recCs its).length = its.length := by simp [recCs]
      have le : (endCs its).length = its.length := by simp [endCs]
      rw [li] at HI2
      rw [lr] at HR2
      rw [le] at HE2
      rw [li, lr, le]
      have HPI := Aside.mk hpi
      have HPR := Aside.mk hpr
      have HPE := Aside.mk hpe
      clear hpi hpr hpe li lr le
      go_wp2_with fail
      go_loopw [14, 15] (fun m i wr => ∃ k a : Nat, m = .int .i64 a ∧ i = .int .i64 k ∧ k ≤ its.length ∧ Aside (a = endAt 0 its k) ∧ Aside (Fr (fun _ => False) x2 wr)) (fun _ i _ => its.length - (intOf i).toNat)
      case atStart => exact ⟨0, 0, rfl, rfl, by omega, ⟨(endAt_zero 0 its).symm⟩, ⟨Fr.refl _ _⟩⟩
      case round =>
        clear hk hkl d1
        obtain ⟨k, a0, rfl, rfl, hk, HAT, HFr⟩ := hrel
        by_cases hkl : k < its.length
        · have d1 : decide ((k : Int) < (its.length : Int)) = true := by simp; omega
          have hne : its ≠ [] := by rintro rfl; simp at hkl
          obtain ⟨gi, rfl⟩ := HPI.out (by simpa [itemCs] using hne)
          obtain ⟨gr, rfl⟩ := HPR.out (by simpa [recCs] using hne)
          obtain ⟨ge, rfl⟩ := HPE.out (by simpa [endCs] using hne)
          obtain ⟨hc1, hc2⟩ := HCH.out.get k hkl
          have hgk : its[k]? = some its[k] := List.getElem?_eq_getElem hkl
          obtain ⟨hok, hbnd⟩ := HALL.out _ (List.getElem_mem hkl)
          have hR1 := HI2.out.range (by intro x hx; simp only [itemCs, List.mem_map] at hx; obtain ⟨y, hy, rfl⟩ := hx; exact itemL_len (HALL.out y hy).1) k (itemL its[k]) (by simp only [itemCs, List.getElem?_map, hgk]; rfl)
          have hR2 := HR2.out.range (by intro x hx; simp only [recCs, List.mem_map] at hx; obtain ⟨y, hy, rfl⟩ := hx; exact recL_len (HALL.out y hy).1) k (recL its[k].r) (by simp only [recCs, List.getElem?_map, hgk]; rfl)
          have hR3 := HE2.out.range (by intro x hx; simp only [endCs, List.mem_map] at hx; obtain ⟨y, hy, rfl⟩ := hx; rfl) k [.int .i64 ((its[k].at_ + its[k].len : Nat) : Int)] (by simp only [endCs, List.getElem?_map, hgk]; rfl) 0 _ rfl
          rw [Nat.mul_one, Nat.add_zero] at hR3
          have hat : a0 = its[k].at_ := by rw [HAT.out, hc1]
          clear hgk hc1
          generalize its[k] = x at *
          obtain ⟨A, L, q⟩ := x
          simp only at hc2 hok hbnd hR1 hR2 hR3 hat
          subst hat
          obtain ⟨E, hE⟩ : ∃ E : Nat, E = a0 + L := ⟨_, rfl⟩
          rw [← hE] at hR3 hc2 hbnd
          have w3 : IntKind.i64.wrap ((a0 : Int) + (L : Int)) = (E : Int) := by simp [IntKind.wrap, IntKind.bits, IntKind.signed]; omega
          have HC2 := Aside.mk hc2
          have HEE := Aside.mk hE
          have HSK := Aside.mk (fun (W : World) (h : Fr (fun _ => False) x2 W) => And.intro (show W.rangeAt gi (k * 68 + 2) (recL q) from fun j u hj => h.cell (by rw [Nat.add_assoc]; exact hR1 (2 + j) u (by rw [Nat.add_comm]; exact hj))) (And.intro (show W.rangeAt gr (k * 66) (recL q) from fun j u hj => h.cell (hR2 j u hj)) (And.intro (show W.cell? ⟨gi, k * 68, none⟩ = some (.int .i64 (a0 : Nat)) from h.cell (hR1 0 _ rfl)) (And.intro (h.cell (hR1 1 _ rfl)) (h.cell hR3)))))
          clear hR1 hR2 hR3 hc2 hE hbnd HAT
          have HTH := Aside.mk (fun W => theirs_any W q hok)
          unfold recV at HTH
          obtain ⟨Lq, hLq⟩ : ∃ Lq, Lq = recL q := ⟨_, rfl⟩
          have HVQ : Aside (recV q = .agg Lq.toArray) := ⟨by rw [recV, hLq]⟩
          rw [← hLq] at HTH
          have HLQ := Aside.mk hLq
          clear hLq
          have HFd := Aside.mk (HFr.out.drew)
          go_wp2_with fail
          refine startH (S := fun w' => w'.rangeAt gi (k * 68 + 2) (recL q) ∧ w'.rangeAt gr (k * 66) (recL q) ∧ w'.cell? ⟨gi, k * 68, none⟩ = some (.int .i64 (a0 : Nat)) ∧ w'.cell? ⟨gi, k * 68 + 1, none⟩ = some (.int .i64 (L : Nat)) ∧ w'.cell? ⟨ge, k, none⟩ = some (.int .i64 (E : Nat))) 38 #[false, false, false, false, false, false, false, false, false, false, false, false, false, false, false, false, false, false, false, false, false, false, false, false, false, false, false, false, false, false, false, false, false, false, false, false, false, false] (by kernel_rfl) rfl rfl (HSK.out _ HFd.out) (fun hHeld => ?_)
          refine takeH (i := 0) (v := ?_) (some 76) #[true, false, false, false, false, false, false, false, false, false, false, false, false, false, false, false, false, false, false, false, false, false, false, false, false, false, false, false, false, false, false, false, false, false, false, false, false, false] rfl rfl rfl (by kernel_rfl) (by kernel_rfl) (by kernel_rfl) (fun _ _ _ h => h) (Or.inl ⟨by rfl, ?_⟩) hHeld ?_
          rotate_left
          · intro w hSw; obtain ⟨_, _, s3, s4, s5⟩ := hSw; go_simp; with_reducible rfl
          rotate_left
          simp only [Act.put, List.setIfInBounds_toArray, List.set_cons_zero, List.set_cons_succ]
          refine takeH (i := 1) (v := ?_) (some 77) #[true, true, false, false, false, false, false, false, false, false, false, false, false, false, false, false, false, false, false, false, false, false, false, false, false, false, false, false, false, false, false, false, false, false, false, false, false, false] rfl rfl rfl (by kernel_rfl) (by kernel_rfl) (by kernel_rfl) (fun _ _ _ h => h) (Or.inl ⟨by rfl, ?_⟩) hHeld ?_
          rotate_left
          · intro w hSw; obtain ⟨_, _, s3, s4, s5⟩ := hSw; go_simp; with_reducible rfl
          rotate_left
          simp only [Act.put, List.setIfInBounds_toArray, List.set_cons_zero, List.set_cons_succ]
          refine takeH (i := 2) (v := ?_) (some 78) #[true, true, true, false, false, false, false, false, false, false, false, false, false, false, false, false, false, false, false, false, false, false, false, false, false, false, false, false, false, false, false, false, false, false, false, false, false, false] rfl rfl rfl (by kernel_rfl) (by kernel_rfl) (by kernel_rfl) (fun _ _ _ h => h) (Or.inl ⟨by rfl, ?_⟩) hHeld ?_
          rotate_left
          · intro w hSw; obtain ⟨_, _, s3, s4, s5⟩ := hSw; go_simp; with_reducible rfl
          rotate_left
          simp only [Act.put, List.setIfInBounds_toArray, List.set_cons_zero, List.set_cons_succ]
          refine takeH (i := 3) (v := ?_) (some 79) #[true, true, true, true, false, false, false, false, false, false, false, false, false, false, false, false, false, false, false, false, false, false, false, false, false, false, false, false, false, false, false, false, false, false, false, false, false, false] rfl rfl rfl (by kernel_rfl) (by kernel_rfl) (by kernel_rfl) (fun _ _ _ h => h) (Or.inl ⟨by rfl, ?_⟩) hHeld ?_
          rotate_left
          · intro w hSw; obtain ⟨_, _, s3, s4, s5⟩ := hSw; go_simp; with_reducible rfl
          rotate_left
          simp only [Act.put, List.setIfInBounds_toArray, List.set_cons_zero, List.set_cons_succ]
          refine takeH (i := 4) (v := .agg Lq.toArray) (some 80) #[true, true, true, true, true, false, false, false, false, false, false, false, false, false, false, false, false, false, false, false, false, false, false, false, false, false, false, false, false, false, false, false, false, false, false, false, false, false] rfl rfl rfl (by kernel_rfl) (by kernel_rfl) (by kernel_rfl) (fun _ _ _ h => h) (yi_mid recT_box (by simp [Region.wanted, yielded]) (.tmp 79) rfl gi (k * 68 + 2) q hok _ HVQ.out rfl (fun w h => h.1)) hHeld ?_
          simp only [Act.put, List.setIfInBounds_toArray, List.set_cons_zero, List.set_cons_succ]
          refine takeH (i := 5) (v := ?_) (some 81) #[true, true, true, true, true, true, false, false, false, false, false, false, false, false, false, false, false, false, false, false, false, false, false, false, false, false, false, false, false, false, false, false, false, false, false, false, false, false] rfl rfl rfl (by kernel_rfl) (by kernel_rfl) (by kernel_rfl) (fun _ _ _ h => h) (Or.inl ⟨by rfl, ?_⟩) hHeld ?_
          rotate_left
          · intro w hSw; obtain ⟨_, _, s3, s4, s5⟩ := hSw; go_simp; with_reducible rfl
          rotate_left
          simp only [Act.put, List.setIfInBounds_toArray, List.set_cons_zero, List.set_cons_succ]
          refine takeH (i := 6) (v := ?_) (some 82) #[true, true, true, true, true, true, true, false, false, false, false, false, false, false, false, false, false, false, false, false, false, false, false, false, false, false, false, false, false, false, false, false, false, false, false, false, false, false] rfl rfl rfl (by kernel_rfl) (by kernel_rfl) (by kernel_rfl) (fun _ _ _ h => h) (Or.inl ⟨by rfl, ?_⟩) hHeld ?_
          rotate_left
          · intro w hSw; obtain ⟨_, _, s3, s4, s5⟩ := hSw; go_simp; with_reducible rfl
          rotate_left
          simp only [Act.put, List.setIfInBounds_toArray, List.set_cons_zero, List.set_cons_succ]
          refine takeH (i := 7) (v := ?_) (some 83) #[true, true, true, true, true, true, true, true, false, false, false, false, false, false, false, false, false, false, false, false, false, false, false, false, false, false, false, false, false, false, false, false, false, false, false, false, false, false] rfl rfl rfl (by kernel_rfl) (by kernel_rfl) (by kernel_rfl) (fun _ _ _ h => h) (Or.inl ⟨by rfl, ?_⟩) hHeld ?_
          rotate_left
          · intro w hSw; obtain ⟨_, _, s3, s4, s5⟩ := hSw; go_simp; with_reducible rfl
          rotate_left
          simp only [Act.put, List.setIfInBounds_toArray, List.set_cons_zero, List.set_cons_succ]
          refine takeH (i := 8) (v := .agg Lq.toArray) (some 84) #[true, true, true, true, true, true, true, true, true, false, false, false, false, false, false, false, false, false, false, false, false, false, false, false, false, false, false, false, false, false, false, false, false, false, false, false, false, false] rfl rfl rfl (by kernel_rfl) (by kernel_rfl) (by kernel_rfl) (fun _ _ _ h => h) (yi_mid recT_ref (by simp [Region.wanted, yielded]) (.tmp 83) rfl gr (k * 66) q hok _ HVQ.out rfl (fun w h => h.2.1)) hHeld ?_
          simp only [Act.put, List.setIfInBounds_toArray, List.set_cons_zero, List.set_cons_succ]
          have HHd := Aside.mk hHeld
          clear hHeld
          refine wpAnyH_ready (rs := [9]) (by kernel_rfl) (by simp) ?_
          refine AllReadyH.cons rfl (fun K hK => ?_) AllReadyH.nil
          go_simp
          refine (HTH.out _).mono ?_
          rintro e1 wz ⟨rfl, hf⟩
          have HFz := Aside.mk (HFd.out.trans hf (fun _ _ q => q))
          clear hf
          go_wp2_with fail
          refine hK.out _ _ (HSK.out _ HFz.out) (fun hHeld => ?_)
          clear hK K
          refine listH #[true, true, true, true, true, true, true, true, true, true, false, false, false, false, false, false, false, false, false, false, false, false, false, false, false, false, false, false, false, false, false, false, false, false, false, false, false, false] rfl ?_
          have hk1 : Lq.take 32 = q.key.map byt := by rw [HLQ.out]; simp [recL, hok.1]
          have hk2 : (Lq.drop 32).take 32 = q.base.map byt := by rw [HLQ.out]; simp [recL, hok.1, hok.2]
          have h64q : Lq[64]? = some (.bool q.patch) := by rw [HLQ.out]; exact recL_patch hok
          have h65q : Lq[65]? = some (.string ⟨q.body.toArray⟩) := by rw [HLQ.out]; exact recL_body hok
          have hE1 : ∀ W, (Op.equalIn 9999 23 (.agg (q.key.map byt).toArray) (.agg (q.key.map byt).toArray)).run Try.prog W = .ok true W := fun W => by rw [eq_bytes 9997 23 32 q.key q.key W Try.underlying23 hok.1 hok.1, decide_eq_true rfl]
          have hE2 : ∀ W, (Op.equalIn 9999 23 (.agg (q.base.map byt).toArray) (.agg (q.base.map byt).toArray)).run Try.prog W = .ok true W := fun W => by rw [eq_bytes 9997 23 32 q.base q.base W Try.underlying23 hok.2 hok.2, decide_eq_true rfl]
          refine takeH (i := 10) (v := ?_) (some 86) #[true, true, true, true, true, true, true, true, true, true, true, false, false, false, false, false, false, false, false, false, false, false, false, false, false, false, false, false, false, false, false, false, false, false, false, false, false, false] rfl rfl rfl (by kernel_rfl) (by kernel_rfl) (by kernel_rfl) (fun _ _ _ h => h) (Or.inl ⟨by rfl, ?_⟩) hHeld ?_
          rotate_left
          · intro w hSw; obtain ⟨_, _, s3, s4, s5⟩ := hSw; go_simp; with_reducible rfl
          rotate_left
          simp only [Act.put, List.setIfInBounds_toArray, List.set_cons_zero, List.set_cons_succ]
          clear hk1 hk2 h64q h65q hE1 hE2
          refine takeH (i := 11) (v := ?_) (some 87) #[true, true, true, true, true, true, true, true, true, true, true, true, false, false, false, false, false, false, false, false, false, false, false, false, false, false, false, false, false, false, false, false, false, false, false, false, false, false] rfl rfl rfl (by kernel_rfl) (by kernel_rfl) (by kernel_rfl) (fun _ _ _ h => h) (Or.inl ⟨by rfl, ?_⟩) hHeld ?_
          rotate_left
          · intro w hSw; obtain ⟨_, _, s3, s4, s5⟩ := hSw; go_simp; with_reducible rfl
          rotate_left
          simp only [Act.put, List.setIfInBounds_toArray, List.set_cons_zero, List.set_cons_succ]
          refine takeH (i := 12) (v := ?_) (some 88) #[true, true, true, true, true, true, true, true, true, true, true, true, true, false, false, false, false, false, false, false, false, false, false, false, false, false, false, false, false, false, false, false, false, false, false, false, false, false] rfl rfl rfl (by kernel_rfl) (by kernel_rfl) (by kernel_rfl) (fun _ _ _ h => h) (Or.inl ⟨by rfl, ?_⟩) hHeld ?_
          rotate_left
          · intro w hSw; obtain ⟨_, _, s3, s4, s5⟩ := hSw; go_simp; with_reducible rfl
          rotate_left
          simp only [Act.put, List.setIfInBounds_toArray, List.set_cons_zero, List.set_cons_succ]
          refine takeH (i := 13) (v := ?_) (some 89) #[true, true, true, true, true, true, true, true, true, true, true, true, true, true, false, false, false, false, false, false, false, false, false, false, false, false, false, false, false, false, false, false, false, false, false, false, false, false] rfl rfl rfl (by kernel_rfl) (by kernel_rfl) (by kernel_rfl) (fun _ _ _ h => h) (Or.inl ⟨by rfl, ?_⟩) hHeld ?_
          rotate_left
          · intro w hSw; obtain ⟨_, _, s3, s4, s5⟩ := hSw; go_simp; with_reducible rfl
          rotate_left
          simp only [Act.put, List.setIfInBounds_toArray, List.set_cons_zero, List.set_cons_succ]
          refine takeH (i := 14) (v := ?_) (some 90) #[true, true, true, true, true, true, true, true, true, true, true, true, true, true, true, false, false, false, false, false, false, false, false, false, false, false, false, false, false, false, false, false, false, false, false, false, false, false] rfl rfl rfl (by kernel_rfl) (by kernel_rfl) (by kernel_rfl) (fun _ _ _ h => h) (Or.inl ⟨by rfl, ?_⟩) hHeld ?_
          rotate_left
          · intro w hSw; obtain ⟨_, _, s3, s4, s5⟩ := hSw; go_simp; with_reducible rfl
          rotate_left
          simp only [Act.put, List.setIfInBounds_toArray, List.set_cons_zero, List.set_cons_succ]
          refine takeH (i := 15) (v := ?_) (some 91) #[true, true, true, true, true, true, true, true, true, true, true, true, true, true, true, true, false, false, false, false, false, false, false, false, false, false, false, false, false, false, false, false, false, false, false, false, false, false] rfl rfl rfl (by kernel_rfl) (by kernel_rfl) (by kernel_rfl) (fun _ _ _ h => h) (Or.inl ⟨by rfl, ?_⟩) hHeld ?_
          rotate_left
          · intro w hSw; obtain ⟨_, _, s3, s4, s5⟩ := hSw; go_simp; with_reducible rfl
          rotate_left
          simp only [Act.put, List.setIfInBounds_toArray, List.set_cons_zero, List.set_cons_succ]
          refine takeH (i := 16) (v := ?_) (some 92) #[true, true, true, true, true, true, true, true, true, true, true, true, true, true, true, true, true, false, false, false, false, false, false, false, false, false, false, false, false, false, false, false, false, false, false, false, false, false] rfl rfl rfl (by kernel_rfl) (by kernel_rfl) (by kernel_rfl) (fun _ _ _ h => h) (Or.inl ⟨by rfl, ?_⟩) hHeld ?_
          rotate_left
          · intro w hSw; obtain ⟨_, _, s3, s4, s5⟩ := hSw; go_simp; with_reducible rfl
          rotate_left
          simp only [Act.put, List.setIfInBounds_toArray, List.set_cons_zero, List.set_cons_succ]
          refine takeH (i := 17) (v := ?_) (some 93) #[true, true, true, true, true, true, true, true, true, true, true, true, true, true, true, true, true, true, false, false, false, false, false, false, false, false, false, false, false, false, false, false, false, false, false, false, false, false] rfl rfl rfl (by kernel_rfl) (by kernel_rfl) (by kernel_rfl) (fun _ _ _ h => h) (Or.inl ⟨by rfl, ?_⟩) hHeld ?_
          rotate_left
          · intro w hSw; obtain ⟨_, _, s3, s4, s5⟩ := hSw; go_simp; with_reducible rfl
          rotate_left
          simp only [Act.put, List.setIfInBounds_toArray, List.set_cons_zero, List.set_cons_succ]
          refine takeH (i := 18) (v := ?_) (some 94) #[true, true, true, true, true, true, true, true, true, true, true, true, true, true, true, true, true, true, true, false, false, false, false, false, false, false, false, false, false, false, false, false, false, false, false, false, false, false] rfl rfl rfl (by kernel_rfl) (by kernel_rfl) (by kernel_rfl) (fun _ _ _ h => h) (Or.inl ⟨by rfl, ?_⟩) hHeld ?_
          rotate_left
          · intro w hSw; obtain ⟨_, _, s3, s4, s5⟩ := hSw; go_simp; with_reducible rfl
          rotate_left
          simp only [Act.put, List.setIfInBounds_toArray, List.set_cons_zero, List.set_cons_succ]
          refine takeH (i := 19) (v := ?_) (some 95) #[true, true, true, true, true, true, true, true, true, true, true, true, true, true, true, true, true, true, true, true, false, false, false, false, false, false, false, false, false, false, false, false, false, false, false, false, false, false] rfl rfl rfl (by kernel_rfl) (by kernel_rfl) (by kernel_rfl) (fun _ _ _ h => h) (Or.inl ⟨by rfl, ?_⟩) hHeld ?_
          rotate_left
          · intro w hSw; obtain ⟨_, _, s3, s4, s5⟩ := hSw; go_simp; with_reducible rfl
          rotate_left
          simp only [Act.put, List.setIfInBounds_toArray, List.set_cons_zero, List.set_cons_succ]
          refine takeH (i := 20) (v := ?_) (some 96) #[true, true, true, true, true, true, true, true, true, true, true, true, true, true, true, true, true, true, true, true, true, false, false, false, false, false, false, false, false, false, false, false, false, false, false, false, false, false] rfl rfl rfl (by kernel_rfl) (by kernel_rfl) (by kernel_rfl) (fun _ _ _ h => h) (Or.inl ⟨by rfl, ?_⟩) hHeld ?_
          rotate_left
          · intro w hSw; obtain ⟨_, _, s3, s4, s5⟩ := hSw; go_simp; with_reducible rfl
          rotate_left
          simp only [Act.put, List.setIfInBounds_toArray, List.set_cons_zero, List.set_cons_succ]
          refine takeH (i := 21) (v := ?_) (some 97) #[true, true, true, true, true, true, true, true, true, true, true, true, true, true, true, true, true, true, true, true, true, true, false, false, false, false, false, false, false, false, false, false, false, false, false, false, false, false] rfl rfl rfl (by kernel_rfl) (by kernel_rfl) (by kernel_rfl) (fun _ _ _ h => h) (Or.inl ⟨by rfl, ?_⟩) hHeld ?_
          rotate_left
          · intro w hSw; obtain ⟨_, _, s3, s4, s5⟩ := hSw; go_simp; with_reducible rfl
          rotate_left
          simp only [Act.put, List.setIfInBounds_toArray, List.set_cons_zero, List.set_cons_succ]
          refine takeH (i := 22) (v := ?_) (some 98) #[true, true, true, true, true, true, true, true, true, true, true, true, true, true, true, true, true, true, true, true, true, true, true, false, false, false, false, false, false, false, false, false, false, false, false, false, false, false] rfl rfl rfl (by kernel_rfl) (by kernel_rfl) (by kernel_rfl) (fun _ _ _ h => h) (Or.inl ⟨by rfl, ?_⟩) hHeld ?_
          rotate_left
          · intro w hSw; obtain ⟨_, _, s3, s4, s5⟩ := hSw; go_simp; with_reducible rfl
          rotate_left
          simp only [Act.put, List.setIfInBounds_toArray, List.set_cons_zero, List.set_cons_succ]
          refine takeH (i := 23) (v := ?_) (some 99) #[true, true, true, true, true, true, true, true, true, true, true, true, true, true, true, true, true, true, true, true, true, true, true, true, false, false, false, false, false, false, false, false, false, false, false, false, false, false] rfl rfl rfl (by kernel_rfl) (by kernel_rfl) (by kernel_rfl) (fun _ _ _ h => h) (Or.inl ⟨by rfl, ?_⟩) hHeld ?_
          rotate_left
          · intro w hSw; obtain ⟨_, _, s3, s4, s5⟩ := hSw; go_simp; with_reducible rfl
          rotate_left
          simp only [Act.put, List.setIfInBounds_toArray, List.set_cons_zero, List.set_cons_succ]
          refine takeH (i := 24) (v := ?_) (some 100) #[true, true, true, true, true, true, true, true, true, true, true, true, true, true, true, true, true, true, true, true, true, true, true, true, true, false, false, false, false, false, false, false, false, false, false, false, false, false] rfl rfl rfl (by kernel_rfl) (by kernel_rfl) (by kernel_rfl) (fun _ _ _ h => h) (Or.inl ⟨by rfl, ?_⟩) hHeld ?_
          rotate_left
          · intro w hSw; obtain ⟨_, _, s3, s4, s5⟩ := hSw; go_simp; with_reducible rfl
          rotate_left
          simp only [Act.put, List.setIfInBounds_toArray, List.set_cons_zero, List.set_cons_succ]
          refine takeH (i := 25) (v := ?_) (some 101) #[true, true, true, true, true, true, true, true, true, true, true, true, true, true, true, true, true, true, true, true, true, true, true, true, true, true, false, false, false, false, false, false, false, false, false, false, false, false] rfl rfl rfl (by kernel_rfl) (by kernel_rfl) (by kernel_rfl) (fun _ _ _ h => h) (Or.inl ⟨by rfl, ?_⟩) hHeld ?_
          rotate_left
          · intro w hSw; obtain ⟨_, _, s3, s4, s5⟩ := hSw; go_simp; with_reducible rfl
          rotate_left
          simp only [Act.put, List.setIfInBounds_toArray, List.set_cons_zero, List.set_cons_succ]
          refine takeH (i := 26) (v := ?_) (some 102) #[true, true, true, true, true, true, true, true, true, true, true, true, true, true, true, true, true, true, true, true, true, true, true, true, true, true, true, false, false, false, false, false, false, false, false, false, false, false] rfl rfl rfl (by kernel_rfl) (by kernel_rfl) (by kernel_rfl) (fun _ _ _ h => h) (Or.inl ⟨by rfl, ?_⟩) hHeld ?_
          rotate_left
          · intro w hSw; obtain ⟨_, _, s3, s4, s5⟩ := hSw; go_simp; with_reducible rfl
          rotate_left
          simp only [Act.put, List.setIfInBounds_toArray, List.set_cons_zero, List.set_cons_succ]
          refine takeH (i := 27) (v := ?_) (some 103) #[true, true, true, true, true, true, true, true, true, true, true, true, true, true, true, true, true, true, true, true, true, true, true, true, true, true, true, true, false, false, false, false, false, false, false, false, false, false] rfl rfl rfl (by kernel_rfl) (by kernel_rfl) (by kernel_rfl) (fun _ _ _ h => h) (Or.inl ⟨by rfl, ?_⟩) hHeld ?_
          rotate_left
          · intro w hSw; obtain ⟨_, _, s3, s4, s5⟩ := hSw; go_simp; with_reducible rfl
          rotate_left
          simp only [Act.put, List.setIfInBounds_toArray, List.set_cons_zero, List.set_cons_succ]
          refine takeH (i := 28) (v := ?_) (some 104) #[true, true, true, true, true, true, true, true, true, true, true, true, true, true, true, true, true, true, true, true, true, true, true, true, true, true, true, true, true, false, false, false, false, false, false, false, false, false] rfl rfl rfl (by kernel_rfl) (by kernel_rfl) (by kernel_rfl) (fun _ _ _ h => h) (Or.inl ⟨by rfl, ?_⟩) hHeld ?_
          rotate_left
          · intro w hSw; obtain ⟨_, _, s3, s4, s5⟩ := hSw; go_simp; with_reducible rfl
          rotate_left
          simp only [Act.put, List.setIfInBounds_toArray, List.set_cons_zero, List.set_cons_succ]
          refine takeH (i := 29) (v := ?_) (some 105) #[true, true, true, true, true, true, true, true, true, true, true, true, true, true, true, true, true, true, true, true, true, true, true, true, true, true, true, true, true, true, false, false, false, false, false, false, false, false] rfl rfl rfl (by kernel_rfl) (by kernel_rfl) (by kernel_rfl) (fun _ _ _ h => h) (Or.inl ⟨by rfl, ?_⟩) hHeld ?_
          rotate_left
          · intro w hSw; obtain ⟨_, _, s3, s4, s5⟩ := hSw; go_simp; with_reducible rfl
          rotate_left
          simp only [Act.put, List.setIfInBounds_toArray, List.set_cons_zero, List.set_cons_succ]
          refine takeH (i := 30) (v := ?_) (some 106) #[true, true, true, true, true, true, true, true, true, true, true, true, true, true, true, true, true, true, true, true, true, true, true, true, true, true, true, true, true, true, true, false, false, false, false, false, false, false] rfl rfl rfl (by kernel_rfl) (by kernel_rfl) (by kernel_rfl) (fun _ _ _ h => h) (Or.inl ⟨by rfl, ?_⟩) hHeld ?_
          rotate_left
          · intro w hSw; obtain ⟨_, _, s3, s4, s5⟩ := hSw; go_simp; with_reducible rfl
          rotate_left
          simp only [Act.put, List.setIfInBounds_toArray, List.set_cons_zero, List.set_cons_succ]
          refine takeH (i := 31) (v := ?_) (some 107) #[true, true, true, true, true, true, true, true, true, true, true, true, true, true, true, true, true, true, true, true, true, true, true, true, true, true, true, true, true, true, true, true, false, false, false, false, false, false] rfl rfl rfl (by kernel_rfl) (by kernel_rfl) (by kernel_rfl) (fun _ _ _ h => h) (Or.inl ⟨by rfl, ?_⟩) hHeld ?_
          rotate_left
          · intro w hSw; obtain ⟨_, _, s3, s4, s5⟩ := hSw; go_simp; with_reducible rfl
          rotate_left
          simp only [Act.put, List.setIfInBounds_toArray, List.set_cons_zero, List.set_cons_succ]
          refine takeH (i := 32) (v := ?_) (some 108) #[true, true, true, true, true, true, true, true, true, true, true, true, true, true, true, true, true, true, true, true, true, true, true, true, true, true, true, true, true, true, true, true, true, false, false, false, false, false] rfl rfl rfl (by kernel_rfl) (by kernel_rfl) (by kernel_rfl) (fun _ _ _ h => h) (Or.inl ⟨by rfl, ?_⟩) hHeld ?_
          rotate_left
          · intro w hSw; obtain ⟨_, _, s3, s4, s5⟩ := hSw; go_simp; with_reducible rfl
          rotate_left
          simp only [Act.put, List.setIfInBounds_toArray, List.set_cons_zero, List.set_cons_succ]
          refine takeH (i := 33) (v := ?_) (some 109) #[true, true, true, true, true, true, true, true, true, true, true, true, true, true, true, true, true, true, true, true, true, true, true, true, true, true, true, true, true, true, true, true, true, true, false, false, false, false] rfl rfl rfl (by kernel_rfl) (by kernel_rfl) (by kernel_rfl) (fun _ _ _ h => h) (Or.inl ⟨by rfl, ?_⟩) hHeld ?_
          rotate_left
          · intro w hSw; obtain ⟨_, _, s3, s4, s5⟩ := hSw; go_simp; with_reducible rfl
          rotate_left
          simp only [Act.put, List.setIfInBounds_toArray, List.set_cons_zero, List.set_cons_succ]
          refine takeH (i := 34) (v := ?_) (some 110) #[true, true, true, true, true, true, true, true, true, true, true, true, true, true, true, true, true, true, true, true, true, true, true, true, true, true, true, true, true, true, true, true, true, true, true, false, false, false] rfl rfl rfl (by kernel_rfl) (by kernel_rfl) (by kernel_rfl) (fun _ _ _ h => h) (Or.inl ⟨by rfl, ?_⟩) hHeld ?_
          rotate_left
          · intro w hSw; obtain ⟨_, _, s3, s4, s5⟩ := hSw; go_simp; with_reducible rfl
          rotate_left
          simp only [Act.put, List.setIfInBounds_toArray, List.set_cons_zero, List.set_cons_succ]
          refine takeH (i := 35) (v := ?_) (some 111) #[true, true, true, true, true, true, true, true, true, true, true, true, true, true, true, true, true, true, true, true, true, true, true, true, true, true, true, true, true, true, true, true, true, true, true, true, false, false] rfl rfl rfl (by kernel_rfl) (by kernel_rfl) (by kernel_rfl) (fun _ _ _ h => h) (Or.inl ⟨by rfl, ?_⟩) hHeld ?_
          rotate_left
          · intro w hSw; obtain ⟨_, _, s3, s4, s5⟩ := hSw; go_simp; with_reducible rfl
          rotate_left
          simp only [Act.put, List.setIfInBounds_toArray, List.set_cons_zero, List.set_cons_succ]
          refine takeH (i := 36) (v := ?_) (some 112) #[true, true, true, true, true, true, true, true, true, true, true, true, true, true, true, true, true, true, true, true, true, true, true, true, true, true, true, true, true, true, true, true, true, true, true, true, true, false] rfl rfl rfl (by kernel_rfl) (by kernel_rfl) (by kernel_rfl) (fun _ _ _ h => h) (Or.inl ⟨by rfl, ?_⟩) hHeld ?_
          rotate_left
          · intro w hSw; obtain ⟨_, _, s3, s4, s5⟩ := hSw; go_simp; with_reducible rfl
          rotate_left
          simp only [Act.put, List.setIfInBounds_toArray, List.set_cons_zero, List.set_cons_succ]
          refine takeH (i := 37) (v := ?_) (some 113) #[true, true, true, true, true, true, true, true, true, true, true, true, true, true, true, true, true, true, true, true, true, true, true, true, true, true, true, true, true, true, true, true, true, true, true, true, true, true] rfl rfl rfl (by kernel_rfl) (by kernel_rfl) (by kernel_rfl) (fun _ _ _ h => h) (Or.inl ⟨by rfl, ?_⟩) hHeld ?_
          rotate_left
          · intro w hSw; obtain ⟨_, _, s3, s4, s5⟩ := hSw; go_simp; with_reducible rfl
          rotate_left
          simp only [Act.put, List.setIfInBounds_toArray, List.set_cons_zero, List.set_cons_succ]
          refine wpAnyH_done (by kernel_rfl) ?_ _
          obtain ⟨_, _, _, _, c5⟩ := HSK.out _ HFz.out
          clear hHeld
          have x1w : IntKind.i64.wrap ((k : Int) + 1) = (k : Int) + 1 := by simp [IntKind.wrap, IntKind.bits, IntKind.signed]; omega
          go_wp2
          go_roundw
          case rel => exact ⟨k + 1, E, rfl, rfl, by omega, ⟨HC2.out.symm⟩, HFz⟩
          case measure => simp [intOf]; omega
        · have d1 : decide ((k : Int) < (its.length : Int)) = false := by simp; omega
          go_wp2
          go_ret
          exact ⟨rfl, HF2.out.trans HFr.out (fun _ _ q => q)⟩

theorem splits_any (w : World) (v : Value) (rs : List Rec) (hn : rs.length ≤ 9223372036854775807) (H : isRs w v rs) (s : ByteArray) : Calls Try.prog 6 #[v, .string s] w fun e w' => e = .returned (.bool true) ∧ Fr (fun _ => False) w w' := by
  cases hf : fewGo rs 0 0 with
  | false => exact splits_few w v rs hn H s hf
  | true =>
    by_cases hl : 30000 < s.size
    · exact splits_long w v rs hn H s hf hl
    have hss : s = ⟨s.data.toList.toArray⟩ := by rw [Array.toArray_toList]
    have hsl := ba_size s
    generalize s.data.toList = l at *
    rw [hss]
    exact splits_ok w v rs H l hf (by omega)

end Go.Proofs.Ytodhkdmkkjhnnaa
