/- The walk of silolaw17.BoxReads at a place in the file. Printed by gen_reads.py ok. -/
import Derived.Test.YtodhkdmkkjhnnaaReadsB
set_option linter.unusedVariables false
set_option linter.unusedSimpArgs false
namespace Go.Proofs.Ytodhkdmkkjhnnaa
open Go.RowKit

set_option maxHeartbeats 12800000 in
set_option maxRecDepth 100000 in
theorem reads_ok (w : World) (r : Rec) (hr : r.Ok) (S P : List UInt8) (a k : Nat) (at_ y : Int) (pf : Nat) (hb : ¬ 30000 < r.body.length) (hs : ¬ 30000 < S.length) (hP : P.length ≤ 20000) (HPK : PK r P pf) (hak : a + k ≤ P.length + S.length) (q : Rec) (hq : q.Ok) (e0 : Nat) (HOA : OA (((P ++ S).drop a).take k) q e0) (HOB : OB (((P ++ S).drop a).take k) q e0) (HTL : Tail P at_ y) : RdCall w r ⟨S.toArray⟩ 1 (a : Nat) (k : Nat) at_ y := by
  unfold RdCall
  have HI : Aside (isRec 25 ((w.alloc (.cells (recL r).toArray 25)).alloc (.cells #[.int .i64 1, .int .i64 (a : Nat), .int .i64 (k : Nat)] 78)) w.heap.size r) := ⟨(isRec.new 25 w r hr).keep ((Fr.refl (fun _ => False) _).alloc _) id⟩
  have HG : Aside (((w.alloc (.cells (recL r).toArray 25)).alloc (.cells #[.int .i64 1, .int .i64 (a : Nat), .int .i64 (k : Nat)] 78)).heap[w.heap.size + 1]? = some (.cells #[.int .i64 1, .int .i64 (a : Nat), .int .i64 (k : Nat)] 78 (0, 0))) := ⟨by
    have q := heap_new (w.alloc (.cells (recL r).toArray 25)) (.cells #[.int .i64 1, .int .i64 (a : Nat), .int .i64 (k : Nat)] 78)
    rw [World.size_alloc] at q; exact q⟩
  have HF0 : Aside (Fr (fun _ => False) w ((w.alloc (.cells (recL r).toArray 25)).alloc (.cells #[.int .i64 1, .int .i64 (a : Nat), .int .i64 (k : Nat)] 78))) := ⟨((Fr.refl _ w).alloc _).alloc _⟩
  have h64 := recL_patch hr
  have h65 := recL_body hr
  have HA := Aside.mk (fun W => awake_any W)
  have hbs : (ByteArray.mk r.body.toArray).size = r.body.length := by simp [ByteArray.size]
  have hss : (ByteArray.mk S.toArray).size = S.length := by simp [ByteArray.size]
  have hps : (ByteArray.mk P.toArray).size = P.length := by simp [ByteArray.size]
  have q1 : decide ((30000 : Int) < (r.body.length : Int)) = false := by simp; omega
  have q2 : decide ((30000 : Int) < (S.length : Int)) = false := by simp; omega
  have hcat : ByteArray.mk P.toArray ++ ⟨S.toArray⟩ = ⟨(P ++ S).toArray⟩ := by rw [ByteArray.mk_append_mk]
  have hs0 : S.length ≤ 30000 := by omega
  have HDN := Aside.mk (fun W => dnew_any W 2000 0 (by omega) (by omega))
  have HT := Aside.mk HTL
  have HPKV := Aside.mk HPK
  unfold PK at HPKV
  unfold recV at *
  generalize hL : recL r = L at *
  have HV : Aside (recV r = .agg L.toArray) := ⟨by rw [recV, hL]⟩
  generalize r.body.length = nb at *
  clear hL hb hs HPK HTL
  go_enter Try.func8, Try.ntmps8
  go_wp2_with fail
  refine (HA.out _).mono ?_
  rintro e w1 ⟨rfl, hf⟩
  have HF1 := Aside.mk (HF0.out.trans hf (fun _ _ q => q))
  have HI1 := Aside.mk (HI.out.keep hf id)
  have HG1 := Aside.mk (hf.heap HG.out id)
  clear hf HI HG
  have hbd := HI1.out.body
  go_wp2_with ((with_reducible refine gate (.load 25 (.tmp 5)) rfl ?_); refine ld_all recT_ref (by simp [Region.wanted]) (.tmp 5) rfl w.heap.size r rfl HI1.out ?_; rw [HV.out])
  refine (HPKV.out _).mono ?_
  rintro e w2 ⟨rfl, hf⟩
  have HF2 := Aside.mk (HF1.out.trans hf (fun _ _ q => q))
  have HG2 := Aside.mk (hf.heap HG1.out id)
  clear hf HI1 HG1 hbd HPKV
  go_wp2_with fail
  refine (HDN.out _).mono ?_
  rintro e w3 ⟨rfl, hD, hM, hf⟩
  have HF3 := Aside.mk (HF2.out.trans hf (fun _ _ q => q))
  have HG3 := Aside.mk (hf.heap HG2.out id)
  have hs2 := HF2.out.size
  have hg2 := lt_of_heap HG2.out
  have HMK := Aside.mk (make_ok w3 (w2.heap.size + 1) w2.heap.size 2000 0 0 0 0 0 1 (by omega) (by omega) (by omega) (by omega) hD hM)
  have hlm := lt_of_heap hD
  clear hD hM hf HDN HG2
  generalize hg : w2.heap.size + 1 = g at *
  generalize hm : w2.heap.size = m at *
  go_wp2_with fail
  refine HMK.out.mono ?_
  rintro e w4 ⟨rfl, hD, hM, hfl, hf⟩
  have HF4 := Aside.mk (HF3.out.trans hf (fun b hb q => by omega))
  have HG4 := Aside.mk (hf.heap HG3.out (fun q => by omega))
  have hs4 := hf.size
  have has : (ByteArray.mk (P ++ S).toArray).size = P.length + S.length := by simp [ByteArray.size]
  have hAD := dadd_ok w4 g m w3.heap.size 2000 0 (0 + 1) 0 0 (0 + 1) 1 (-1) (.slice none 0 0) [] ⟨(P ++ S).toArray⟩ (by rw [has]; simp; omega) (by omega) (by omega) (by omega) (by rw [has]; simp [blk]; omega) hD ⟨hfl, OwnB.nil _⟩ (by omega) (fun k hk => by simp [own, Value.ownBlock] at hk) (lk_yes w4 m 1 0 1 _ hM)
  rw [has] at hAD
  have HAD := Aside.mk hAD
  have HM4 := Aside.mk hM
  have hown : ∀ b, ¬ own (.slice none 0 0) b := fun b q => by simp [own, Value.ownBlock] at q
  have HOWN := Aside.mk hown
  clear hD hM hfl hf hAD hown
  go_wp2_with fail
  refine HAD.out.mono ?_
  rintro e w5 ⟨rfl, v, hD, hI, hv, hf⟩
  simp only [List.nil_append] at hI
  have HF5 := Aside.mk (HF4.out.trans hf (fun b hb q => by
    rcases q with q | q | q
    · omega
    · omega
    · exact HOWN.out _ q))
  have HG5 := Aside.mk (hf.heap HG4.out (fun q => by
    rcases q with q | q | q
    · omega
    · omega
    · exact HOWN.out _ q))
  have HM5 := Aside.mk (hf.heap HM4.out (fun q => by
    rcases q with q | q | q
    · omega
    · omega
    · exact HOWN.out _ q))
  have HD5 := Aside.mk hD
  have HI5 := Aside.mk hI
  have hfa : Fr (fun _ => False) w5 ((w5.alloc (.cells #[.int .i64 1, .int .i64 (a : Nat), .int .i64 (k : Nat)] 78)).alloc (.cells recLit 30)) := ((Fr.refl _ _).alloc _).alloc _
  have hDa := hfa.heap hD id
  have hMa := hfa.heap HM5.out id
  have hIa := HI5.out.keep hfa id (fun _ _ => id)
  have HBR := Aside.mk (bread_ok w5 g 1 a k (((P ++ S).drop a).take k) q hq e0 (dread_ok _ g m w3.heap.size a k 1 (-1) 0 v (P ++ S) (by rw [List.length_append]; omega) (by rw [List.length_append]; omega) (isD.c0 hDa) (isD.c8 hDa) hIa (lk_yes _ m 1 0 1 _ hMa)) HOA)
  clear hD hI hv hf hfa hDa hMa hIa hg hm
  have p0 : w5.cell? ⟨w.heap.size + 1, 0, none⟩ = some (.int .i64 1) := heap_cell HG5.out 0
  have p1 : w5.cell? ⟨w.heap.size + 1, 1, none⟩ = some (.int .i64 (a : Nat)) := heap_cell HG5.out 1
  have p2 : w5.cell? ⟨w.heap.size + 1, 2, none⟩ = some (.int .i64 (k : Nat)) := heap_cell HG5.out 2
  go_wp2_with fail
  refine HBR.out.mono ?_
  rintro e w6 ⟨rfl, hf⟩
  have HF6 := Aside.mk (HF5.out.trans hf (fun _ _ q => q))
  have HG6 := Aside.mk (hf.heap HG5.out id)
  have HX6 := Aside.mk (isRec.fresh 30 w6 (.cells recLit 30) rfl)
  have HA6 := Aside.mk (HF6.out.alloc (.cells recLit 30))
  have HGa := Aside.mk (((Fr.refl (fun _ => False) w6).alloc (.cells recLit 30)).heap HG6.out id)
  have hs6 := HF6.out.size
  have hg6 := lt_of_heap HG6.out
  clear hf p0 p1 p2 HBR
  go_wp2_with ((with_reducible refine gate (.store 30 (.tmp 16) (.tmp 62)) rfl ?_); refine st_all recT_box rfl rfl (.tmp 16) (.tmp 62) rfl w6.heap.size _ q (recV q) rfl rfl rfl hq HX6.out ?_)
  intro w7 hx hf
  have HX7 := Aside.mk hx
  have HF7 := Aside.mk (HA6.out.trans hf (fun b hb q => by have q2 : b = w6.heap.size := q; omega))
  have HG7 := Aside.mk (hf.heap HGa.out (by omega))
  have p0 : w7.cell? ⟨w.heap.size + 1, 0, none⟩ = some (.int .i64 1) := heap_cell HG7.out 0
  have p1 : w7.cell? ⟨w.heap.size + 1, 1, none⟩ = some (.int .i64 (a : Nat)) := heap_cell HG7.out 1
  have p2 : w7.cell? ⟨w.heap.size + 1, 2, none⟩ = some (.int .i64 (k : Nat)) := heap_cell HG7.out 2
  clear hx hf HG6 HGa HX6
  have has : (ByteArray.mk (P ++ S).toArray).size = P.length + S.length := by simp [ByteArray.size]
  have d1 : decide ((a : Int) < 0) = false := by simp
  have d2 : decide ((k : Int) < 0) = false := by simp
  have d3 : decide ((P.length : Int) + (S.length : Int) < (a : Int)) = false := by simp; omega
  have w4 : IntKind.i64.wrap ((P.length : Int) + (S.length : Int) - (a : Int)) = (P.length : Int) + (S.length : Int) - (a : Int) := by simp [IntKind.wrap, IntKind.bits, IntKind.signed]; omega
  have d4 : decide ((P.length : Int) + (S.length : Int) - (a : Int) < (k : Int)) = false := by simp; omega
  have y0 : (0 : Int) ≤ (a : Int) := by omega
  have y1 : (a : Int) ≤ (P.length : Int) + (S.length : Int) := by omega
  have y2 : (0 : Int) ≤ (k : Int) := by omega
  have y3 : (k : Int) ≤ ((P.length + S.length - a : Nat) : Int) := by omega
  have hx0 : (ByteArray.mk (P ++ S).toArray).extract a (P.length + S.length) = ⟨((P ++ S).drop a).toArray⟩ := by
    have q := ba_from (P ++ S) a
    rw [List.length_append] at q; exact q
  have z0 : (ByteArray.mk ((P ++ S).drop a).toArray).size = P.length + S.length - a := by simp [ByteArray.size]
  have hx1 : (ByteArray.mk ((P ++ S).drop a).toArray).extract 0 k = ⟨(((P ++ S).drop a).take k).toArray⟩ := ba_to _ _
  have HTH := Aside.mk (fun W => theirs_any W q hq)
  have HOBA := Aside.mk HOB
  unfold OB at HOBA
  unfold recV at HOBA HTH
  have hLq : ∃ Lq, Lq = recL q := ⟨_, rfl⟩
  obtain ⟨Lq, hLq⟩ := hLq
  have HVQ : Aside (recV q = .agg Lq.toArray) := ⟨by rw [recV, hLq]⟩
  rw [← hLq] at HOBA HTH
  have HCQ : Aside ((Value.agg Lq.toArray).cells = (recL q).toArray) := ⟨by rw [hLq]; rfl⟩
  have HLQ := Aside.mk hLq
  clear hLq HOA HOB
  have HFd := Aside.mk (HF7.out.drew)
  have HXd : Aside (isRec 30 w7.drew w6.heap.size q) := ⟨HX7.out⟩
  have HGd : Aside (w7.drew.heap[w.heap.size + 1]? = some (.cells #[.int .i64 1, .int .i64 (a : Nat), .int .i64 (k : Nat)] 78 (0, 0))) := ⟨HG7.out⟩
  go_wp2_with fail
  refine wp_region_held_drew (S := fun w' => w'.cell? ⟨w.heap.size + 1, 1, none⟩ = some (.int .i64 (a : Nat)) ∧ w'.cell? ⟨w.heap.size + 1, 2, none⟩ = some (.int .i64 (k : Nat))) (by kernel_rfl) ⟨heap_cell HGd.out 1, heap_cell HGd.out 2⟩ (fun hHeld => ?_)
  refine wpAnyH_take (i := 0) (v := ?_) rfl (by kernel_rfl) (by kernel_rfl) (by kernel_rfl) (fun _ _ _ h => h) (Or.inl ⟨by rfl, ?_⟩) hHeld ?_
  rotate_left
  · intro w hSw; obtain ⟨s1, s2⟩ := hSw; go_simp; with_reducible rfl
  rotate_left
  try simp only [Act.put, List.setIfInBounds_toArray, List.set_cons_zero, List.set_cons_succ]
  refine wpAnyH_take (i := 1) (v := ?_) rfl (by kernel_rfl) (by kernel_rfl) (by kernel_rfl) (fun _ _ _ h => h) (Or.inl ⟨by rfl, ?_⟩) hHeld ?_
  rotate_left
  · intro w hSw; obtain ⟨s1, s2⟩ := hSw; go_simp; with_reducible rfl
  rotate_left
  try simp only [Act.put, List.setIfInBounds_toArray, List.set_cons_zero, List.set_cons_succ]
  refine wpAnyH_take (i := 2) (v := ?_) rfl (by kernel_rfl) (by kernel_rfl) (by kernel_rfl) (fun _ _ _ h => h) (Or.inl ⟨by rfl, ?_⟩) hHeld ?_
  rotate_left
  · intro w hSw; obtain ⟨s1, s2⟩ := hSw; go_simp; with_reducible rfl
  rotate_left
  try simp only [Act.put, List.setIfInBounds_toArray, List.set_cons_zero, List.set_cons_succ]
  refine wpAnyH_take (i := 3) (v := ?_) rfl (by kernel_rfl) (by kernel_rfl) (by kernel_rfl) (fun _ _ _ h => h) (Or.inl ⟨by rfl, ?_⟩) hHeld ?_
  rotate_left
  · intro w hSw; obtain ⟨s1, s2⟩ := hSw; go_simp; with_reducible rfl
  rotate_left
  try simp only [Act.put, List.setIfInBounds_toArray, List.set_cons_zero, List.set_cons_succ]
  refine wpAnyH_take (i := 4) (v := ?_) rfl (by kernel_rfl) (by kernel_rfl) (by kernel_rfl) (fun _ _ _ h => h) (Or.inl ⟨by rfl, ?_⟩) hHeld ?_
  rotate_left
  · intro w hSw; obtain ⟨s1, s2⟩ := hSw; go_simp; with_reducible rfl
  rotate_left
  try simp only [Act.put, List.setIfInBounds_toArray, List.set_cons_zero, List.set_cons_succ]
  refine wpAnyH_take (i := 5) (v := ?_) rfl (by kernel_rfl) (by kernel_rfl) (by kernel_rfl) (fun _ _ _ h => h) (Or.inl ⟨by rfl, ?_⟩) hHeld ?_
  rotate_left
  · intro w hSw; obtain ⟨s1, s2⟩ := hSw; go_simp; with_reducible rfl
  rotate_left
  try simp only [Act.put, List.setIfInBounds_toArray, List.set_cons_zero, List.set_cons_succ]
  refine wpAnyH_take (i := 6) (v := ?_) rfl (by kernel_rfl) (by kernel_rfl) (by kernel_rfl) (fun _ _ _ h => h) (Or.inl ⟨by rfl, ?_⟩) hHeld ?_
  rotate_left
  · intro w hSw; obtain ⟨s1, s2⟩ := hSw; go_simp; with_reducible rfl
  rotate_left
  try simp only [Act.put, List.setIfInBounds_toArray, List.set_cons_zero, List.set_cons_succ]
  refine wpAnyH_ready (rs := [7, 11]) (by kernel_rfl) (by simp) ?_
  refine AllReadyH.cons rfl (fun K hK => ?_) (AllReadyH.cons rfl (fun K hK => ?_) AllReadyH.nil)
  · go_simp
    refine (HOBA.out _).mono ?_
    rintro e1 w8 ⟨rfl, hf⟩
    have HFw8 := Aside.mk (HFd.out.trans hf (fun _ _ q => q))
    have HXw8 := Aside.mk (HXd.out.keep hf id)
    have HGw8 := Aside.mk (hf.heap HGd.out id)
    clear hf
    go_wp2_with fail
    refine hK.out _ _ ⟨heap_cell HGw8.out 1, heap_cell HGw8.out 2⟩ (fun hHeld => ?_)
    clear hK K
    refine wpAnyH_take (i := 8) (v := ?_) rfl (by kernel_rfl) (by kernel_rfl) (by kernel_rfl) (fun _ _ _ h => h) (Or.inl ⟨by rfl, ?_⟩) hHeld ?_
    rotate_left
    · intro w hSw; obtain ⟨s1, s2⟩ := hSw; go_simp; with_reducible rfl
    rotate_left
    try simp only [Act.put, List.setIfInBounds_toArray, List.set_cons_zero, List.set_cons_succ]
    refine wpAnyH_take (i := 9) (v := ?_) rfl (by kernel_rfl) (by kernel_rfl) (by kernel_rfl) (fun _ _ _ h => h) (Or.inl ⟨by rfl, ?_⟩) hHeld ?_
    rotate_left
    · intro w hSw; obtain ⟨s1, s2⟩ := hSw; go_simp; with_reducible rfl
    rotate_left
    try simp only [Act.put, List.setIfInBounds_toArray, List.set_cons_zero, List.set_cons_succ]
    refine wpAnyH_take (i := 10) (v := ?_) rfl (by kernel_rfl) (by kernel_rfl) (by kernel_rfl) (fun _ _ _ h => h) (Or.inl ⟨by rfl, ?_⟩) hHeld ?_
    rotate_left
    · intro w hSw; obtain ⟨s1, s2⟩ := hSw; go_simp; with_reducible rfl
    rotate_left
    try simp only [Act.put, List.setIfInBounds_toArray, List.set_cons_zero, List.set_cons_succ]
    refine wpAnyH_ready (rs := [11]) (by kernel_rfl) (by simp) ?_
    refine AllReadyH.cons rfl (fun K hK => ?_) AllReadyH.nil
    go_simp
    have hfa : Fr (fun _ => False) w8 (w8.alloc (.cells Try.zeroCells25 25)) := ((Fr.refl _ _).alloc _)
    have HFw9 := Aside.mk (HFw8.out.trans hfa (fun _ _ q => q))
    have HXw9 := Aside.mk (HXw8.out.keep hfa id)
    have HGw9 := Aside.mk (hfa.heap HGw8.out id)
    have HZw9 : Aside (isRec 25 (w8.alloc (.cells Try.zeroCells25 25)) w8.heap.size Rec.zero) := ⟨isRec.fresh 25 w8 (.cells Try.zeroCells25 25) rfl⟩
    have hne : Aside (w6.heap.size < w8.heap.size ∧ w.heap.size + 1 < w8.heap.size ∧ w.heap.size ≤ w8.heap.size) := ⟨⟨lt_of_heap HXw8.out.1, lt_of_heap HGw8.out, HFw8.out.size⟩⟩
    refine hK.out _ _ ⟨heap_cell HGw9.out 1, heap_cell HGw9.out 2⟩ (fun hHeld => ?_)
    clear hK K hfa
    generalize (w8.alloc (.cells Try.zeroCells25 25)) = w9 at *
    generalize w8.heap.size = gz at *
    refine wpAnyH_ready (rs := [12]) (by kernel_rfl) (by simp) ?_
    refine AllReadyH.cons rfl (fun K hK => ?_) AllReadyH.nil
    rw [if_pos (by rfl)]
    refine st_op recT_ref rfl (.tmp 18) (.tmp 73) rfl gz Rec.zero q (.agg Lq.toArray) rfl rfl HCQ.out hq HZw9.out ?_
    intro w10 hx hf
    have HY10 := Aside.mk hx
    have HX10 := Aside.mk (HXw9.out.keep hf (fun q => by have := hne.out; omega))
    have HG10 := Aside.mk (hf.heap HGw9.out (fun q => by have := hne.out; omega))
    have HF10 := Aside.mk (HFw9.out.trans hf (fun b hb q => by have q2 : b = gz := q; have := hne.out; omega))
    refine hK.out _ _ ⟨heap_cell HG10.out 1, heap_cell HG10.out 2⟩ (fun hHeld => ?_)
    clear hK K hx hf
    refine wpAnyH_ready (rs := [13]) (by kernel_rfl) (by simp) ?_
    refine AllReadyH.cons rfl (fun K hK => ?_) AllReadyH.nil
    go_simp
    refine hK.out _ _ ⟨heap_cell HG10.out 1, heap_cell HG10.out 2⟩ (fun hHeld => ?_)
    clear hK K
    refine wpAnyH_done (by kernel_rfl) ?_ _
    have HXe : Aside (isRec 30 w10.drew w6.heap.size q) := ⟨HX10.out⟩
    have HYe : Aside (isRec 25 w10.drew gz q) := ⟨HY10.out⟩
    have HFe := Aside.mk (HF10.out.drew)
    clear hHeld
    go_wp2_with fail
    refine wp_region_held_drew (S := fun w' => isRec 30 w' w6.heap.size q ∧ isRec 25 w' gz q) (by kernel_rfl) ⟨HXe.out, HYe.out⟩ (fun hHeld => ?_)
    refine wpAnyH_take (i := 0) (v := .agg Lq.toArray) rfl (by kernel_rfl) (by kernel_rfl) (by kernel_rfl) (fun _ _ _ h => h) (yi_ld recT_box (by simp [Region.wanted, yielded]) (.tmp 16) rfl w6.heap.size q _ HVQ.out rfl (fun w h => h.1)) hHeld ?_
    simp only [Act.put, List.setIfInBounds_toArray, List.set_cons_zero, List.set_cons_succ]
    refine wpAnyH_take (i := 1) (v := .agg Lq.toArray) rfl (by kernel_rfl) (by kernel_rfl) (by kernel_rfl) (fun _ _ _ h => h) (yi_ld recT_ref (by simp [Region.wanted, yielded]) (.tmp 18) rfl gz q _ HVQ.out rfl (fun w h => h.2)) hHeld ?_
    simp only [Act.put, List.setIfInBounds_toArray, List.set_cons_zero, List.set_cons_succ]
    have HHd := Aside.mk hHeld
    clear hHeld
    refine wpAnyH_ready (rs := [2]) (by kernel_rfl) (by simp) ?_
    refine AllReadyH.cons rfl (fun K hK => ?_) AllReadyH.nil
    go_simp
    refine (HTH.out _).mono ?_
    rintro e1 wz ⟨rfl, hf⟩
    have HXz := Aside.mk (HXe.out.keep hf id)
    have HFz := Aside.mk (HFe.out.trans hf (fun _ _ q => q))
    have HHz : Aside (isRec 30 wz w6.heap.size q ∧ isRec 25 wz gz q) := ⟨⟨HXz.out, HYe.out.keep hf id⟩⟩
    clear hf
    go_wp2_with fail
    refine hK.out _ _ HHz.out (fun _ => ?_)
    clear hK K
    have hk1 : Lq.take 32 = q.key.map byt := by rw [HLQ.out]; simp [recL, hq.1]
    have hk2 : (Lq.drop 32).take 32 = q.base.map byt := by rw [HLQ.out]; simp [recL, hq.1, hq.2]
    have h64q : Lq[64]? = some (.bool q.patch) := by rw [HLQ.out]; exact recL_patch hq
    have h65q : Lq[65]? = some (.string ⟨q.body.toArray⟩) := by rw [HLQ.out]; exact recL_body hq
    have hE1 : ∀ W, (Op.equalIn 9999 23 (.agg (q.key.map byt).toArray) (.agg (q.key.map byt).toArray)).run Try.prog W = .ok true W := fun W => by rw [eq_bytes 9997 23 32 q.key q.key W Try.underlying23 hq.1 hq.1, decide_eq_true rfl]
    have hE2 : ∀ W, (Op.equalIn 9999 23 (.agg (q.base.map byt).toArray) (.agg (q.base.map byt).toArray)).run Try.prog W = .ok true W := fun W => by rw [eq_bytes 9997 23 32 q.base q.base W Try.underlying23 hq.2 hq.2, decide_eq_true rfl]
    refine wpAnyH_take (i := 3) (v := ?_) rfl (by kernel_rfl) (by kernel_rfl) (by kernel_rfl) (fun _ _ _ h => h) (Or.inl ⟨by rfl, ?_⟩) HHz.out ?_
    rotate_left
    · intro w hSw; clear hSw; go_simp; with_reducible rfl
    rotate_left
    try simp only [Act.put, List.setIfInBounds_toArray, List.set_cons_zero, List.set_cons_succ]
    refine wpAnyH_take (i := 4) (v := ?_) rfl (by kernel_rfl) (by kernel_rfl) (by kernel_rfl) (fun _ _ _ h => h) (Or.inl ⟨by rfl, ?_⟩) HHz.out ?_
    rotate_left
    · intro w hSw; clear hSw; go_simp; with_reducible rfl
    rotate_left
    try simp only [Act.put, List.setIfInBounds_toArray, List.set_cons_zero, List.set_cons_succ]
    refine wpAnyH_take (i := 5) (v := ?_) rfl (by kernel_rfl) (by kernel_rfl) (by kernel_rfl) (fun _ _ _ h => h) (Or.inl ⟨by rfl, ?_⟩) HHz.out ?_
    rotate_left
    · intro w hSw; clear hSw; go_simp; with_reducible rfl
    rotate_left
    try simp only [Act.put, List.setIfInBounds_toArray, List.set_cons_zero, List.set_cons_succ]
    refine wpAnyH_take (i := 6) (v := ?_) rfl (by kernel_rfl) (by kernel_rfl) (by kernel_rfl) (fun _ _ _ h => h) (Or.inl ⟨by rfl, ?_⟩) HHz.out ?_
    rotate_left
    · intro w hSw; clear hSw; go_simp; with_reducible rfl
    rotate_left
    try simp only [Act.put, List.setIfInBounds_toArray, List.set_cons_zero, List.set_cons_succ]
    refine wpAnyH_take (i := 7) (v := ?_) rfl (by kernel_rfl) (by kernel_rfl) (by kernel_rfl) (fun _ _ _ h => h) (Or.inl ⟨by rfl, ?_⟩) HHz.out ?_
    rotate_left
    · intro w hSw; clear hSw; go_simp; with_reducible rfl
    rotate_left
    try simp only [Act.put, List.setIfInBounds_toArray, List.set_cons_zero, List.set_cons_succ]
    refine wpAnyH_take (i := 8) (v := ?_) rfl (by kernel_rfl) (by kernel_rfl) (by kernel_rfl) (fun _ _ _ h => h) (Or.inl ⟨by rfl, ?_⟩) HHz.out ?_
    rotate_left
    · intro w hSw; clear hSw; go_simp; with_reducible rfl
    rotate_left
    try simp only [Act.put, List.setIfInBounds_toArray, List.set_cons_zero, List.set_cons_succ]
    refine wpAnyH_done (by kernel_rfl) ?_ _
    clear hk1 hk2 h64q h65q hE1 hE2 p0 p1 p2
    rcases HT.out with hT | ⟨hT, hy⟩ | ⟨i, c, d, hT, hy, hi, hc, hix, hxr, hO⟩
    · have hpz : ((P.length : Int) == 0) = true := by rw [hT]; rfl
      have hPe : P.isEmpty = true := by rw [hT]; rfl
      clear hT
      go_wp2_with (first
        | fail)
      go_ret
      exact ⟨rfl, HFz.out⟩
    · subst hy
      have hP0 : ¬ P.length = 0 := fun q => hT (List.eq_nil_of_length_eq_zero q)
      have hPe : P.isEmpty = false := by simpa using hT
      go_wp2_with (first
        | fail)
      go_ret
      exact ⟨rfl, HFz.out⟩
    · have hP0 : ¬ P.length = 0 := fun q => hT (List.eq_nil_of_length_eq_zero q)
      have hPe : P.isEmpty = false := by simpa using hT
      have hyb : (y == 0) = false := by simp [hy]
      have HTO := Aside.mk hO
      have HIX := Aside.mk hix
      have HXR := Aside.mk hxr
      have HPP := Aside.mk (And.intro hi hP)
      have hi1 : (i : Int) < (P.length : Int) := Int.ofNat_lt.2 hi
      unfold OA at HTO
      unfold recV at HTO
      clear hO hix hxr
      go_wp2_with (first
        | ((with_reducible refine gate (.convert 9 80 (.tmp 135)) rfl ?_); refine to_bytes rfl (.tmp 135) rfl P rfl ?_)
        | fail)
      intro c8 C8 w8 hC hCn hw hf
      have hci : C8[i]? = some (byt c) := by
        have q := congrArg (fun z => z[i]?) hC
        simp only [List.getElem?_take_of_lt hi, List.getElem?_map, hc, Option.map_some] at q
        rw [← q, Array.getElem?_toList]
      have hcl : w8.cell? ⟨wz.heap.size, i, none⟩ = some (.int .u8 (c.toNat : Int)) := (heap_cell hw i).trans hci
      have hfz : w8.frozen? ⟨wz.heap.size, i, none⟩ = false := by
        simp only [World.frozen?, hw]
        simp; omega
      have HCB := Aside.mk (fun W => cv_back i (Nat.lt_of_lt_of_le HPP.out.1 (Nat.le_trans HPP.out.2 (by decide))) W)
      have hul : IntKind.u64.wrap (P.length : Int) = (P.length : Int) := u64_small P.length (Nat.le_trans HPP.out.2 (by decide))
      have hi0 : (0 : Int) ≤ (i : Int) := Int.natCast_nonneg _
      have HF8 := Aside.mk (HFz.out.trans hf (fun _ _ q => q))
      have HCV : Aside ((convert 80 9 (.slice (some ⟨wz.heap.size, 0, none⟩) P.length c8)).run Try.prog (w8.setCell ⟨wz.heap.size, i, none⟩ (.int .u8 (d.toNat : Int))) = .ok (.string ⟨(P.set i d).toArray⟩) (w8.setCell ⟨wz.heap.size, i, none⟩ (.int .u8 (d.toNat : Int)))) := ⟨conv_at _ wz.heap.size 0 c8 5 _ _ (P.set i d) P.length List.length_set.symm (heap_set hw i (.int .u8 (d.toNat : Int))) (by
        rw [List.drop_zero, List.length_set, Array.toList_setIfInBounds, List.take_set, hC, List.map_set]; rfl)⟩
      have HF9 : Aside (Fr (fun _ => False) w (w8.setCell ⟨wz.heap.size, i, none⟩ (.int .u8 (d.toNat : Int)))) := ⟨HF8.out.setCell (fun q => absurd q (Nat.not_lt.2 HFz.out.size)) _⟩
      clear hw hC hf hCn hci hc hi
      go_wp2_with (first
        | ((with_reducible refine gate (.binOp .rem 81 (.tmp 139) (.tmp 142) 81) rfl ?_); refine rem_op rfl (.tmp 139) (.tmp 142) rfl _ P.length i rfl rfl hP0 HIX.out ?_)
        | ((with_reducible refine gate (.convert 81 3 (.tmp 143)) rfl ?_); refine cv_op rfl (.tmp 143) rfl _ _ rfl (HCB.out _) ?_)
        | ((with_reducible refine gate (.binOp .xor 5 (.tmp 146) (.tmp 147) 5) rfl ?_); refine xor_op rfl (.tmp 146) (.tmp 147) rfl c d y rfl rfl HXR.out ?_)
        | ((with_reducible refine gate (.convert 80 9 (.tmp 151)) rfl ?_); refine cv_op rfl (.tmp 151) rfl _ _ rfl HCV.out ?_))
      refine (HTO.out _).mono ?_
      rintro e w10 ⟨rfl, hf⟩
      have HF10 := Aside.mk (HF9.out.trans hf (fun _ _ q => q))
      have HZ10 := Aside.mk (isRec.fresh 30 w10 (.cells recLit 30) rfl)
      have HA10 := Aside.mk (HF10.out.alloc (.cells recLit 30))
      have hsz10 := Aside.mk HF10.out.size
      clear hf
      go_wp2_with ((with_reducible refine gate (.store 30 (.tmp 21) (.tmp 154)) rfl ?_); refine st_all recT_box rfl rfl (.tmp 21) (.tmp 154) rfl w10.heap.size _ Rec.zero (.agg (recL Rec.zero).toArray) rfl rfl rfl Rec.zero_ok HZ10.out ?_)
      intro w11 hx hf
      have HF11 := Aside.mk (HA10.out.trans hf (fun b hb q => by have q2 : b = w10.heap.size := q; have := hsz10.out; omega))
      clear hx hf
      go_wp2
      go_ret
      exact ⟨rfl, HF11.out⟩
  · go_simp
    have hfa : Fr (fun _ => False) w7 (w7.alloc (.cells Try.zeroCells25 25)).drew := ((Fr.refl _ _).alloc _).drew
    have HFw8 := Aside.mk (HF7.out.trans hfa (fun _ _ q => q))
    have HXw8 := Aside.mk (HX7.out.keep hfa id)
    have HGw8 := Aside.mk (hfa.heap HG7.out id)
    have HZw8 : Aside (isRec 25 (w7.alloc (.cells Try.zeroCells25 25)).drew w7.heap.size Rec.zero) := ⟨isRec.fresh 25 w7 (.cells Try.zeroCells25 25) rfl⟩
    have hne : Aside (w6.heap.size < w7.heap.size ∧ w.heap.size + 1 < w7.heap.size ∧ w.heap.size ≤ w7.heap.size) := ⟨⟨lt_of_heap HX7.out.1, lt_of_heap HG7.out, HF7.out.size⟩⟩
    refine hK.out _ _ ⟨heap_cell HGw8.out 1, heap_cell HGw8.out 2⟩ (fun hHeld => ?_)
    clear hK K hfa
    generalize (w7.alloc (.cells Try.zeroCells25 25)).drew = w8 at *
    generalize w7.heap.size = gz at *
    refine wpAnyH_ready (rs := [7]) (by kernel_rfl) (by simp) ?_
    refine AllReadyH.cons rfl (fun K hK => ?_) AllReadyH.nil
    go_simp
    refine (HOBA.out _).mono ?_
    rintro e1 w9 ⟨rfl, hf⟩
    have HFw9 := Aside.mk (HFw8.out.trans hf (fun _ _ q => q))
    have HXw9 := Aside.mk (HXw8.out.keep hf id)
    have HGw9 := Aside.mk (hf.heap HGw8.out id)
    have HZw9 := Aside.mk (HZw8.out.keep hf id)
    clear hf
    go_wp2_with fail
    refine hK.out _ _ ⟨heap_cell HGw9.out 1, heap_cell HGw9.out 2⟩ (fun hHeld => ?_)
    clear hK K
    refine wpAnyH_take (i := 8) (v := ?_) rfl (by kernel_rfl) (by kernel_rfl) (by kernel_rfl) (fun _ _ _ h => h) (Or.inl ⟨by rfl, ?_⟩) hHeld ?_
    rotate_left
    · intro w hSw; obtain ⟨s1, s2⟩ := hSw; go_simp; with_reducible rfl
    rotate_left
    try simp only [Act.put, List.setIfInBounds_toArray, List.set_cons_zero, List.set_cons_succ]
    refine wpAnyH_take (i := 9) (v := ?_) rfl (by kernel_rfl) (by kernel_rfl) (by kernel_rfl) (fun _ _ _ h => h) (Or.inl ⟨by rfl, ?_⟩) hHeld ?_
    rotate_left
    · intro w hSw; obtain ⟨s1, s2⟩ := hSw; go_simp; with_reducible rfl
    rotate_left
    try simp only [Act.put, List.setIfInBounds_toArray, List.set_cons_zero, List.set_cons_succ]
    refine wpAnyH_take (i := 10) (v := ?_) rfl (by kernel_rfl) (by kernel_rfl) (by kernel_rfl) (fun _ _ _ h => h) (Or.inl ⟨by rfl, ?_⟩) hHeld ?_
    rotate_left
    · intro w hSw; obtain ⟨s1, s2⟩ := hSw; go_simp; with_reducible rfl
    rotate_left
    try simp only [Act.put, List.setIfInBounds_toArray, List.set_cons_zero, List.set_cons_succ]
    refine wpAnyH_ready (rs := [12]) (by kernel_rfl) (by simp) ?_
    refine AllReadyH.cons rfl (fun K hK => ?_) AllReadyH.nil
    rw [if_pos (by rfl)]
    refine st_op recT_ref rfl (.tmp 18) (.tmp 73) rfl gz Rec.zero q (.agg Lq.toArray) rfl rfl HCQ.out hq HZw9.out ?_
    intro w10 hx hf
    have HY10 := Aside.mk hx
    have HX10 := Aside.mk (HXw9.out.keep hf (fun q => by have := hne.out; omega))
    have HG10 := Aside.mk (hf.heap HGw9.out (fun q => by have := hne.out; omega))
    have HF10 := Aside.mk (HFw9.out.trans hf (fun b hb q => by have q2 : b = gz := q; have := hne.out; omega))
    refine hK.out _ _ ⟨heap_cell HG10.out 1, heap_cell HG10.out 2⟩ (fun hHeld => ?_)
    clear hK K hx hf
    refine wpAnyH_ready (rs := [13]) (by kernel_rfl) (by simp) ?_
    refine AllReadyH.cons rfl (fun K hK => ?_) AllReadyH.nil
    go_simp
    refine hK.out _ _ ⟨heap_cell HG10.out 1, heap_cell HG10.out 2⟩ (fun hHeld => ?_)
    clear hK K
    refine wpAnyH_done (by kernel_rfl) ?_ _
    have HXe : Aside (isRec 30 w10.drew w6.heap.size q) := ⟨HX10.out⟩
    have HYe : Aside (isRec 25 w10.drew gz q) := ⟨HY10.out⟩
    have HFe := Aside.mk (HF10.out.drew)
    clear hHeld
    go_wp2_with fail
    refine wp_region_held_drew (S := fun w' => isRec 30 w' w6.heap.size q ∧ isRec 25 w' gz q) (by kernel_rfl) ⟨HXe.out, HYe.out⟩ (fun hHeld => ?_)
    refine wpAnyH_take (i := 0) (v := .agg Lq.toArray) rfl (by kernel_rfl) (by kernel_rfl) (by kernel_rfl) (fun _ _ _ h => h) (yi_ld recT_box (by simp [Region.wanted, yielded]) (.tmp 16) rfl w6.heap.size q _ HVQ.out rfl (fun w h => h.1)) hHeld ?_
    simp only [Act.put, List.setIfInBounds_toArray, List.set_cons_zero, List.set_cons_succ]
    refine wpAnyH_take (i := 1) (v := .agg Lq.toArray) rfl (by kernel_rfl) (by kernel_rfl) (by kernel_rfl) (fun _ _ _ h => h) (yi_ld recT_ref (by simp [Region.wanted, yielded]) (.tmp 18) rfl gz q _ HVQ.out rfl (fun w h => h.2)) hHeld ?_
    simp only [Act.put, List.setIfInBounds_toArray, List.set_cons_zero, List.set_cons_succ]
    have HHd := Aside.mk hHeld
    clear hHeld
    refine wpAnyH_ready (rs := [2]) (by kernel_rfl) (by simp) ?_
    refine AllReadyH.cons rfl (fun K hK => ?_) AllReadyH.nil
    go_simp
    refine (HTH.out _).mono ?_
    rintro e1 wz ⟨rfl, hf⟩
    have HXz := Aside.mk (HXe.out.keep hf id)
    have HFz := Aside.mk (HFe.out.trans hf (fun _ _ q => q))
    have HHz : Aside (isRec 30 wz w6.heap.size q ∧ isRec 25 wz gz q) := ⟨⟨HXz.out, HYe.out.keep hf id⟩⟩
    clear hf
    go_wp2_with fail
    refine hK.out _ _ HHz.out (fun _ => ?_)
    clear hK K
    have hk1 : Lq.take 32 = q.key.map byt := by rw [HLQ.out]; simp [recL, hq.1]
    have hk2 : (Lq.drop 32).take 32 = q.base.map byt := by rw [HLQ.out]; simp [recL, hq.1, hq.2]
    have h64q : Lq[64]? = some (.bool q.patch) := by rw [HLQ.out]; exact recL_patch hq
    have h65q : Lq[65]? = some (.string ⟨q.body.toArray⟩) := by rw [HLQ.out]; exact recL_body hq
    have hE1 : ∀ W, (Op.equalIn 9999 23 (.agg (q.key.map byt).toArray) (.agg (q.key.map byt).toArray)).run Try.prog W = .ok true W := fun W => by rw [eq_bytes 9997 23 32 q.key q.key W Try.underlying23 hq.1 hq.1, decide_eq_true rfl]
    have hE2 : ∀ W, (Op.equalIn 9999 23 (.agg (q.base.map byt).toArray) (.agg (q.base.map byt).toArray)).run Try.prog W = .ok true W := fun W => by rw [eq_bytes 9997 23 32 q.base q.base W Try.underlying23 hq.2 hq.2, decide_eq_true rfl]
    refine wpAnyH_take (i := 3) (v := ?_) rfl (by kernel_rfl) (by kernel_rfl) (by kernel_rfl) (fun _ _ _ h => h) (Or.inl ⟨by rfl, ?_⟩) HHz.out ?_
    rotate_left
    · intro w hSw; clear hSw; go_simp; with_reducible rfl
    rotate_left
    try simp only [Act.put, List.setIfInBounds_toArray, List.set_cons_zero, List.set_cons_succ]
    refine wpAnyH_take (i := 4) (v := ?_) rfl (by kernel_rfl) (by kernel_rfl) (by kernel_rfl) (fun _ _ _ h => h) (Or.inl ⟨by rfl, ?_⟩) HHz.out ?_
    rotate_left
    · intro w hSw; clear hSw; go_simp; with_reducible rfl
    rotate_left
    try simp only [Act.put, List.setIfInBounds_toArray, List.set_cons_zero, List.set_cons_succ]
    refine wpAnyH_take (i := 5) (v := ?_) rfl (by kernel_rfl) (by kernel_rfl) (by kernel_rfl) (fun _ _ _ h => h) (Or.inl ⟨by rfl, ?_⟩) HHz.out ?_
    rotate_left
    · intro w hSw; clear hSw; go_simp; with_reducible rfl
    rotate_left
    try simp only [Act.put, List.setIfInBounds_toArray, List.set_cons_zero, List.set_cons_succ]
    refine wpAnyH_take (i := 6) (v := ?_) rfl (by kernel_rfl) (by kernel_rfl) (by kernel_rfl) (fun _ _ _ h => h) (Or.inl ⟨by rfl, ?_⟩) HHz.out ?_
    rotate_left
    · intro w hSw; clear hSw; go_simp; with_reducible rfl
    rotate_left
    try simp only [Act.put, List.setIfInBounds_toArray, List.set_cons_zero, List.set_cons_succ]
    refine wpAnyH_take (i := 7) (v := ?_) rfl (by kernel_rfl) (by kernel_rfl) (by kernel_rfl) (fun _ _ _ h => h) (Or.inl ⟨by rfl, ?_⟩) HHz.out ?_
    rotate_left
    · intro w hSw; clear hSw; go_simp; with_reducible rfl
    rotate_left
    try simp only [Act.put, List.setIfInBounds_toArray, List.set_cons_zero, List.set_cons_succ]
    refine wpAnyH_take (i := 8) (v := ?_) rfl (by kernel_rfl) (by kernel_rfl) (by kernel_rfl) (fun _ _ _ h => h) (Or.inl ⟨by rfl, ?_⟩) HHz.out ?_
    rotate_left
    · intro w hSw; clear hSw; go_simp; with_reducible rfl
    rotate_left
    try simp only [Act.put, List.setIfInBounds_toArray, List.set_cons_zero, List.set_cons_succ]
    refine wpAnyH_done (by kernel_rfl) ?_ _
    clear hk1 hk2 h64q h65q hE1 hE2 p0 p1 p2
    rcases HT.out with hT | ⟨hT, hy⟩ | ⟨i, c, d, hT, hy, hi, hc, hix, hxr, hO⟩
    · have hpz : ((P.length : Int) == 0) = true := by rw [hT]; rfl
      have hPe : P.isEmpty = true := by rw [hT]; rfl
      clear hT
      go_wp2_with (first
        | fail)
      go_ret
      exact ⟨rfl, HFz.out⟩
    · subst hy
      have hP0 : ¬ P.length = 0 := fun q => hT (List.eq_nil_of_length_eq_zero q)
      have hPe : P.isEmpty = false := by simpa using hT
      go_wp2_with (first
        | fail)
      go_ret
      exact ⟨rfl, HFz.out⟩
    · have hP0 : ¬ P.length = 0 := fun q => hT (List.eq_nil_of_length_eq_zero q)
      have hPe : P.isEmpty = false := by simpa using hT
      have hyb : (y == 0) = false := by simp [hy]
      have HTO := Aside.mk hO
      have HIX := Aside.mk hix
      have HXR := Aside.mk hxr
      have HPP := Aside.mk (And.intro hi hP)
      have hi1 : (i : Int) < (P.length : Int) := Int.ofNat_lt.2 hi
      unfold OA at HTO
      unfold recV at HTO
      clear hO hix hxr
      go_wp2_with (first
        | ((with_reducible refine gate (.convert 9 80 (.tmp 135)) rfl ?_); refine to_bytes rfl (.tmp 135) rfl P rfl ?_)
        | fail)
      intro c8 C8 w8 hC hCn hw hf
      have hci : C8[i]? = some (byt c) := by
        have q := congrArg (fun z => z[i]?) hC
        simp only [List.getElem?_take_of_lt hi, List.getElem?_map, hc, Option.map_some] at q
        rw [← q, Array.getElem?_toList]
      have hcl : w8.cell? ⟨wz.heap.size, i, none⟩ = some (.int .u8 (c.toNat : Int)) := (heap_cell hw i).trans hci
      have hfz : w8.frozen? ⟨wz.heap.size, i, none⟩ = false := by
        simp only [World.frozen?, hw]
        simp; omega
      have HCB := Aside.mk (fun W => cv_back i (Nat.lt_of_lt_of_le HPP.out.1 (Nat.le_trans HPP.out.2 (by decide))) W)
      have hul : IntKind.u64.wrap (P.length : Int) = (P.length : Int) := u64_small P.length (Nat.le_trans HPP.out.2 (by decide))
      have hi0 : (0 : Int) ≤ (i : Int) := Int.natCast_nonneg _
      have HF8 := Aside.mk (HFz.out.trans hf (fun _ _ q => q))
      have HCV : Aside ((convert 80 9 (.slice (some ⟨wz.heap.size, 0, none⟩) P.length c8)).run Try.prog (w8.setCell ⟨wz.heap.size, i, none⟩ (.int .u8 (d.toNat : Int))) = .ok (.string ⟨(P.set i d).toArray⟩) (w8.setCell ⟨wz.heap.size, i, none⟩ (.int .u8 (d.toNat : Int)))) := ⟨conv_at _ wz.heap.size 0 c8 5 _ _ (P.set i d) P.length List.length_set.symm (heap_set hw i (.int .u8 (d.toNat : Int))) (by
        rw [List.drop_zero, List.length_set, Array.toList_setIfInBounds, List.take_set, hC, List.map_set]; rfl)⟩
      have HF9 : Aside (Fr (fun _ => False) w (w8.setCell ⟨wz.heap.size, i, none⟩ (.int .u8 (d.toNat : Int)))) := ⟨HF8.out.setCell (fun q => absurd q (Nat.not_lt.2 HFz.out.size)) _⟩
      clear hw hC hf hCn hci hc hi
      go_wp2_with (first
        | ((with_reducible refine gate (.binOp .rem 81 (.tmp 139) (.tmp 142) 81) rfl ?_); refine rem_op rfl (.tmp 139) (.tmp 142) rfl _ P.length i rfl rfl hP0 HIX.out ?_)
        | ((with_reducible refine gate (.convert 81 3 (.tmp 143)) rfl ?_); refine cv_op rfl (.tmp 143) rfl _ _ rfl (HCB.out _) ?_)
        | ((with_reducible refine gate (.binOp .xor 5 (.tmp 146) (.tmp 147) 5) rfl ?_); refine xor_op rfl (.tmp 146) (.tmp 147) rfl c d y rfl rfl HXR.out ?_)
        | ((with_reducible refine gate (.convert 80 9 (.tmp 151)) rfl ?_); refine cv_op rfl (.tmp 151) rfl _ _ rfl HCV.out ?_))
      refine (HTO.out _).mono ?_
      rintro e w10 ⟨rfl, hf⟩
      have HF10 := Aside.mk (HF9.out.trans hf (fun _ _ q => q))
      have HZ10 := Aside.mk (isRec.fresh 30 w10 (.cells recLit 30) rfl)
      have HA10 := Aside.mk (HF10.out.alloc (.cells recLit 30))
      have hsz10 := Aside.mk HF10.out.size
      clear hf
      go_wp2_with ((with_reducible refine gate (.store 30 (.tmp 21) (.tmp 154)) rfl ?_); refine st_all recT_box rfl rfl (.tmp 21) (.tmp 154) rfl w10.heap.size _ Rec.zero (.agg (recL Rec.zero).toArray) rfl rfl rfl Rec.zero_ok HZ10.out ?_)
      intro w11 hx hf
      have HF11 := Aside.mk (HA10.out.trans hf (fun b hb q => by have q2 : b = w10.heap.size := q; have := hsz10.out; omega))
      clear hx hf
      go_wp2
      go_ret
      exact ⟨rfl, HF11.out⟩

end Go.Proofs.Ytodhkdmkkjhnnaa
