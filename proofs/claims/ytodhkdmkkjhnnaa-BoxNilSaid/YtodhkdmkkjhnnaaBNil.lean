/- The walk of silolaw17.BoxNil. -/
import Derived.Test.YtodhkdmkkjhnnaaAwake17
import Derived.Test.YtodhkdmkkjhnnaaBoxD
set_option linter.unusedVariables false
set_option linter.unusedSimpArgs false
namespace Go.Proofs.Ytodhkdmkkjhnnaa
open Go.RowKit

set_option maxHeartbeats 3200000 in
set_option maxRecDepth 100000 in
theorem bnil_long (w : World) (n : Int) (s : ByteArray) (hl : 8192 < s.size) : Calls Try.prog 10 #[.int .i64 n, .string s] w fun e w' => e = .returned (.bool true) ∧ Fr (fun _ => False) w w' := by
  have HA := Aside.mk (fun W => awake_any W)
  have hl1 : decide ((8192:Int) < (s.size : Int)) = true := by simp; omega
  go_enter Try.func10, Try.ntmps10
  go_wp2_with fail
  refine (HA.out _).mono ?_
  rintro e w1 ⟨rfl, hf⟩
  have HF1 := Aside.mk hf
  clear hf
  go_wp2_with fail
  refine (HA.out _).mono ?_
  rintro e w2 ⟨rfl, hf⟩
  have HF2 := Aside.mk (HF1.out.trans hf (fun _ _ q => q))
  clear hf
  go_wp2
  go_ret
  exact ⟨rfl, HF2.out⟩

set_option maxHeartbeats 6400000 in
set_option maxRecDepth 100000 in
theorem bnil_short (w : World) (n : Int) (l : List UInt8) (hl : ¬ 8192 < l.length) (S : List UInt8) (hS : 0 < S.length) (hS2 : S.length ≤ 1000000000)
    (HP : ∀ W, Calls Try.prog 16 #[recV { Rec.zero with body := l }] W fun e w' => e = .returned (.tuple #[.string ⟨S.toArray⟩, .int .i64 0]) ∧ Fr (fun _ => False) W w') :
    Calls Try.prog 10 #[.int .i64 n, .string ⟨l.toArray⟩] w fun e w' => e = .returned (.bool true) ∧ Fr (fun _ => False) w w' := by
  have HA := Aside.mk (fun W => awake_any W)
  have hbs : (ByteArray.mk l.toArray).size = l.length := by simp [ByteArray.size]
  have hl1 : decide ((8192:Int) < (l.length : Int)) = false := by simp; omega
  have HB := Aside.mk (fun W => build_body recB_box l W)
  have hr : Aside (({ Rec.zero with body := l } : Rec).Ok) := ⟨⟨rfl, rfl⟩⟩
  generalize ({ Rec.zero with body := l } : Rec) = r at *
  have HAN := Aside.mk (fun W => badd_nil W r hr.out)
  have HAF := Aside.mk (fun (W : World) (b g m f h c uc root st : Nat) (n : Int) q1 q2 q3 q4 => badd_full W b g m f h c uc root st n r hr.out S hS hS2 HP q1 q2 q3 q4)
  have HBN := Aside.mk (fun W => bbegin_nil W 0 n)
  have HRN := Aside.mk (fun W => bread_nil W n)
  have HDN := Aside.mk (fun W => dnew_any W 1 0 (by omega) (by omega))
  have HFN := Aside.mk (fun W => bfile_nil W)
  have HSN := Aside.mk (fun W => bsize_nil W)
  have HYN := Aside.mk (fun W => bsync_nil W)
  clear HP hS hS2
  go_enter Try.func10, Try.ntmps10
  go_wp2_with fail
  refine (HA.out _).mono ?_
  rintro e w1 ⟨rfl, hf⟩
  have HF1 := Aside.mk hf
  clear hf
  go_wp2_with ((with_reducible refine gate (.build 30 _) rfl ?_); refine bld (by simp [Region.wanted]) _ _ rfl _ (recV r) (by simp only [List.map_toArray, List.map_cons, List.map_nil]; rfl) HB.out ?_)
  refine (HAN.out _).mono ?_
  rintro e w2 ⟨rfl, hf⟩
  have HF2 := Aside.mk (HF1.out.trans hf (fun _ _ q => q))
  have HA2 := Aside.mk (HF2.out.alloc (.cells #[.int .i64 0, .int .i64 0, .int .i64 0] 78))
  have HP2 : Aside ((w2.alloc (.cells #[.int .i64 0, .int .i64 0, .int .i64 0] 78)).heap[w2.heap.size]? = some (.cells PLc.toArray 78 (0, 0))) := ⟨heap_new _ _⟩
  have hs2 := Aside.mk HF2.out.size
  clear hf
  go_wp2_with ((with_reducible refine gate (.store 78 (.tmp 6) (.tmp 33)) rfl ?_); refine store_part rfl rfl 78 (.tmp 6) (.tmp 33) rfl w2.heap.size 0 PL rfl rfl 78 _ PLc HP2.out rfl info_place (by simp [PLc]) (by simp [PLc, Value.oneCell']) ?_)
  intro w3 hx hf
  have HX3 : Aside (w3.heap[w2.heap.size]? = some (.cells PLc.toArray 78 (0, 0))) := ⟨hx⟩
  have HF3 := Aside.mk (HA2.out.trans hf (fun b hb q => by have q2 : b = w2.heap.size := q; have := hs2.out; omega))
  clear hx hf
  go_wp2_with fail
  refine (HBN.out _).mono ?_
  rintro e w3' ⟨rfl, rfl⟩
  go_wp2_with fail
  refine (HRN.out _).mono ?_
  rintro e w4 ⟨rfl, hf⟩
  have HF4 := Aside.mk (HF3.out.trans hf (fun _ _ q => q))
  have HX4 := Aside.mk (hf.heap HX3.out id)
  have HR4 := Aside.mk (isRec.fresh 30 w4 (.cells recLit 30) rfl)
  have HA4 := Aside.mk (HF4.out.alloc (.cells recLit 30))
  have HY4 := Aside.mk (((Fr.refl (fun _ => False) w4).alloc (.cells recLit 30)).heap HX4.out id)
  have hs4 := Aside.mk HF4.out.size
  have hx4 := Aside.mk (lt_of_heap HX4.out)
  clear hf
  go_wp2_with ((with_reducible refine gate (.store 30 (.tmp 10) (.tmp 44)) rfl ?_); refine st_all recT_box rfl rfl (.tmp 10) (.tmp 44) rfl w4.heap.size _ Rec.zero (recV Rec.zero) rfl rfl rfl Rec.zero_ok HR4.out ?_)
  intro w5 hx hf
  have HF5 := Aside.mk (HA4.out.trans hf (fun b hb q => by have q2 : b = w4.heap.size := q; have := hs4.out; omega))
  have HX5 := Aside.mk (hf.heap HY4.out (by have := hx4.out; omega))
  clear hx hf
  go_wp2_with fail
  refine (HDN.out _).mono ?_
  rintro e w6 ⟨rfl, hD, hM, hf⟩
  have HF6 := Aside.mk (HF5.out.trans hf (fun _ _ q => q))
  have HX6 := Aside.mk (hf.heap HX5.out id)
  have hx6 := Aside.mk (lt_of_heap HX5.out)
  have hs6 := Aside.mk HF5.out.size
  have HMK := Aside.mk (bbegin_ok w6 (w5.heap.size + 1) 1 _ (make_ok w6 (w5.heap.size + 1) w5.heap.size 1 0 0 0 0 0 1 (by omega) (by omega) (by omega) (by omega) hD hM))
  have hlm := Aside.mk (lt_of_heap hD)
  clear hD hM hf
  generalize hg : w5.heap.size + 1 = g at *
  generalize hm : w5.heap.size = m at *
  go_wp2_with fail
  refine HMK.out.mono ?_
  rintro e w8 ⟨w7, ⟨hD, hM, hfl, hf⟩, rfl, hw8⟩
  have HF7 := Aside.mk (HF6.out.trans hf (fun b hb q => by have := hs6.out; have := hlm.out; omega))
  have HX7 := Aside.mk (hf.heap HX6.out (by have := hx6.out; omega))
  have hfa : Fr (fun _ => False) w7 w8 := by rw [hw8]; exact (Fr.refl _ _).alloc _
  have HF8 := Aside.mk (HF7.out.trans hfa (fun _ _ q => q))
  have HX8 := Aside.mk (hfa.heap HX7.out id)
  have HD8 := Aside.mk (hfa.heap hD id)
  have HM8 := Aside.mk (hfa.heap hM id)
  have HL8 := Aside.mk (hfa.heap hfl id)
  have HB8 : Aside (w8.heap[w7.heap.size]? = some (.cells #[.pointer (some ⟨g, 0, none⟩), .int .i64 1, .int .i64 0] 146 (0, 0))) := ⟨by rw [hw8]; exact heap_new _ _⟩
  clear hD hM hfl hf hfa hw8 hg hm
  go_wp2_with ((with_reducible refine gate (.build 30 _) rfl ?_); refine bld (by simp [Region.wanted]) _ _ rfl _ (recV r) (by simp only [List.map_toArray, List.map_cons, List.map_nil]; rfl) HB.out ?_)
  refine (HAF.out w8 w7.heap.size g m w6.heap.size 1 0 0 0 (0 + 1) 1 HB8.out HD8.out HM8.out HL8.out).mono ?_
  rintro e w9 ⟨rfl, hf⟩
  have HF9 := Aside.mk (HF8.out.trans hf (fun _ _ q => q))
  have HX9 := Aside.mk (hf.heap HX8.out id)
  have HD9 := Aside.mk (hf.heap HD8.out id)
  have HM9 := Aside.mk (hf.heap HM8.out id)
  have HB9 := Aside.mk (hf.heap HB8.out id)
  clear hf
  have hfa : Fr (fun _ => False) w9 (w9.alloc (.cells #[.int .i64 0, .int .i64 0, .int .i64 0] 78)) := (Fr.refl _ _).alloc _
  have HAA := Aside.mk (HF9.out.trans hfa (fun _ _ q => q))
  have HXA := Aside.mk (hfa.heap HX9.out id)
  have HDA := Aside.mk (hfa.heap HD9.out id)
  have HMA := Aside.mk (hfa.heap HM9.out id)
  have HBA := Aside.mk (hfa.heap HB9.out id)
  have HPA : Aside ((w9.alloc (.cells #[.int .i64 0, .int .i64 0, .int .i64 0] 78)).heap[w9.heap.size]? = some (.cells PLc.toArray 78 (0, 0))) := ⟨heap_new _ _⟩
  have hlt := Aside.mk (And.intro (lt_of_heap HX9.out) (And.intro (lt_of_heap HD9.out) (And.intro (lt_of_heap HM9.out) (And.intro (lt_of_heap HB9.out) HF9.out.size))))
  clear hfa
  go_wp2_with ((with_reducible refine gate (.store 78 (.tmp 16) (.tmp 60)) rfl ?_); refine store_part rfl rfl 78 (.tmp 16) (.tmp 60) rfl w9.heap.size 0 PL rfl rfl 78 _ PLc HPA.out rfl info_place (by simp [PLc]) (by simp [PLc, Value.oneCell']) ?_)
  intro w10 hx hf
  have hne := hlt.out
  have HFa := Aside.mk (HAA.out.trans hf (fun b hb q => by have q2 : b = w9.heap.size := q; omega))
  have HXa := Aside.mk (hf.heap HXA.out (by omega))
  have HDa := Aside.mk (hf.heap HDA.out (by omega))
  have HMa := Aside.mk (hf.heap HMA.out (by omega))
  have HBa := Aside.mk (hf.heap HBA.out (by omega))
  have HQa : Aside (w10.heap[w9.heap.size]? = some (.cells PLc.toArray 78 (0, 0))) := ⟨hx⟩
  clear hx hf hne
  have HMF := Aside.mk (bbegin_full w10 g 2 (make_full w10 g m 1 0 0 0 (0 + 1) 2 (by omega) HDa.out (by have q := lk_one w10 m 1 0 2 1 (.pointer (some ⟨w6.heap.size, 0, none⟩)) HMa.out; rw [if_neg (by omega)] at q; exact q)))
  go_wp2_with fail
  refine HMF.out.mono ?_
  rintro e w11 ⟨rfl, hf⟩
  have HFb := Aside.mk (HFa.out.trans hf (fun _ _ q => q))
  have HXb := Aside.mk (hf.heap HXa.out id)
  have HBb := Aside.mk (hf.heap HBa.out id)
  have HQb := Aside.mk (hf.heap HQa.out id)
  clear hf
  have HSY := Aside.mk (bsize_any w11 w7.heap.size 0 (heap_cell HBb.out 2))
  have p0 : w11.cell? ⟨w2.heap.size, 0, none⟩ = some (.int .i64 0) := heap_cell HXb.out 0
  have p1 : w11.cell? ⟨w2.heap.size, 1, none⟩ = some (.int .i64 0) := heap_cell HXb.out 1
  have p2 : w11.cell? ⟨w2.heap.size, 2, none⟩ = some (.int .i64 0) := heap_cell HXb.out 2
  have r0 : w11.cell? ⟨w9.heap.size, 0, none⟩ = some (.int .i64 0) := heap_cell HQb.out 0
  have r1 : w11.cell? ⟨w9.heap.size, 1, none⟩ = some (.int .i64 0) := heap_cell HQb.out 1
  have r2 : w11.cell? ⟨w9.heap.size, 2, none⟩ = some (.int .i64 0) := heap_cell HQb.out 2
  go_wp2_with fail
  refine (HFN.out _).mono ?_
  rintro e w12 ⟨rfl, rfl⟩
  go_wp2_with fail
  refine (HSN.out _).mono ?_
  rintro e w13 ⟨rfl, rfl⟩
  go_wp2_with fail
  refine (HYN.out _).mono ?_
  rintro e w14 ⟨rfl, rfl⟩
  go_wp2_with fail
  refine HSY.out.mono ?_
  rintro e w15 ⟨rfl, rfl⟩
  go_wp2
  go_ret
  exact ⟨rfl, HFb.out⟩

theorem bnil_any (w : World) (n : Int) (s : ByteArray) : Calls Try.prog 10 #[.int .i64 n, .string s] w fun e w' => e = .returned (.bool true) ∧ Fr (fun _ => False) w w' := by
  by_cases hl : 8192 < s.size
  · exact bnil_long w n s hl
  have hsl := ba_size s
  have hss : s = ⟨s.data.toList.toArray⟩ := by rw [Array.toArray_toList]
  generalize s.data.toList = l at *
  rw [hss]
  have hp : packR { Rec.zero with body := l } = (Crc.put (recB { Rec.zero with body := l }), 0) := by
    unfold packR; rw [if_neg (by show ¬ 8192 < l.length; omega), if_neg (by simp [Rec.zero])]
  have hw : ∀ W, _ := fun W => boxpack_any W { Rec.zero with body := l } ⟨rfl, rfl⟩ (by show l.length ≤ _; omega)
  rw [hp] at hw
  have hpl := Crc.put_len (recB { Rec.zero with body := l })
  have hgl := gs_len l.length 64 (by omega)
  have hrl : (recB { Rec.zero with body := l }).length ≤ 100000 := by
    unfold recB
    rw [show (if ({ Rec.zero with body := l } : Rec).patch then gs 1 64 ++ ({ Rec.zero with body := l } : Rec).base else gs 0 64) = gs 0 64 from rfl]
    have h0 := gs_len 0 64 (by omega)
    have hz : zeros.length = 32 := rfl
    simp only [List.length_append]
    show zeros.length + ((gs 0 64).length + ((gs l.length 64).length + l.length)) ≤ 100000
    omega
  exact bnil_short w n l (by omega) (Crc.put (recB { Rec.zero with body := l })) (by rw [hpl]; omega) (by rw [hpl]; omega) hw

end Go.Proofs.Ytodhkdmkkjhnnaa
