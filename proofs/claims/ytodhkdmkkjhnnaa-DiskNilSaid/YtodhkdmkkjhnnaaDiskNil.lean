/- The walks of silolaw04.do on a nil disk, silolaw04.awake and silolaw04.DiskNil. -/
import Derived.Test.YtodhkdmkkjhnnaaDNil
import Derived.Test.YtodhkdmkkjhnnaaBack
import Derived.Test.YtodhkdmkkjhnnaaWLog
set_option linter.unusedVariables false
set_option linter.unusedSimpArgs false
namespace Go.Proofs.Ytodhkdmkkjhnnaa
open Go.RowKit

def opV (k t f a z : Int) (s : ByteArray) (v : Value) : Array Value := #[.int .i64 k, .int .i64 t, .int .i64 f, .int .i64 a, .int .i64 z, .string s, v]
def doE (k : Int) : Int := if 1 ≤ k ∧ k ≤ 5 then 8 else 0

set_option maxHeartbeats 6400000 in
set_option maxRecDepth 100000 in
theorem do_nil (w : World) (k t f a z : Int) (s : ByteArray) (v : Value) : Calls Try.prog 57 #[.pointer none, .agg (opV k t f a z s v)] w fun e w' => e = .returned (.int .i64 (doE k)) ∧ Fr (fun _ => False) w w' := by
  have H1 := Aside.mk (fun W => make_nil W t f)
  have H2 := Aside.mk (fun W => dadd_nil W f s)
  have H3 := Aside.mk (fun W => dsync_nil W f)
  have H4 := Aside.mk (fun W => ddrop_nil W f)
  have H5 := Aside.mk (fun W => dpoint_nil W f)
  have H8 := Aside.mk (fun W => dback_nil W v)
  have HF0 := Aside.mk ((Fr.refl (fun _ => False) w).alloc (.cells (opV k t f a z s v) 112))
  have hi := heap_new w (.cells (opV k t f a z s v) 112)
  have c0 : (w.alloc (.cells (opV k t f a z s v) 112)).cell? ⟨w.heap.size, 0, none⟩ = some (.int .i64 k) := heap_cell hi 0
  have c1 : (w.alloc (.cells (opV k t f a z s v) 112)).cell? ⟨w.heap.size, 1, none⟩ = some (.int .i64 t) := heap_cell hi 1
  have c2 : (w.alloc (.cells (opV k t f a z s v) 112)).cell? ⟨w.heap.size, 2, none⟩ = some (.int .i64 f) := heap_cell hi 2
  have c5 : (w.alloc (.cells (opV k t f a z s v) 112)).cell? ⟨w.heap.size, 5, none⟩ = some (.string s) := heap_cell hi 5
  have c6 : (w.alloc (.cells (opV k t f a z s v) 112)).cell? ⟨w.heap.size, 6, none⟩ = some v := heap_cell hi 6
  clear hi
  have HE : Aside (∀ x, doE k = x → doE k = x) := ⟨fun _ h => h⟩
  by_cases h1 : k = 1
  · have b1 : (k == 1) = true := by simp [h1]
    have HR : Aside (doE k = 8) := ⟨by subst h1; rfl⟩
    generalize opV k t f a z s v = O at *
    clear h1
    go_enter Try.func57, Try.ntmps57
    go_wp2_with fail
    refine (H1.out _).mono ?_
    rintro e w1 ⟨rfl, rfl⟩
    go_wp2
    go_ret
    rw [HR.out]; exact ⟨rfl, HF0.out⟩
  have b1 : (k == 1) = false := by simp [h1]
  by_cases h2 : k = 2
  · have b2 : (k == 2) = true := by simp [h2]
    have HR : Aside (doE k = 8) := ⟨by subst h2; rfl⟩
    generalize opV k t f a z s v = O at *
    clear h1 h2
    go_enter Try.func57, Try.ntmps57
    go_wp2_with fail
    refine (H2.out _).mono ?_
    rintro e w1 ⟨rfl, rfl⟩
    go_wp2
    go_ret
    rw [HR.out]; exact ⟨rfl, HF0.out⟩
  have b2 : (k == 2) = false := by simp [h2]
  by_cases h3 : k = 3
  · have b3 : (k == 3) = true := by simp [h3]
    have HR : Aside (doE k = 8) := ⟨by subst h3; rfl⟩
    generalize opV k t f a z s v = O at *
    clear h1 h2 h3
    go_enter Try.func57, Try.ntmps57
    go_wp2_with fail
    refine (H3.out _).mono ?_
    rintro e w1 ⟨rfl, rfl⟩
    go_wp2
    go_ret
    rw [HR.out]; exact ⟨rfl, HF0.out⟩
  have b3 : (k == 3) = false := by simp [h3]
  by_cases h4 : k = 4
  · have b4 : (k == 4) = true := by simp [h4]
    have HR : Aside (doE k = 8) := ⟨by subst h4; rfl⟩
    generalize opV k t f a z s v = O at *
    clear h1 h2 h3 h4
    go_enter Try.func57, Try.ntmps57
    go_wp2_with fail
    refine (H4.out _).mono ?_
    rintro e w1 ⟨rfl, rfl⟩
    go_wp2
    go_ret
    rw [HR.out]; exact ⟨rfl, HF0.out⟩
  have b4 : (k == 4) = false := by simp [h4]
  by_cases h5 : k = 5
  · have b5 : (k == 5) = true := by simp [h5]
    have HR : Aside (doE k = 8) := ⟨by subst h5; rfl⟩
    generalize opV k t f a z s v = O at *
    clear h1 h2 h3 h4 h5
    go_enter Try.func57, Try.ntmps57
    go_wp2_with fail
    refine (H5.out _).mono ?_
    rintro e w1 ⟨rfl, rfl⟩
    go_wp2
    go_ret
    rw [HR.out]; exact ⟨rfl, HF0.out⟩
  have b5 : (k == 5) = false := by simp [h5]
  have HR : Aside (doE k = 0) := ⟨by unfold doE; rw [if_neg (by omega)]⟩
  by_cases h8 : k = 8
  · have b8 : (k == 8) = true := by simp [h8]
    generalize opV k t f a z s v = O at *
    clear h1 h2 h3 h4 h5 h8
    go_enter Try.func57, Try.ntmps57
    go_wp2_with fail
    refine (H8.out _).mono ?_
    rintro e w1 ⟨rfl, rfl⟩
    go_wp2
    go_ret
    rw [HR.out]; exact ⟨rfl, HF0.out⟩
  · have b8 : (k == 8) = false := by simp [h8]
    generalize opV k t f a z s v = O at *
    clear h1 h2 h3 h4 h5 h8
    go_enter Try.func57, Try.ntmps57
    go_wp2
    go_ret
    rw [HR.out]; exact ⟨rfl, HF0.out⟩

set_option maxHeartbeats 12800000 in
set_option maxRecDepth 100000 in
theorem awake04_any (w : World) : Calls Try.prog 52 #[] w fun e w' => e = .returned (.bool true) ∧ Fr (fun _ => False) w w' := by
  have HDN := Aside.mk (fun W => dnew_any W 3 0 (by omega) (by omega))
  go_enter Try.func52, Try.ntmps52
  go_wp2_with fail
  refine (HDN.out _).mono ?_
  rintro e x2 ⟨rfl, hD, hM, hf⟩
  have HF2 := Aside.mk hf
  have hlm := lt_of_heap hD
  have HMK := Aside.mk (make_ok x2 (w.heap.size + 1) w.heap.size 3 0 0 0 0 0 1 (by omega) (by omega) (by omega) (by omega) hD hM)
  clear hD hM hf HDN
  generalize hg : w.heap.size + 1 = g at *
  go_wp2_with fail
  refine HMK.out.mono ?_
  rintro e x3 ⟨rfl, hD, hM, hfl, hf⟩
  have HF3 := Aside.mk (HF2.out.trans hf (fun b hb q => by omega))
  have hs3 := lt_of_heap hfl
  have hno : ∀ b, ¬ own (.slice none 0 0) b := fun b q => by simp [own, Value.ownBlock] at q
  have HNO := Aside.mk hno
  have hAD := dadd_ok x3 g w.heap.size x2.heap.size 3 0 (0 + 1) 0 0 (0 + 1) 1 (-1) (.slice none 0 0) [] ⟨#[97, 98, 99]⟩ (by decide) (by omega) (by omega) (by omega) (by decide) hD ⟨hfl, OwnB.nil _⟩ (by omega) (fun k hk => absurd hk (hno k)) (lk_yes x3 w.heap.size 1 0 1 _ hM)
  have HAD := Aside.mk hAD
  have HM3 := Aside.mk hM
  clear hD hM hfl hf hAD HMK hno
  go_wp2_with fail
  refine HAD.out.mono ?_
  rintro e x4 ⟨rfl, v4, hD, hI, hv, hf⟩
  have HF4 := Aside.mk (HF3.out.trans hf (fun b hb q => by
    rcases q with q | q | q
    · omega
    · omega
    · exact HNO.out _ q))
  have hM4 := hf.heap HM3.out (fun q => by
    rcases q with q | q | q
    · omega
    · omega
    · exact HNO.out _ q)
  have hv4 : ∀ b, own v4 b → x3.heap.size ≤ b := fun b q => (hv b q).elim (fun q => absurd q (HNO.out b)) id
  have hs4 := hf.size
  have HSY := Aside.mk (dsync_ok x4 g w.heap.size x2.heap.size 3 0 _ 0 0 (0 + 1 + 1) 1 (-1) 0 v4 _ (by omega) hD hI (by omega) (fun b q => by have := hv4 b q; omega) (lk_yes x4 w.heap.size 1 0 1 _ hM4))
  have HM4 := Aside.mk hM4
  have HV4 := Aside.mk hv4
  clear hD hI hv hf HAD hM4 hv4
  go_wp2_with fail
  refine HSY.out.mono ?_
  rintro e x5 ⟨rfl, hD, hI, hf⟩
  have HF5 := Aside.mk (HF4.out.trans hf (fun b hb q => by omega))
  have hM5 := hf.heap HM4.out (fun q => by omega)
  have hs5 := hf.size
  have HAD := Aside.mk (dadd_ok x5 g w.heap.size x2.heap.size 3 0 _ 0 0 (0 + 1 + 1 + 1) 1 _ v4 _ ⟨#[100, 101]⟩ (by decide) (by omega) (by decide) (by omega) (by decide) hD hI (by omega) (fun b q => by have := HV4.out b q; omega) (lk_yes x5 w.heap.size 1 0 1 _ hM5))
  have HM5 := Aside.mk hM5
  clear hD hI hf HSY hM5
  go_wp2_with fail
  refine HAD.out.mono ?_
  rintro e x6 ⟨rfl, v6, hD, hI, hv, hf⟩
  have hs6 := hf.size
  have hI6 : isF x6 x2.heap.size 0 v6 [97, 98, 99, 100, 101] ((3 : Nat) : Int) := hI
  have hD6 : isD x6 g w.heap.size 3 0 2 0 0 4 (-1) false := hD
  obtain ⟨a, n6, c0, rfl⟩ := hI6.2.shape
  obtain ⟨hn6, hp6⟩ := hI6.2.cap
  obtain ⟨a0, rfl, hc0⟩ := hp6 (by simp)
  subst hn6
  have ha0 : x3.heap.size ≤ a0 := by
    rcases hv a0 (by simp [own, Value.ownBlock]) with q | q
    · exact HV4.out a0 q
    · omega
  have ha6 : a0 < x6.heap.size := hI6.2.lt a0 (by simp [own, Value.ownBlock])
  have hM6 := hf.heap HM5.out (fun q => by
    rcases q with q | q | q
    · omega
    · omega
    · have := HV4.out _ q; omega)
  have HF6 := Aside.mk (HF5.out.trans hf (fun b hb q => by
    rcases q with q | q | q
    · omega
    · omega
    · have := HV4.out _ q; omega))
  have hfa : Fr (fun _ => False) x6 (x6.alloc (.cells #[.int .i64 1, .int .i64 1] 103)) := (Fr.refl _ _).alloc _
  have HBK := Aside.mk (dback_one (x6.alloc (.cells #[.int .i64 1, .int .i64 1] 103)) g w.heap.size x2.heap.size 3 0 2 0 0 4 x6.heap.size (-1) false 1 3 1 a0 c0 [97, 98, 99, 100, 101] (0, 0) (hfa.heap hD6 id) (hfa.heap hM6 id) (hI6.keep hfa id (fun _ _ => id)) (heap_new _ _) (by decide) (by decide) hc0 (by decide) (by omega) (by refine ⟨by omega, by omega, by omega, by omega, by omega, by omega, by omega, by omega, by omega⟩))
  have HFa := Aside.mk (HF6.out.trans hfa (fun _ _ q => q))
  have HOa := Aside.mk (hI6.2.keep hfa (fun _ _ => id))
  clear hD hI hv hf HAD hI6 hD6 hM6 hfa hp6
  go_wp2_with fail
  refine HBK.out.mono ?_
  rintro e x7 ⟨rfl, hD, hM, hR, hf⟩
  have hD7 : isD x7 g w.heap.size 3 0 2 0 0 4 (-1) false := hD
  have hI7 : isF x7 x2.heap.size 0 (.slice (some ⟨a0, 0, none⟩) 4 c0) [97, 98, 99, 100] ((4 : Nat) : Int) := ⟨hR, by
    have q := (HOa.out.keep hf (fun b hb q => by
      have q3 : a0 = b := by simpa [own, Value.ownBlock] using hb
      omega)).pre 4 (by decide)
    exact q⟩
  have HF7 := Aside.mk (HFa.out.trans hf (fun b hb q => by omega))
  have HRD := Aside.mk (dread_ok x7 g w.heap.size x2.heap.size 0 4 1 _ 0 _ [97, 98, 99, 100] (by decide) (by decide) hD7.c0 hD7.c8 hI7 (lk_yes x7 w.heap.size 1 0 1 _ hM))
  have HUS := Aside.mk (dused_hot x7 g 2 hD7.c3)
  have HMF := Aside.mk (make_full1 x7 g w.heap.size 3 0 2 0 4 2 (by omega) hD7 (lk_not x7 w.heap.size 1 0 2 1 _ (by omega) hM))
  clear hD hM hR hf hD7 hI7 HBK
  go_wp2_with fail
  refine HRD.out.mono ?_
  rintro e x8 ⟨rfl, rfl⟩
  go_wp2_with fail
  refine HUS.out.mono ?_
  rintro e x9 ⟨rfl, rfl⟩
  go_wp2_with fail
  refine HMF.out.mono ?_
  rintro e x10 ⟨rfl, hf⟩
  have HF10 := Aside.mk (HF7.out.trans hf (fun _ _ q => q))
  clear hf
  go_wp2
  go_ret
  exact ⟨rfl, HF10.out⟩

set_option maxHeartbeats 12800000 in
set_option maxRecDepth 100000 in
theorem dnil_in (w : World) (k t f a z : Int) (s : ByteArray) (v : Value) (h1 : 1 ≤ k) (h2 : k ≤ 5) : Calls Try.prog 14 #[.agg (opV k t f a z s v)] w fun e w' => e = .returned (.bool true) ∧ Fr (fun _ => False) w w' := by
  have d1 : decide (1 ≤ k) = true := decide_eq_true h1
  have d2 : decide (k ≤ 5) = true := decide_eq_true h2
  have HDO := Aside.mk (fun W => do_nil W k t f a z s v)
  have HE : doE k = 8 := by unfold doE; rw [if_pos (by omega)]
  rw [HE] at HDO
  have HAR := Aside.mk (fun W => darm_nil W a)
  have HRD := Aside.mk (fun W => dread_nil W f a z)
  have HSZ := Aside.mk (fun W => dsize_nil2 W f)
  have HAW := Aside.mk (fun W => awake04_any W)
  have HFL := Aside.mk (fun W => dfiles_nil W)
  have HRT := Aside.mk (fun W => droot_nil W)
  have HST := Aside.mk (fun W => dsteps_nil W)
  have HU0 := Aside.mk (fun W => dused_nil W 0)
  have HU1 := Aside.mk (fun W => dused_nil W 1)
  have HR0 := Aside.mk (fun W => droom_nil W 0)
  have HDW := Aside.mk (fun W => ddown_nil W)
  have HF0 := Aside.mk ((Fr.refl (fun _ => False) w).alloc (.cells (opV k t f a z s v) 112))
  have HH := Aside.mk (heap_new w (.cells (opV k t f a z s v) 112))
  unfold opV at *
  clear HE
  go_enter Try.func14, Try.ntmps14
  go_wp2_with fail
  refine (HAR.out _).mono ?_
  rintro e w1 ⟨rfl, rfl⟩
  go_wp2_with fail
  refine (HDO.out _).mono ?_
  rintro e w2 ⟨rfl, hf⟩
  have HF2 := Aside.mk (HF0.out.trans hf (fun _ _ q => q))
  have HH2 := Aside.mk (hf.heap HH.out id)
  clear hf
  have c2 : w2.cell? ⟨w.heap.size, 2, none⟩ = some (.int .i64 f) := heap_cell HH2.out 2
  have c3 : w2.cell? ⟨w.heap.size, 3, none⟩ = some (.int .i64 a) := heap_cell HH2.out 3
  have c4 : w2.cell? ⟨w.heap.size, 4, none⟩ = some (.int .i64 z) := heap_cell HH2.out 4
  go_wp2_with fail
  refine (HRD.out _).mono ?_
  rintro e w3 ⟨rfl, rfl⟩
  go_wp2_with fail
  refine (HSZ.out _).mono ?_
  rintro e w4 ⟨rfl, rfl⟩
  clear c2 c3 c4
  go_wp2_with fail
  refine (HAW.out _).mono ?_
  rintro e w5 ⟨rfl, hf⟩
  have HF5 := Aside.mk (HF2.out.trans hf (fun _ _ q => q))
  have HH5 := Aside.mk (hf.heap HH2.out id)
  clear hf
  have c0 : w5.cell? ⟨w.heap.size, 0, none⟩ = some (.int .i64 k) := heap_cell HH5.out 0
  go_wp2_with fail
  refine (HFL.out _).mono ?_
  rintro e w6 ⟨rfl, rfl⟩
  go_wp2_with fail
  refine (HRT.out _).mono ?_
  rintro e w6 ⟨rfl, rfl⟩
  go_wp2_with fail
  refine (HST.out _).mono ?_
  rintro e w6 ⟨rfl, rfl⟩
  go_wp2_with fail
  refine (HU0.out _).mono ?_
  rintro e w6 ⟨rfl, rfl⟩
  go_wp2_with fail
  refine (HU1.out _).mono ?_
  rintro e w6 ⟨rfl, rfl⟩
  go_wp2_with fail
  refine (HR0.out _).mono ?_
  rintro e w6 ⟨rfl, rfl⟩
  go_wp2_with fail
  refine (HDW.out _).mono ?_
  rintro e w6 ⟨rfl, rfl⟩
  go_wp2
  go_ret
  exact ⟨rfl, HF5.out⟩

set_option maxHeartbeats 12800000 in
set_option maxRecDepth 100000 in
theorem dnil_lo (w : World) (k t f a z : Int) (s : ByteArray) (v : Value) (h1 : ¬ 1 ≤ k) : Calls Try.prog 14 #[.agg (opV k t f a z s v)] w fun e w' => e = .returned (.bool true) ∧ Fr (fun _ => False) w w' := by
  have d1 : decide (1 ≤ k) = false := decide_eq_false h1
  have HDO := Aside.mk (fun W => do_nil W k t f a z s v)
  have HE : doE k = 0 := by unfold doE; rw [if_neg (by omega)]
  rw [HE] at HDO
  have HAR := Aside.mk (fun W => darm_nil W a)
  have HRD := Aside.mk (fun W => dread_nil W f a z)
  have HSZ := Aside.mk (fun W => dsize_nil2 W f)
  have HAW := Aside.mk (fun W => awake04_any W)
  have HFL := Aside.mk (fun W => dfiles_nil W)
  have HRT := Aside.mk (fun W => droot_nil W)
  have HST := Aside.mk (fun W => dsteps_nil W)
  have HU0 := Aside.mk (fun W => dused_nil W 0)
  have HU1 := Aside.mk (fun W => dused_nil W 1)
  have HR0 := Aside.mk (fun W => droom_nil W 0)
  have HDW := Aside.mk (fun W => ddown_nil W)
  have HF0 := Aside.mk ((Fr.refl (fun _ => False) w).alloc (.cells (opV k t f a z s v) 112))
  have HH := Aside.mk (heap_new w (.cells (opV k t f a z s v) 112))
  unfold opV at *
  clear HE
  go_enter Try.func14, Try.ntmps14
  go_wp2_with fail
  refine (HAR.out _).mono ?_
  rintro e w1 ⟨rfl, rfl⟩
  go_wp2_with fail
  refine (HDO.out _).mono ?_
  rintro e w2 ⟨rfl, hf⟩
  have HF2 := Aside.mk (HF0.out.trans hf (fun _ _ q => q))
  have HH2 := Aside.mk (hf.heap HH.out id)
  clear hf
  have c2 : w2.cell? ⟨w.heap.size, 2, none⟩ = some (.int .i64 f) := heap_cell HH2.out 2
  have c3 : w2.cell? ⟨w.heap.size, 3, none⟩ = some (.int .i64 a) := heap_cell HH2.out 3
  have c4 : w2.cell? ⟨w.heap.size, 4, none⟩ = some (.int .i64 z) := heap_cell HH2.out 4
  go_wp2_with fail
  refine (HRD.out _).mono ?_
  rintro e w3 ⟨rfl, rfl⟩
  go_wp2_with fail
  refine (HSZ.out _).mono ?_
  rintro e w4 ⟨rfl, rfl⟩
  clear c2 c3 c4
  go_wp2_with fail
  refine (HAW.out _).mono ?_
  rintro e w5 ⟨rfl, hf⟩
  have HF5 := Aside.mk (HF2.out.trans hf (fun _ _ q => q))
  have HH5 := Aside.mk (hf.heap HH2.out id)
  clear hf
  have c0 : w5.cell? ⟨w.heap.size, 0, none⟩ = some (.int .i64 k) := heap_cell HH5.out 0
  go_wp2_with fail
  refine (HFL.out _).mono ?_
  rintro e w6 ⟨rfl, rfl⟩
  go_wp2_with fail
  refine (HRT.out _).mono ?_
  rintro e w6 ⟨rfl, rfl⟩
  go_wp2_with fail
  refine (HST.out _).mono ?_
  rintro e w6 ⟨rfl, rfl⟩
  go_wp2_with fail
  refine (HU0.out _).mono ?_
  rintro e w6 ⟨rfl, rfl⟩
  go_wp2_with fail
  refine (HU1.out _).mono ?_
  rintro e w6 ⟨rfl, rfl⟩
  go_wp2_with fail
  refine (HR0.out _).mono ?_
  rintro e w6 ⟨rfl, rfl⟩
  go_wp2_with fail
  refine (HDW.out _).mono ?_
  rintro e w6 ⟨rfl, rfl⟩
  go_wp2
  go_ret
  exact ⟨rfl, HF5.out⟩

set_option maxHeartbeats 12800000 in
set_option maxRecDepth 100000 in
theorem dnil_hi (w : World) (k t f a z : Int) (s : ByteArray) (v : Value) (h1 : 1 ≤ k) (h2 : ¬ k ≤ 5) : Calls Try.prog 14 #[.agg (opV k t f a z s v)] w fun e w' => e = .returned (.bool true) ∧ Fr (fun _ => False) w w' := by
  have d1 : decide (1 ≤ k) = true := decide_eq_true h1
  have d2 : decide (k ≤ 5) = false := decide_eq_false h2
  have HDO := Aside.mk (fun W => do_nil W k t f a z s v)
  have HE : doE k = 0 := by unfold doE; rw [if_neg (by omega)]
  rw [HE] at HDO
  have HAR := Aside.mk (fun W => darm_nil W a)
  have HRD := Aside.mk (fun W => dread_nil W f a z)
  have HSZ := Aside.mk (fun W => dsize_nil2 W f)
  have HAW := Aside.mk (fun W => awake04_any W)
  have HFL := Aside.mk (fun W => dfiles_nil W)
  have HRT := Aside.mk (fun W => droot_nil W)
  have HST := Aside.mk (fun W => dsteps_nil W)
  have HU0 := Aside.mk (fun W => dused_nil W 0)
  have HU1 := Aside.mk (fun W => dused_nil W 1)
  have HR0 := Aside.mk (fun W => droom_nil W 0)
  have HDW := Aside.mk (fun W => ddown_nil W)
  have HF0 := Aside.mk ((Fr.refl (fun _ => False) w).alloc (.cells (opV k t f a z s v) 112))
  have HH := Aside.mk (heap_new w (.cells (opV k t f a z s v) 112))
  unfold opV at *
  clear HE
  go_enter Try.func14, Try.ntmps14
  go_wp2_with fail
  refine (HAR.out _).mono ?_
  rintro e w1 ⟨rfl, rfl⟩
  go_wp2_with fail
  refine (HDO.out _).mono ?_
  rintro e w2 ⟨rfl, hf⟩
  have HF2 := Aside.mk (HF0.out.trans hf (fun _ _ q => q))
  have HH2 := Aside.mk (hf.heap HH.out id)
  clear hf
  have c2 : w2.cell? ⟨w.heap.size, 2, none⟩ = some (.int .i64 f) := heap_cell HH2.out 2
  have c3 : w2.cell? ⟨w.heap.size, 3, none⟩ = some (.int .i64 a) := heap_cell HH2.out 3
  have c4 : w2.cell? ⟨w.heap.size, 4, none⟩ = some (.int .i64 z) := heap_cell HH2.out 4
  go_wp2_with fail
  refine (HRD.out _).mono ?_
  rintro e w3 ⟨rfl, rfl⟩
  go_wp2_with fail
  refine (HSZ.out _).mono ?_
  rintro e w4 ⟨rfl, rfl⟩
  clear c2 c3 c4
  go_wp2_with fail
  refine (HAW.out _).mono ?_
  rintro e w5 ⟨rfl, hf⟩
  have HF5 := Aside.mk (HF2.out.trans hf (fun _ _ q => q))
  have HH5 := Aside.mk (hf.heap HH2.out id)
  clear hf
  have c0 : w5.cell? ⟨w.heap.size, 0, none⟩ = some (.int .i64 k) := heap_cell HH5.out 0
  go_wp2_with fail
  refine (HFL.out _).mono ?_
  rintro e w6 ⟨rfl, rfl⟩
  go_wp2_with fail
  refine (HRT.out _).mono ?_
  rintro e w6 ⟨rfl, rfl⟩
  go_wp2_with fail
  refine (HST.out _).mono ?_
  rintro e w6 ⟨rfl, rfl⟩
  go_wp2_with fail
  refine (HU0.out _).mono ?_
  rintro e w6 ⟨rfl, rfl⟩
  go_wp2_with fail
  refine (HU1.out _).mono ?_
  rintro e w6 ⟨rfl, rfl⟩
  go_wp2_with fail
  refine (HR0.out _).mono ?_
  rintro e w6 ⟨rfl, rfl⟩
  go_wp2_with fail
  refine (HDW.out _).mono ?_
  rintro e w6 ⟨rfl, rfl⟩
  go_wp2
  go_ret
  exact ⟨rfl, HF5.out⟩

theorem dnil_any (w : World) (k t f a z : Int) (s : ByteArray) (v : Value) : Calls Try.prog 14 #[.agg (opV k t f a z s v)] w fun e w' => e = .returned (.bool true) ∧ Fr (fun _ => False) w w' := by
  by_cases h1 : 1 ≤ k
  · by_cases h2 : k ≤ 5
    · exact dnil_in w k t f a z s v h1 h2
    · exact dnil_hi w k t f a z s v h1 h2
  · exact dnil_lo w k t f a z s v h1
end Go.Proofs.Ytodhkdmkkjhnnaa
