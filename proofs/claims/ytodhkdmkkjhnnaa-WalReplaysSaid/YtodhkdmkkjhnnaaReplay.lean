/- The walks of wal.Replay and of silolaw12.WalReplays. -/
import Derived.Test.YtodhkdmkkjhnnaaWSplit
import Derived.Test.YtodhkdmkkjhnnaaSame
import Derived.Test.YtodhkdmkkjhnnaaDiskRd
set_option linter.unusedVariables false
set_option linter.unusedSimpArgs false
namespace Go.Proofs.Ytodhkdmkkjhnnaa
open Go.RowKit

set_option maxRecDepth 100000 in
theorem dsize_none (w : World) (g m : Nat) (n : Int) (hc0 : w.cell? ⟨g, 0, none⟩ = some (.map (some m))) (hc8 : w.cell? ⟨g, 8, none⟩ = some (.bool false))
    (HL : (Instr.lookup 132 (.map (some m)) (.int .i64 n) false).run Try.prog w = .ok (.pointer none) w) :
    Calls Try.prog 38 #[.pointer (some ⟨g, 0, none⟩), .int .i64 n] w fun e w' => e = .returned (.tuple #[.int .i64 0, .int .i64 0, .int .i64 9]) ∧ w' = w := by
  have HF := Aside.mk (find_no w g m n hc0 hc8 HL)
  clear HL hc0 hc8
  go_enter Try.func38, Try.ntmps38
  go_wp2_with fail
  refine HF.out.mono ?_
  rintro e x1 ⟨rfl, rfl⟩
  go_wp2
  go_ret3
  exact ⟨rfl, rfl⟩

set_option maxRecDepth 100000 in
theorem wreplay_none (w : World) (g m : Nat) (n : Int) (hc0 : w.cell? ⟨g, 0, none⟩ = some (.map (some m))) (hc8 : w.cell? ⟨g, 8, none⟩ = some (.bool false))
    (HL : (Instr.lookup 132 (.map (some m)) (.int .i64 n) false).run Try.prog w = .ok (.pointer none) w) :
    Calls Try.prog 26 #[.pointer (some ⟨g, 0, none⟩), .int .i64 n] w fun e w' => e = .returned (.tuple #[.slice none 0 0, .bool false, .int .i64 9]) ∧ w' = w := by
  have HF := Aside.mk (dsize_none w g m n hc0 hc8 HL)
  clear HL hc0 hc8
  go_enter Try.func26, Try.ntmps26
  go_wp2_with fail
  refine HF.out.mono ?_
  rintro e x1 ⟨rfl, rfl⟩
  go_wp2
  go_ret3
  exact ⟨rfl, rfl⟩

theorem isF.keep {w w1 : World} {S : Nat → Prop} {f : Nat} {t sure : Int} {v : Value} {bs : List UInt8} (h : isF w f t v bs sure) (hf : Fr S w w1) (h1 : ¬ S f) (h2 : ∀ k, own v k → ¬ S k) : isF w1 f t v bs sure := ⟨hf.heap h.1 h1, h.2.keep hf h2⟩
theorem lk_yes (w : World) (m c b : Nat) (n : Int) (v : Value) (h : isM w m #[⟨.int .i64 n, v, b⟩] c) : (Instr.lookup 132 (.map (some m)) (.int .i64 n) false).run Try.prog w = .ok v w := by
  have q := lk_one w m c b n n v h
  rw [if_pos rfl] at q; exact q
theorem lk_not (w : World) (m c b : Nat) (n k : Int) (v : Value) (hn : n ≠ k) (h : isM w m #[⟨.int .i64 k, v, b⟩] c) : (Instr.lookup 132 (.map (some m)) (.int .i64 n) false).run Try.prog w = .ok (.pointer none) w := by
  have q := lk_one w m c b n k v h
  rw [if_neg hn] at q; exact q

set_option maxHeartbeats 1600000 in
set_option maxRecDepth 100000 in
theorem wreplay_ok (w : World) (g m f h c uh uc root st c2 b : Nat) (fuse : Int) (n sure t : Int) (v : Value) (bs : List UInt8) (hbs : bs.length ≤ 1000000) (HD0 : isD w g m h c uh uc root st fuse false) (HM0 : isM w m #[⟨.int .i64 n, .pointer (some ⟨f, 0, none⟩), b⟩] c2) (HFI : isF w f t v bs sure) :
    Calls Try.prog 26 #[.pointer (some ⟨g, 0, none⟩), .int .i64 n] w fun e w' => ∃ u, e = .returned (.tuple #[u, .bool (((splitW bs).2 : Int) == (bs.length : Int)), .int .i64 0]) ∧ OwnT w' u (splitW bs).1 ∧ (∀ k, own u k → w.heap.size ≤ k) ∧ Fr (fun _ => False) w w' := by
  have HZ := Aside.mk (dsize_ok w g m f n sure t v bs HD0.c0 HD0.c8 HFI (lk_yes w m c2 b n _ HM0))
  have HD := Aside.mk HD0
  have HM := Aside.mk HM0
  have HI := Aside.mk HFI
  have HS := Aside.mk (fun W => wsplit_any W bs hbs)
  generalize splitW bs = Q at *
  obtain ⟨Q1, Q2⟩ := Q
  simp only at HS
  clear HD0 HM0 HFI
  go_enter Try.func26, Try.ntmps26
  go_wp2_with fail
  refine HZ.out.mono ?_
  rintro e w1 ⟨rfl, hf⟩
  have HD1 := Aside.mk (hf.heap HD.out id)
  have HM1 := Aside.mk (hf.heap HM.out id)
  have HI1 := Aside.mk (HI.out.keep hf id (fun _ _ => id))
  have HF1 := Aside.mk hf
  have hR := dread_ok w1 g m f 0 bs.length n sure t v bs (by omega) (by omega) (isD.c0 HD1.out) (isD.c8 HD1.out) HI1.out (lk_yes w1 m c2 b n _ HM1.out)
  rw [List.drop_zero, List.take_length] at hR
  have HR := Aside.mk hR
  clear hf hR
  go_wp2_with fail
  refine HR.out.mono ?_
  rintro e w2 ⟨rfl, rfl⟩
  go_wp2_with fail
  refine (HS.out _).mono ?_
  rintro e w3 ⟨u, rfl, ho, hk, hf⟩
  have HO := Aside.mk ho
  have HK := Aside.mk hk
  have HF3 := Aside.mk (HF1.out.trans hf (fun _ _ q => q))
  clear ho hk hf
  go_wp2
  go_ret3
  exact ⟨u, rfl, HO.out, fun k hk => Nat.le_trans HF1.out.size (HK.out k hk), HF3.out⟩

def RplPost (w : World) (e : Ending) (w' : World) : Prop := e = .returned (.bool true) ∧ Fr (fun _ => False) w w'

set_option maxHeartbeats 1600000 in
set_option maxRecDepth 100000 in
theorem replays_long (w : World) (s : ByteArray) (n : Int) (hl : 30000 < s.size) : Calls Try.prog 5 #[.string s, .int .i64 n] w (RplPost w) := by
  have HA := Aside.mk (fun W => awake12_any W)
  have hl1 : decide ((30000:Int) < (s.size : Int)) = true := by simp; omega
  go_enter Try.func5, Try.ntmps5
  go_wp2_with fail
  refine (HA.out _).mono ?_
  rintro e w1 ⟨rfl, hf⟩
  have HF1 := Aside.mk hf
  clear hf
  go_wp2_with fail
  refine (HA.out _).mono ?_
  rintro e w2 ⟨rfl, hf⟩
  have HF2 := Aside.mk (HF1.out.trans hf (fun _ _ q => q))
  clear hf
  go_wp2
  go_ret
  exact ⟨rfl, HF2.out⟩

/-- A disk with one file, number 1, that holds these bytes: what the disk's own blocks are. -/
structure DiskOne (w0 w : World) (g m f : Nat) (h uh st : Nat) (v : Value) (bs : List UInt8) : Prop where
  d : isD w g m h 0 uh 0 0 st (-1) false
  map : isM w m #[⟨.int .i64 1, .pointer (some ⟨f, 0, none⟩), 0⟩] 1
  file : isF w f 0 v bs (-1)
  hg : w0.heap.size ≤ g ∧ w0.heap.size ≤ m ∧ w0.heap.size ≤ f
  hv : ∀ k, own v k → w0.heap.size ≤ k
  fr : Fr (fun _ => False) w0 w

theorem DiskOne.keep {w0 w w1 : World} {g m f h uh st : Nat} {v : Value} {bs : List UInt8} (H : DiskOne w0 w g m f h uh st v bs) (hf : Fr (fun _ => False) w w1) : DiskOne w0 w1 g m f h uh st v bs :=
  ⟨hf.heap H.d id, hf.heap H.map id, H.file.keep hf id (fun _ _ => id), H.hg, H.hv, H.fr.trans hf (fun _ _ q => q)⟩

set_option maxHeartbeats 6400000 in
set_option maxRecDepth 100000 in
theorem replays_one (w : World) (s : List UInt8) (hl : s.length ≤ 30000) : Calls Try.prog 5 #[.string ⟨s.toArray⟩, .int .i64 1] w (RplPost w) := by
  have HA := Aside.mk (fun W => awake12_any W)
  have hsz : (ByteArray.mk s.toArray).size = s.length := by simp [ByteArray.size]
  have hl1 : decide ((30000:Int) < (s.length : Int)) = false := by simp; omega
  have HDN := Aside.mk (fun W => dnew_any W 1000 0 (by omega) (by omega))
  have HS := Aside.mk (fun W => rsplit_any W s (by omega))
  go_enter Try.func5, Try.ntmps5
  go_wp2_with fail
  refine (HA.out _).mono ?_
  rintro e w1 ⟨rfl, hf⟩
  have HF1 := Aside.mk hf
  clear hf
  go_wp2_with fail
  refine (HDN.out _).mono ?_
  rintro e w2 ⟨rfl, hD, hM, hf⟩
  have HF2 := Aside.mk (HF1.out.trans hf (fun _ _ q => q))
  have hs1 := HF1.out.size
  have HMK := Aside.mk (make_ok w2 (w1.heap.size + 1) w1.heap.size 1000 0 0 0 0 0 1 (by omega) (by omega) (by omega) (by omega) hD hM)
  have hlm := lt_of_heap hD
  clear hD hM hf
  generalize hg : w1.heap.size + 1 = g at *
  generalize hm : w1.heap.size = m at *
  go_wp2_with fail
  refine HMK.out.mono ?_
  rintro e w3 ⟨rfl, hD, hM, hfl, hf⟩
  have HF3 := Aside.mk (HF2.out.trans hf (fun b hb q => by omega))
  have hs3 := hf.size
  have hAD := dadd_ok w3 g m w2.heap.size 1000 0 (0 + 1) 0 0 (0 + 1) 1 (-1) (.slice none 0 0) [] ⟨s.toArray⟩ (by rw [hsz]; simp; omega) (by omega) (by omega) (by omega) (by rw [hsz]; simp [blk]; omega) hD ⟨hfl, OwnB.nil _⟩ (by omega) (fun k hk => by simp [own, Value.ownBlock] at hk) (lk_yes w3 m 1 0 1 _ hM)
  rw [hsz] at hAD
  have HAD := Aside.mk hAD
  have HM3 := Aside.mk hM
  clear hD hM hfl hf hAD
  go_wp2_with fail
  refine HAD.out.mono ?_
  rintro e w4 ⟨rfl, v, hD, hI, hv, hf⟩
  simp only [List.nil_append] at hI
  have HF4 := Aside.mk (HF3.out.trans hf (fun b hb q => by
    rcases q with q | q | q
    · omega
    · omega
    · simp [own, Value.ownBlock] at q))
  have HM4 := Aside.mk (hf.heap HM3.out (fun q => by
    rcases q with q | q | q
    · omega
    · omega
    · simp [own, Value.ownBlock] at q))
  have HR := Aside.mk (wreplay_ok w4 g m w2.heap.size _ _ _ _ _ _ 1 0 _ 1 (-1) 0 v s (by omega) hD HM4.out hI)
  clear hD hI hv hf
  generalize hQ : splitW s = Q at *
  obtain ⟨Q1, Q2⟩ := Q
  simp only at HR HS
  have hfew : Q1.length ≤ 1000000 := by have := splitW_few s; rw [hQ] at this; simp only at this; omega
  go_wp2_with fail
  refine HR.out.mono ?_
  rintro e w5 ⟨u, rfl, ho, hk, hf⟩
  have HO5 := Aside.mk ho
  have HF5 := Aside.mk (HF4.out.trans hf (fun _ _ q => q))
  clear ho hk hf
  go_wp2_with fail
  refine (HS.out _).mono ?_
  rintro e w6 ⟨u2, rfl, ho, hk, hf⟩
  have HO6 := Aside.mk (HO5.out.keep hf (fun _ _ => id))
  have HP6 := Aside.mk ho
  have HF6 := Aside.mk (HF5.out.trans hf (fun _ _ q => q))
  clear ho hk hf
  go_wp2_with fail
  refine (same_any w6 u u2 Q1 hfew HO6.out HP6.out).mono ?_
  rintro e w7 ⟨rfl, hf⟩
  have HF7 := Aside.mk (HF6.out.trans hf (fun _ _ q => q))
  clear hf
  go_wp2
  go_ret
  exact ⟨rfl, HF7.out⟩

set_option maxHeartbeats 6400000 in
set_option maxRecDepth 100000 in
theorem replays_none (w : World) (s : List UInt8) (n : Int) (hn : n ≠ 1) (hl : s.length ≤ 30000) : Calls Try.prog 5 #[.string ⟨s.toArray⟩, .int .i64 n] w (RplPost w) := by
  have HA := Aside.mk (fun W => awake12_any W)
  have hsz : (ByteArray.mk s.toArray).size = s.length := by simp [ByteArray.size]
  have hl1 : decide ((30000:Int) < (s.length : Int)) = false := by simp; omega
  have hnb : (n == 1) = false := by simp [hn]
  have HN := Aside.mk hn
  have HDN := Aside.mk (fun W => dnew_any W 1000 0 (by omega) (by omega))
  clear hn
  go_enter Try.func5, Try.ntmps5
  go_wp2_with fail
  refine (HA.out _).mono ?_
  rintro e w1 ⟨rfl, hf⟩
  have HF1 := Aside.mk hf
  clear hf
  go_wp2_with fail
  refine (HDN.out _).mono ?_
  rintro e w2 ⟨rfl, hD, hM, hf⟩
  have HF2 := Aside.mk (HF1.out.trans hf (fun _ _ q => q))
  have hs1 := HF1.out.size
  have HMK := Aside.mk (make_ok w2 (w1.heap.size + 1) w1.heap.size 1000 0 0 0 0 0 1 (by omega) (by omega) (by omega) (by omega) hD hM)
  have hlm := lt_of_heap hD
  clear hD hM hf
  generalize hg : w1.heap.size + 1 = g at *
  generalize hm : w1.heap.size = m at *
  go_wp2_with fail
  refine HMK.out.mono ?_
  rintro e w3 ⟨rfl, hD, hM, hfl, hf⟩
  have HF3 := Aside.mk (HF2.out.trans hf (fun b hb q => by omega))
  have hs3 := hf.size
  have hAD := dadd_ok w3 g m w2.heap.size 1000 0 (0 + 1) 0 0 (0 + 1) 1 (-1) (.slice none 0 0) [] ⟨s.toArray⟩ (by rw [hsz]; simp; omega) (by omega) (by omega) (by omega) (by rw [hsz]; simp [blk]; omega) hD ⟨hfl, OwnB.nil _⟩ (by omega) (fun k hk => by simp [own, Value.ownBlock] at hk) (lk_yes w3 m 1 0 1 _ hM)
  rw [hsz] at hAD
  have HAD := Aside.mk hAD
  have HM3 := Aside.mk hM
  clear hD hM hfl hf hAD
  go_wp2_with fail
  refine HAD.out.mono ?_
  rintro e w4 ⟨rfl, v, hD, hI, hv, hf⟩
  have HF4 := Aside.mk (HF3.out.trans hf (fun b hb q => by
    rcases q with q | q | q
    · omega
    · omega
    · simp [own, Value.ownBlock] at q))
  have HM4 := Aside.mk (hf.heap HM3.out (fun q => by
    rcases q with q | q | q
    · omega
    · omega
    · simp [own, Value.ownBlock] at q))
  have HR := Aside.mk (wreplay_none w4 g m n (isD.c0 hD) (isD.c8 hD) (lk_not w4 m 1 0 n 1 _ HN.out HM4.out))
  clear hD hI hv hf
  go_wp2_with fail
  refine HR.out.mono ?_
  rintro e w5 ⟨rfl, rfl⟩
  go_wp2
  go_ret
  exact ⟨rfl, HF4.out⟩

theorem replays_any (w : World) (s : ByteArray) (n : Int) : Calls Try.prog 5 #[.string s, .int .i64 n] w fun e w' => e = .returned (.bool true) ∧ Fr (fun _ => False) w w' := by
  by_cases hl : 30000 < s.size
  · exact replays_long w s n hl
  have hss : s = ⟨s.data.toList.toArray⟩ := by rw [Array.toArray_toList]
  have hsl := ba_size s
  generalize s.data.toList = l at *
  rw [hss]
  by_cases hn : n = 1
  · rw [hn]; exact replays_one w l (by omega)
  · exact replays_none w l n hn (by omega)
end Go.Proofs.Ytodhkdmkkjhnnaa
