/- A parameter of records: what is read of it; silolaw17.few. -/
import Derived.Test.YtodhkdmkkjhnnaaRecBuild
import Derived.Deep.MidRow
set_option linter.unusedVariables false
set_option linter.unusedSimpArgs false
namespace Go.Proofs.Ytodhkdmkkjhnnaa
open Go.RowKit

theorem Fr.cell {w w1 : World} (h : Fr (fun _ => False) w w1) {a : Addr} {v : Value} (ha : w.cell? a = some v) : w1.cell? a = some v := by
  have hb : a.block < w.heap.size := by
    rcases Nat.lt_or_ge a.block w.heap.size with q | q
    · exact q
    · unfold World.cell? at ha; rw [Array.getElem?_eq_none q] at ha; simp at ha
  unfold World.cell? at ha ⊢
  rw [h.block a.block hb id]; exact ha
theorem Fr.range {w w1 : World} (h : Fr (fun _ => False) w w1) {b o : Nat} {cs : List Value} (ha : w.rangeAt b o cs) : w1.rangeAt b o cs := fun j v hv => h.cell (ha j v hv)

/-- v is a slice that holds these records, wherever it lies. -/
structure isRs (w : World) (v : Value) (rs : List Rec) : Prop where
  ok : ∀ r ∈ rs, r.Ok
  at_ : ∃ p c, v = .slice p rs.length c ∧ (rs ≠ [] → ∃ b off, p = some ⟨b, off, none⟩ ∧ ∀ i r, rs[i]? = some r → w.rangeAt b (off + i * 66) (recL r))
theorem isRs.keep {w w1 : World} {v : Value} {rs : List Rec} (h : isRs w v rs) (hf : Fr (fun _ => False) w w1) : isRs w1 v rs := by
  obtain ⟨p, c, hv, hr⟩ := h.at_
  refine ⟨h.ok, p, c, hv, fun hne => ?_⟩
  obtain ⟨b, off, hp, hx⟩ := hr hne
  exact ⟨b, off, hp, fun i r hi => hf.range (hx i r hi)⟩

def fewGo : List Rec → Nat → Nat → Bool
  | [], _, n => decide (n ≤ 60000)
  | r :: rs, i, n => if 200 ≤ i ∨ 30000 < r.body.length ∨ 30000 < n then false else fewGo rs (i + 1) (n + r.body.length + 80)
def bodies (rs : List Rec) : Nat := (rs.map fun r => r.body.length + 80).sum
theorem fewGo_true : ∀ {rs : List Rec} {i n : Nat}, fewGo rs i n = true → n + bodies rs ≤ 60000 ∧ (rs ≠ [] → i + rs.length ≤ 200) := by
  intro rs
  induction rs with
  | nil => intro i n h; simp [fewGo] at h; exact ⟨by simpa [bodies] using h, by simp⟩
  | cons r rs ih =>
    intro i n h
    unfold fewGo at h
    split at h
    · simp at h
    · rename_i hc
      obtain ⟨h1, h2⟩ := ih h
      refine ⟨by simp only [bodies, List.map_cons, List.sum_cons] at h1 ⊢; omega, fun _ => ?_⟩
      by_cases he : rs = []
      · subst he; simp; omega
      · have := h2 he; simp only [List.length_cons]; omega

set_option maxHeartbeats 3200000 in
set_option maxRecDepth 100000 in
theorem few_any (w : World) (v : Value) (rs : List Rec) (hn : rs.length ≤ 9223372036854775807) (H : isRs w v rs) : Calls Try.prog 29 #[v] w fun e w' => e = .returned (.bool (fewGo rs 0 0)) ∧ w' = w := by
  obtain ⟨p, c, rfl, hp⟩ := H.at_
  have HP := Aside.mk hp
  have HOK := Aside.mk H.ok
  clear hp H
  go_enter Try.func29, Try.ntmps29
  go_wp2_with fail
  go_loopw [3, 4] (fun m i wr => wr = w ∧ ∃ n k : Nat, m = .int .i64 n ∧ i = .int .i64 k ∧ k ≤ rs.length ∧ n ≤ 60080 ∧ Aside (fewGo rs 0 0 = fewGo (rs.drop k) k n)) (fun _ i _ => rs.length - (intOf i).toNat)
  case atStart => exact ⟨rfl, 0, 0, rfl, rfl, by omega, by omega, ⟨by simp⟩⟩
  case round =>
    obtain ⟨rfl, n, k, rfl, rfl, hk, hn2, HG⟩ := hrel
    by_cases hkl : k < rs.length
    · have q1 : decide ((k : Int) < (rs.length : Int)) = true := by simp; omega
      have hne : rs ≠ [] := by rintro rfl; simp at hkl
      obtain ⟨b, off, rfl, hx⟩ := HP.out hne
      have hxk := hx k rs[k] (List.getElem?_eq_getElem hkl)
      have hdr : rs.drop k = rs[k] :: rs.drop (k + 1) := List.drop_eq_getElem_cons hkl
      have hok : rs[k].Ok := HOK.out _ (List.getElem_mem hkl)
      generalize rs[k] = r at *
      have hb : wr.cell? ⟨b, off + k * 66 + 65, none⟩ = some (.string ⟨r.body.toArray⟩) := hxk 65 _ (recL_body hok)
      have hbz : (ByteArray.mk r.body.toArray).size = r.body.length := by simp [ByteArray.size]
      have HG2 : Aside (fewGo rs 0 0 = if 200 ≤ k ∨ 30000 < r.body.length ∨ 30000 < n then false else fewGo (rs.drop (k + 1)) (k + 1) (n + r.body.length + 80)) := ⟨by rw [HG.out, hdr, fewGo]⟩
      clear hdr hxk hx
      by_cases c1 : 200 ≤ k
      · have d1 : decide ((200 : Int) ≤ (k : Int)) = true := by simp; omega
        have HR : Aside (fewGo rs 0 0 = false) := ⟨by rw [HG2.out, if_pos (.inl c1)]⟩
        go_wp2
        go_ret
        rw [HR.out]; exact ⟨rfl, rfl⟩
      by_cases c2 : 30000 < r.body.length
      · have d1 : decide ((200 : Int) ≤ (k : Int)) = false := by simp; omega
        have d2 : decide ((30000 : Int) < (r.body.length : Int)) = true := by simp; omega
        have HR : Aside (fewGo rs 0 0 = false) := ⟨by rw [HG2.out, if_pos (.inr (.inl c2))]⟩
        go_wp2
        go_ret
        rw [HR.out]; exact ⟨rfl, rfl⟩
      by_cases c3 : 30000 < n
      · have d1 : decide ((200 : Int) ≤ (k : Int)) = false := by simp; omega
        have d2 : decide ((30000 : Int) < (r.body.length : Int)) = false := by simp; omega
        have d3 : decide ((30000 : Int) < (n : Int)) = true := by simp; omega
        have HR : Aside (fewGo rs 0 0 = false) := ⟨by rw [HG2.out, if_pos (.inr (.inr c3))]⟩
        go_wp2
        go_ret
        rw [HR.out]; exact ⟨rfl, rfl⟩
      have d1 : decide ((200 : Int) ≤ (k : Int)) = false := by simp; omega
      have d2 : decide ((30000 : Int) < (r.body.length : Int)) = false := by simp; omega
      have d3 : decide ((30000 : Int) < (n : Int)) = false := by simp; omega
      have HR : Aside (fewGo rs 0 0 = fewGo (rs.drop (k + 1)) (k + 1) (n + r.body.length + 80)) := ⟨by rw [HG2.out, if_neg (by omega)]⟩
      go_wp2
      go_roundw
      case rel => exact ⟨trivial, n + r.body.length + 80, k + 1, rfl, rfl, by omega, by omega, HR⟩
      case measure => simp [intOf]; omega
    · have q1 : decide ((k : Int) < (rs.length : Int)) = false := by simp; omega
      have hk2 : rs.drop k = [] := List.drop_of_length_le (by omega)
      have HR : Aside (fewGo rs 0 0 = decide (n ≤ 60000)) := ⟨by rw [HG.out, hk2]; rfl⟩
      have q3 : decide ((n : Int) ≤ 60000) = decide (n ≤ 60000) := by congr 1; simp; omega
      clear hk2
      generalize decide (n ≤ 60000) = d at *
      go_wp2
      go_ret
      rw [HR.out]; exact ⟨rfl, rfl⟩
end Go.Proofs.Ytodhkdmkkjhnnaa
