/- A parameter of strings: what is read of it; silolaw12.few. -/
import Derived.Test.YtodhkdmkkjhnnaaFewR
import Derived.Test.YtodhkdmkkjhnnaaWalS
set_option linter.unusedVariables false
set_option linter.unusedSimpArgs false
namespace Go.Proofs.Ytodhkdmkkjhnnaa
open Go.RowKit

/-- v is a slice that holds these strings, wherever it lies. -/
def isSs (w : World) (v : Value) (ss : List ByteArray) : Prop := ∃ p c, v = .slice p ss.length c ∧ (ss ≠ [] → ∃ b off, p = some ⟨b, off, none⟩ ∧ ∀ i s, ss[i]? = some s → w.cell? ⟨b, off + i, none⟩ = some (.string s))
theorem isSs.keep {w w1 : World} {v : Value} {ss : List ByteArray} (h : isSs w v ss) (hf : Fr (fun _ => False) w w1) : isSs w1 v ss := by
  obtain ⟨p, c, hv, hr⟩ := h
  refine ⟨p, c, hv, fun hne => ?_⟩
  obtain ⟨b, off, hp, hx⟩ := hr hne
  exact ⟨b, off, hp, fun i r hi => hf.cell (hx i r hi)⟩

def fewS : List ByteArray → Nat → Nat → Bool
  | [], _, n => decide (n ≤ 30000)
  | s :: ss, i, n => if 200 ≤ i ∨ 30000 < s.size ∨ 30000 < n then false else fewS ss (i + 1) (n + s.size)
def sizes (ss : List ByteArray) : Nat := (ss.map ByteArray.size).sum
theorem fewS_true : ∀ {ss : List ByteArray} {i n : Nat}, fewS ss i n = true → n + sizes ss ≤ 30000 ∧ (ss ≠ [] → i + ss.length ≤ 200) := by
  intro ss
  induction ss with
  | nil => intro i n h; simp [fewS] at h; exact ⟨by simpa [sizes] using h, by simp⟩
  | cons s ss ih =>
    intro i n h
    unfold fewS at h
    split at h
    · simp at h
    · rename_i hc
      obtain ⟨h1, h2⟩ := ih h
      refine ⟨by simp only [sizes, List.map_cons, List.sum_cons] at h1 ⊢; omega, fun _ => ?_⟩
      by_cases he : ss = []
      · subst he; simp; omega
      · have := h2 he; simp only [List.length_cons]; omega

set_option maxHeartbeats 3200000 in
set_option maxRecDepth 100000 in
theorem few12_any (w : World) (v : Value) (ss : List ByteArray) (hn : ss.length ≤ 9223372036854775807) (H : isSs w v ss) : Calls Try.prog 32 #[v] w fun e w' => e = .returned (.bool (fewS ss 0 0)) ∧ w' = w := by
  obtain ⟨p, c, rfl, hp⟩ := H
  have HP := Aside.mk hp
  clear hp
  go_enter Try.func32, Try.ntmps32
  go_wp2_with fail
  go_loopw [3, 4] (fun m i wr => wr = w ∧ ∃ n k : Nat, m = .int .i64 n ∧ i = .int .i64 k ∧ k ≤ ss.length ∧ n ≤ 60000 ∧ Aside (fewS ss 0 0 = fewS (ss.drop k) k n)) (fun _ i _ => ss.length - (intOf i).toNat)
  case atStart => exact ⟨rfl, 0, 0, rfl, rfl, by omega, by omega, ⟨by simp⟩⟩
  case round =>
    obtain ⟨rfl, n, k, rfl, rfl, hk, hn2, HG⟩ := hrel
    by_cases hkl : k < ss.length
    · have q1 : decide ((k : Int) < (ss.length : Int)) = true := by simp; omega
      have hne : ss ≠ [] := by rintro rfl; simp at hkl
      obtain ⟨b, off, rfl, hx⟩ := HP.out hne
      have hb := hx k ss[k] (List.getElem?_eq_getElem hkl)
      have hdr : ss.drop k = ss[k] :: ss.drop (k + 1) := List.drop_eq_getElem_cons hkl
      generalize ss[k] = s at *
      have HG2 : Aside (fewS ss 0 0 = if 200 ≤ k ∨ 30000 < s.size ∨ 30000 < n then false else fewS (ss.drop (k + 1)) (k + 1) (n + s.size)) := ⟨by rw [HG.out, hdr, fewS]⟩
      clear hdr hx
      by_cases c1 : 200 ≤ k
      · have d1 : decide ((200 : Int) ≤ (k : Int)) = true := by simp; omega
        have HR : Aside (fewS ss 0 0 = false) := ⟨by rw [HG2.out, if_pos (.inl c1)]⟩
        go_wp2
        go_ret
        rw [HR.out]; exact ⟨rfl, rfl⟩
      by_cases c2 : 30000 < s.size
      · have d1 : decide ((200 : Int) ≤ (k : Int)) = false := by simp; omega
        have d2 : decide ((30000 : Int) < (s.size : Int)) = true := by simp; omega
        have HR : Aside (fewS ss 0 0 = false) := ⟨by rw [HG2.out, if_pos (.inr (.inl c2))]⟩
        go_wp2
        go_ret
        rw [HR.out]; exact ⟨rfl, rfl⟩
      by_cases c3 : 30000 < n
      · have d1 : decide ((200 : Int) ≤ (k : Int)) = false := by simp; omega
        have d2 : decide ((30000 : Int) < (s.size : Int)) = false := by simp; omega
        have d3 : decide ((30000 : Int) < (n : Int)) = true := by simp; omega
        have HR : Aside (fewS ss 0 0 = false) := ⟨by rw [HG2.out, if_pos (.inr (.inr c3))]⟩
        go_wp2
        go_ret
        rw [HR.out]; exact ⟨rfl, rfl⟩
      have d1 : decide ((200 : Int) ≤ (k : Int)) = false := by simp; omega
      have d2 : decide ((30000 : Int) < (s.size : Int)) = false := by simp; omega
      have d3 : decide ((30000 : Int) < (n : Int)) = false := by simp; omega
      have HR : Aside (fewS ss 0 0 = fewS (ss.drop (k + 1)) (k + 1) (n + s.size)) := ⟨by rw [HG2.out, if_neg (by omega)]⟩
      go_wp2
      go_roundw
      case rel => exact ⟨trivial, n + s.size, k + 1, rfl, rfl, by omega, by omega, HR⟩
      case measure => simp [intOf]; omega
    · have q1 : decide ((k : Int) < (ss.length : Int)) = false := by simp; omega
      have hk2 : ss.drop k = [] := List.drop_of_length_le (by omega)
      have HR : Aside (fewS ss 0 0 = decide (n ≤ 30000)) := ⟨by rw [HG.out, hk2]; rfl⟩
      have q3 : decide ((n : Int) ≤ 30000) = decide (n ≤ 30000) := by congr 1; simp; omega
      clear hk2
      generalize decide (n ≤ 30000) = d at *
      go_wp2
      go_ret
      rw [HR.out]; exact ⟨rfl, rfl⟩

/-- The frames, one behind the other. -/
def frames (ss : List ByteArray) : List UInt8 := (ss.map fun s => frameB s.data.toList).flatten
theorem frames_take (ss : List ByteArray) (k : Nat) (s : ByteArray) (h : ss[k]? = some s) : frames (ss.take (k + 1)) = frames (ss.take k) ++ frameB s.data.toList := by
  obtain ⟨hk, hr⟩ := List.getElem?_eq_some_iff.1 h
  unfold frames
  rw [List.take_succ_eq_append_getElem hk, hr]
  simp
theorem frameB_len (s : ByteArray) (h : s.size ≤ 1000000000) : (frameB s.data.toList).length ≤ s.size + 20 := by
  have hl := ba_size s
  have := gs_len s.data.toList.length 64 (by omega)
  unfold frameB
  rw [Crc.put_len, List.length_append]; omega
theorem frames_len : ∀ (ss : List ByteArray) (h : sizes ss ≤ 1000000000), (frames ss).length ≤ sizes ss + 20 * ss.length := by
  intro ss
  induction ss with
  | nil => intro _; simp [frames]
  | cons s ss ih =>
    intro h
    unfold sizes at h
    simp only [List.map_cons, List.sum_cons] at h
    have h1 := frameB_len s (by omega)
    have h2 := ih (by unfold sizes; omega)
    unfold frames sizes at *
    simp only [List.map_cons, List.flatten_cons, List.length_append, List.sum_cons, List.length_cons]
    omega
theorem frames_le (ss : List ByteArray) (k : Nat) : (frames (ss.take k)).length ≤ (frames ss).length := by
  have e : ss = ss.take k ++ ss.drop k := (List.take_append_drop k ss).symm
  have : (frames ss).length = (frames (ss.take k)).length + (frames (ss.drop k)).length := by
    conv => lhs; rw [e]
    unfold frames
    rw [List.map_append, List.flatten_append, List.length_append]
  omega
theorem size_le : ∀ (ss : List ByteArray) (s : ByteArray), s ∈ ss → s.size ≤ sizes ss := by
  intro ss
  induction ss with
  | nil => intro r h; simp at h
  | cons x xs ih =>
    intro r h
    unfold sizes at *
    simp only [List.map_cons, List.sum_cons]
    rcases List.mem_cons.1 h with rfl | h
    · omega
    · have := ih r h; omega
end Go.Proofs.Ytodhkdmkkjhnnaa
