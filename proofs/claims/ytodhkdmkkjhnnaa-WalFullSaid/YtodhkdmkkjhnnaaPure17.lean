/- What is taken is packed so: plain words. -/
import Derived.Test.YtodhkdmkkjhnnaaBoxOpen
set_option linter.unusedVariables false
namespace Go.Proofs.Ytodhkdmkkjhnnaa

theorem numGo_gs (l : List UInt8) : ∀ f x i n neg m, (f = true → x = 0) → (f = false → 0 < x) → numGo l f x i = (n, neg, m, 0) → i ≤ m ∧ (digs x).map UInt8.ofNat ++ l.take (m - i) = gs n (if neg then 128 else 64) := by
  induction l with
  | nil => intro f x i n neg m _ _ h; simp [numGo] at h
  | cons c l ih =>
    intro f x i n neg m h0 h1 h
    unfold numGo at h
    split at h
    · simp at h
    · rename_i hb
      have hc : c.toNat ≤ 191 := by
        rcases Nat.lt_or_ge 191 c.toNat with q | q
        · exact absurd (.inl q) hb
        · exact q
      split at h
      · rename_i hm
        simp only [Prod.mk.injEq] at h
        obtain ⟨rfl, rfl, rfl, -⟩ := h
        refine ⟨by omega, ?_⟩
        have hd : (64 * x + c.toNat % 64) / 64 = x := by omega
        have hr : (64 * x + c.toNat % 64) % 64 = c.toNat % 64 := by omega
        rw [show i + 1 - i = 1 by omega]
        unfold gs
        rw [hd, hr]
        congr 1
        simp only [List.take_succ_cons, List.take_zero]
        congr 1
        apply UInt8.toNat_inj.1
        rw [UInt8.toNat_ofNat']
        by_cases h127 : 127 < c.toNat
        · simp [h127]; omega
        · simp [h127]; omega
      · rename_i hm
        have hx' : 0 < 64 * x + c.toNat % 64 := by
          cases f with
          | true =>
            have : c.toNat ≠ 0 := fun q => hb (.inr (.inr ⟨rfl, q⟩))
            omega
          | false => have := h1 rfl; omega
        obtain ⟨hm1, he⟩ := ih false _ _ n neg m (by simp) (fun _ => hx') h
        refine ⟨by omega, ?_⟩
        rw [digs_pos hx', show (64 * x + c.toNat % 64) / 64 = x by omega, show (64 * x + c.toNat % 64) % 64 = c.toNat by omega] at he
        rw [← he, show m - i = (m - (i + 1)) + 1 by omega, List.take_succ_cons]
        simp

theorem rdCount_gs {l : List UInt8} {n c : Nat} (h : rdCount l = (n, c, 0)) : gs n 64 = l.take c := by
  unfold rdCount at h
  split at h
  · rename_i q; simp at h; omega
  · split at h
    · simp at h
    · rename_i q1 q2
      simp only [Prod.mk.injEq] at h
      have e : numGo l true 0 0 = (n, false, c, 0) := by
        have : num l = (n, false, c, 0) := by
          rw [show num l = ((num l).1, (num l).2.1, (num l).2.2.1, (num l).2.2.2) from rfl, h.1, h.2.1]
          simp at q1 q2; rw [q1, q2]
        exact this
      have h2 := (numGo_gs l true 0 0 n false c (fun _ => rfl) (by simp) e).2
      rw [digs_zero] at h2
      simpa using h2.symm

theorem rdText_gs {l b : List UInt8} {m : Nat} (h : rdText l = (b, m, 0)) : gs b.length 64 ++ b = l.take m := by
  unfold rdText at h
  split at h
  · rename_i q; simp at h; omega
  · split at h
    · simp at h
    · rename_i q1 q2
      simp only [Prod.mk.injEq] at h
      obtain ⟨rfl, rfl, -⟩ := h
      have e : rdCount l = ((rdCount l).1, (rdCount l).2.1, 0) := by
        simp at q1; rw [← q1]
      have hg := rdCount_gs e
      generalize rdCount l = Q at *
      have hlen : ((l.drop Q.2.1).take Q.1).length = Q.1 := by simp only [List.length_take]; omega
      rw [hlen, hg, List.take_add]

theorem rdBody_form {k b : List UInt8} {p : Bool} {l : List UInt8} {n a m : Nat} {r : Rec} (h : rdBody k b p l a = (r, m, 0)) :
    ∃ c, rdText l = (r.body, c, 0) ∧ r = ⟨k, b, p, r.body⟩ ∧ r.body.length ≤ 8192 ∧ m = a + c := by
  unfold rdBody at h
  split at h
  · rename_i q; simp at h; omega
  · split at h
    · simp at h
    · rename_i q1 q2
      simp only [Prod.mk.injEq] at h
      obtain ⟨rfl, rfl, -⟩ := h
      refine ⟨(rdText l).2.1, ?_, rfl, by simpa using q2, rfl⟩
      simp at q1
      show rdText l = ((rdText l).1, (rdText l).2.1, 0)
      rw [← q1]

theorem rdRec_form {t : List UInt8} {r : Rec} {n : Nat} (h : rdRec t = (r, n, 0)) : recB r = t.take n ∧ r.body.length ≤ 8192 ∧ (r.patch = false → r.base = zeros) := by
  unfold rdRec at h
  split at h
  · simp at h
  rename_i hs
  unfold rdKind at h
  split at h
  · rename_i q; simp at h; omega
  split at h
  · simp at h
  rename_i q1 q2
  have e : rdCount (t.drop 32) = ((rdCount (t.drop 32)).1, (rdCount (t.drop 32)).2.1, 0) := by
    simp at q1; rw [← q1]
  have hg := rdCount_gs e
  generalize rdCount (t.drop 32) = Q at *
  obtain ⟨k, c, e0⟩ := Q
  simp only at h q1 q2 hg
  split at h
  · rename_i q3
    subst q3
    split at h
    · simp at h
    obtain ⟨m, ht, hr, hl, hn⟩ := rdBody_form (n := 0) h
    have hx := rdText_gs ht
    refine ⟨?_, hl, ?_⟩
    · rw [hr, hn]
      simp only [recB, if_true]
      rw [hx, hg]
      simp only [List.drop_drop]
      rw [show 32 + c + 32 + m = 32 + (c + (32 + m)) by omega, List.take_add, List.take_add (i := c), List.take_add (i := 32)]
      simp only [List.drop_drop]
      simp only [List.append_assoc]

    · intro hp; rw [hr] at hp; simp at hp
  · rename_i q3
    obtain rfl : k = 0 := by omega
    obtain ⟨m, ht, hr, hl, hn⟩ := rdBody_form (n := 0) h
    have hx := rdText_gs ht
    refine ⟨?_, hl, fun _ => by rw [hr]⟩
    rw [hr, hn]
    simp only [recB]
    rw [hx]
    simp only [Bool.false_eq_true, if_false]
    rw [hg]
    rw [show 32 + c + m = 32 + (c + m) by omega, List.take_add, List.take_add (i := c)]

theorem take_ok {l t : List UInt8} (h : Crc.take l = (t, 0)) : Crc.put t = l := by
  unfold Crc.take at h
  split at h
  · simp at h
  · split at h
    · rename_i q; simp only [Prod.mk.injEq, and_true] at h; rw [← h]; exact q
    · simp at h

theorem openR_pack {l : List UInt8} {r : Rec} (h : openR l = (r, 0)) : packR r = (l, 0) := by
  unfold openR at h
  split at h
  · rename_i q; simp at h; omega
  split at h
  · rename_i q; simp at h; omega
  split at h
  · rename_i q1 q2 q3
    simp only [Prod.mk.injEq, and_true] at h
    have e1 : Crc.take l = ((Crc.take l).1, 0) := by simp at q1; rw [← q1]
    have hp := take_ok e1
    generalize (Crc.take l).1 = t at *
    have e2 : rdRec t = (r, (rdRec t).2.1, 0) := by simp at q2; rw [← h, ← q2]
    obtain ⟨h1, h2, h3⟩ := rdRec_form e2
    have h4 : t.take (rdRec t).2.1 = t := List.take_of_length_le (by simpa using q3)
    unfold packR
    rw [if_neg (by omega), if_neg (fun q => q.2 (h3 q.1)), h1, h4, hp]
  · simp at h
theorem openR_ok (l : List UInt8) : (openR l).1.Ok := by
  unfold openR; split
  · exact Rec.zero_ok
  · split
    · exact Rec.zero_ok
    · split
      · exact rdRec_ok _
      · exact Rec.zero_ok
end Go.Proofs.Ytodhkdmkkjhnnaa
