/- The rows' common end: a law that returns true and turns nothing of what was there; arguments opened. -/
import Derived.Test.YtodhkdmkkjhnnaaRows
import Derived.ProofKit
import Derived.OpenShut
import Derived.Lib.SmallJoins
import Derived.Test.YtodhkdmkkjhnnaaRecBuild
set_option linter.unusedVariables false
namespace Go.Proofs.Ytodhkdmkkjhnnaa
open Go.ChangeShapes Go.WideShapes Go.ChangeAt Go.RowKit
open Go.ChangeMaps (open_string shut_string)

theorem Try.ownK : ownKnob Try.prog.godebug = none := by kernel_rfl
theorem Try.laidO : laidOutB Try.prog = true := by kernel_rfl

variable {H : Type} {enc : TypeId × Value → H}

theorem trodAll_below {P : Program} (hl : laidOutB P = true) {W W' : World} (hb : Below W.heap.size W W') : ∀ (ts : List TypeId) (vs : List Value) (ds : List (DataW H)) (ps : List MemPlace),
    ts.all (fun t => P.readableRec t && decide (t < P.types.size)) = true → (∀ x ∈ ps, x.block < W.heap.size) → DataW.TrodAll enc P W 0 (fun _ => true) true ts vs ds ps → DataW.TrodAll enc P W' 0 (fun b => decide (b < W.heap.size)) true ts vs ds ps := by
  intro ts
  induction ts with
  | nil => intro vs ds ps _ _ h; match vs, ds, h with | [], [], h => exact h
  | cons t ts ih =>
    intro vs ds ps ha hlt h
    match vs, ds, h with
    | v :: vs, d :: ds, ⟨p, q, h1, h2, hps⟩ =>
      subst hps
      simp only [List.all_cons, Bool.and_eq_true, decide_eq_true_eq] at ha
      exact ⟨p, q, Below.trod hl ha.1.1 ha.1.2 h1 hb (fun x hx => hlt x (by simp [hx])), ih vs ds q ha.2 (fun x hx => hlt x (by simp [hx])) h2, rfl⟩

/-- The end of a row: the law returned true; below the heap's old size nothing has turned. -/
theorem row_true {n : FuncId} {f : Func} {s : ChangeSpec} {W : World} {args : Array Value} {ds gs : List (DataW H)} {before : List MemPlace}
    (hf : f.resultTypes = #[4]) (hp : f.params.toList.all (fun t => Try.prog.readableRec t && decide (t < Try.prog.types.size)) = true) (hv : s.vars = [])
    (hs : (s.fn H (ds ++ gs)).results = [.lit (.bool true)] ∧ (s.fn H (ds ++ gs)).args = ds ∧ (s.fn H (ds ++ gs)).vars = [])
    (hW : DataW.Whole enc Try.prog f.params.toList s.vars false W args.toList ds gs before)
    (hC : Calls Try.prog n args W fun e w' => e = .returned (.bool true) ∧ Fr (fun _ => False) W w') :
    Calls Try.prog n args W fun e W' => ∃ v, e = .returned v ∧ s.post enc Try.prog f false true false false W args v W' := by
  refine hC.mono fun e W' ⟨he, hfr⟩ => ?_
  subst he
  have hb := hfr.none_
  have hW' := hW
  obtain ⟨p, q, hA, hV, rfl, hz, hnd⟩ := hW
  rw [hv] at hV
  have hq : q = [] := by
    match gs, hV with
    | [], hV => exact hV
  subst hq
  refine ⟨_, rfl, ?_⟩
  refine ⟨ds, gs, p ++ [], [], p, [], hW', ?_, ?_, ?_, ?_, ?_⟩
  · rw [hf, hs.1]
    exact trodAll_mk1 (shut_bool Try.underlying4 true)
  · rw [hs.2.1]
    exact trodAll_below Try.laidO hb _ _ _ _ hp (fun x hx => hW'.lt x (by simpa using hx)) hA
  · rw [hs.2.2, hv]; rfl
  · exact hb.frame _
  · intro h; exact absurd h (by decide)

/-- Cells that are bytes, each, are bytes. -/
theorem bytes_of : ∀ (cs : List Value), (∀ i, i < cs.length → ∃ b : UInt8, cs[i]? = some (byt b)) → ∃ bs : List UInt8, cs = bs.map byt := by
  intro cs
  induction cs with
  | nil => intro _; exact ⟨[], rfl⟩
  | cons c cs ih =>
    intro h
    obtain ⟨b, hb⟩ := h 0 (by simp)
    obtain ⟨bs, rfl⟩ := ih (fun i hi => by obtain ⟨b, hb⟩ := h (i + 1) (by simp; omega); exact ⟨b, by simpa using hb⟩)
    exact ⟨b :: bs, by simp at hb; simp [hb]⟩

theorem byt_wf {n : Int} (h : (Lit.int .u8 n).wf = true) : ∃ b : UInt8, Value.int .u8 n = byt b := by
  have h2 := bounds_u8 h
  refine ⟨UInt8.ofNat n.toNat, ?_⟩
  simp only [byt, UInt8.toNat_ofNat']
  congr 1; omega

theorem open_key {W : World} {base : Nat} {sp : Nat → Bool} {hd : Bool} {fuel : Nat} {cs : List Value} {x : DataW H × List MemPlace} {t : TypeId} (ht : Try.prog.underlying t = some (.array 32 5)) (hc : Try.prog.cellsOf t = 32)
    (h : DataW.trod enc Try.prog W base sp hd fuel t cs = some x) : ∃ k : List UInt8, k.length = 32 ∧ cs = k.map byt := by
  obtain ⟨xs, m, _, _, hlen, hxl, hel⟩ := DataW.trod_array ht h
  rw [hc] at hlen
  have h1 : Try.prog.cellsOf 5 = 1 := by kernel_rfl
  obtain ⟨bs, rfl⟩ := bytes_of cs (fun i hi => by
    have hi2 : i < 32 := by omega
    have he := hel i hi2
    rw [h1, Nat.mul_one, List.getElem?_eq_getElem (by omega)] at he
    obtain ⟨n, hcs, _, hwf⟩ := DataW.trod_int Try.underlying5 he
    obtain ⟨b, hb⟩ := byt_wf hwf
    refine ⟨b, ?_⟩
    rw [← hb]
    have : ((cs.drop i).take 1)[0]? = some (Value.int .u8 n) := by rw [hcs]; rfl
    simpa using this)
  exact ⟨bs, by simpa using hlen, rfl⟩

set_option maxRecDepth 100000 in
theorem open_rec {W : World} {base : Nat} {sp : Nat → Bool} {hd : Bool} {rc : Reach} {b0 : Nat} {v : Value} {d : DataW H} {p : List MemPlace}
    (hv : Value.okWide Try.prog W rc b0 25 v) (h : DataW.Trod enc Try.prog W base sp hd 25 v d p) : ∃ r : Rec, r.Ok ∧ v = recV r := by
  obtain ⟨cs, rfl, hsz⟩ := okWide_struct Try.underlying25 hv
  obtain ⟨fuel, hf⟩ := h
  rw [show (Value.agg cs).cells = cs from rfl] at hf
  obtain ⟨y0, y1, y2, y3, n, _, hl, h0, h1, h2, h3⟩ := Go.Joins.trod_struct4 Try.underlying25 hf
  have c66 : Try.prog.cellsOf 25 = 66 := by kernel_rfl
  have c32 : Try.prog.cellsOf 23 = 32 := by kernel_rfl
  have cb : Try.prog.cellsOf 4 = 1 := by kernel_rfl
  have cst : Try.prog.cellsOf 9 = 1 := by kernel_rfl
  rw [c66] at hl
  simp only [c32, cb, cst] at h0 h1 h2 h3
  obtain ⟨k, hk, e0⟩ := open_key Try.underlying23 c32 h0
  obtain ⟨b, hb, e1⟩ := open_key Try.underlying23 c32 h1
  obtain ⟨pt, e2, _⟩ := DataW.trod_bool Try.underlying4 h2
  obtain ⟨s, e3, _, _⟩ := DataW.trod_string Try.underlying9 h3
  refine ⟨⟨k, b, pt, s.data.toList⟩, ⟨hk, hb⟩, ?_⟩
  have : cs.toList = recL ⟨k, b, pt, s.data.toList⟩ := by
    have hA : cs.toList = (cs.toList.drop 0).take 32 ++ ((cs.toList.drop 32).take 32 ++ ((cs.toList.drop 64).take 1 ++ (cs.toList.drop 65).take 1)) := by
      have q1 : (cs.toList.drop 65).take 1 = cs.toList.drop 65 := List.take_of_length_le (by simp only [List.length_drop]; omega)
      rw [q1]
      have q2 : (cs.toList.drop 64).take 1 ++ cs.toList.drop 65 = cs.toList.drop 64 := by
        rw [show cs.toList.drop 65 = (cs.toList.drop 64).drop 1 by rw [List.drop_drop]]; exact List.take_append_drop 1 _
      rw [q2]
      have q3 : (cs.toList.drop 32).take 32 ++ cs.toList.drop 64 = cs.toList.drop 32 := by
        rw [show cs.toList.drop 64 = (cs.toList.drop 32).drop 32 by rw [List.drop_drop]]; exact List.take_append_drop 32 _
      rw [q3, List.drop_zero, List.take_append_drop]
    rw [hA, e0, e1, e2, e3]
    rfl
  unfold recV
  rw [← this]
end Go.Proofs.Ytodhkdmkkjhnnaa
