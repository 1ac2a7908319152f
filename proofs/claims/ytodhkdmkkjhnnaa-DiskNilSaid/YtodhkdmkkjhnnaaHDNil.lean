/- The row DiskNil. -/
import Derived.Test.YtodhkdmkkjhnnaaRow
import Derived.Test.YtodhkdmkkjhnnaaDiskNil
namespace Go.Proofs.Ytodhkdmkkjhnnaa
open Go.ChangeShapes Go.WideShapes Go.ChangeAt Go.RowKit
open Go.ChangeMaps (open_string shut_string)

theorem array7 {α : Type} {cs : Array α} (h : cs.size = 7) : ∃ c0 c1 c2 c3 c4 c5 c6, cs = #[c0, c1, c2, c3, c4, c5, c6] := by
  obtain ⟨l⟩ := cs
  match l, h with
  | [c0, c1, c2, c3, c4, c5, c6], _ => exact ⟨c0, c1, c2, c3, c4, c5, c6, rfl⟩

set_option maxRecDepth 100000 in
theorem open_op {H : Type} {enc : TypeId × Value → H} {W : World} {base : Nat} {sp : Nat → Bool} {hd : Bool} {rc : Reach} {b0 : Nat} {u : Value} {d : DataW H} {p : List MemPlace}
    (hv : Value.okWide Try.prog W rc b0 112 u) (h : DataW.Trod enc Try.prog W base sp hd 112 u d p) : ∃ k t f a z s v, u = .agg (opV k t f a z s v) := by
  obtain ⟨cs, rfl, hsz⟩ := okWide_struct Try.underlying112 hv
  have c7 : Try.prog.cellsOf 112 = 7 := by kernel_rfl
  have ci : Try.prog.cellsOf 3 = 1 := by kernel_rfl
  have cst : Try.prog.cellsOf 9 = 1 := by kernel_rfl
  obtain ⟨x0, x1, x2, x3, x4, x5, x6, rfl⟩ := array7 (hsz.trans c7)
  obtain ⟨fuel, hf⟩ := h
  obtain ⟨xs, n, _, _, hl, hlen, hx⟩ := DataW.trod_struct Try.underlying112 hf
  match xs, hlen with
  | [y0, y1, y2, y3, y4, y5, y6], _ =>
    have e0 : DataW.trod enc Try.prog W base sp hd n 3 ([x0, x1, x2, x3, x4, x5, x6].drop 0 |>.take (Try.prog.cellsOf 3)) = some y0 := hx 0 _ rfl
    rw [ci] at e0
    have e1 : DataW.trod enc Try.prog W base sp hd n 3 ([x0, x1, x2, x3, x4, x5, x6].drop 1 |>.take (Try.prog.cellsOf 3)) = some y1 := hx 1 _ rfl
    rw [ci] at e1
    have e2 : DataW.trod enc Try.prog W base sp hd n 3 ([x0, x1, x2, x3, x4, x5, x6].drop 2 |>.take (Try.prog.cellsOf 3)) = some y2 := hx 2 _ rfl
    rw [ci] at e2
    have e3 : DataW.trod enc Try.prog W base sp hd n 3 ([x0, x1, x2, x3, x4, x5, x6].drop 3 |>.take (Try.prog.cellsOf 3)) = some y3 := hx 3 _ rfl
    rw [ci] at e3
    have e4 : DataW.trod enc Try.prog W base sp hd n 3 ([x0, x1, x2, x3, x4, x5, x6].drop 4 |>.take (Try.prog.cellsOf 3)) = some y4 := hx 4 _ rfl
    rw [ci] at e4
    have e5 : DataW.trod enc Try.prog W base sp hd n 9 ([x0, x1, x2, x3, x4, x5, x6].drop 5 |>.take (Try.prog.cellsOf 9)) = some y5 := hx 5 _ rfl
    rw [cst] at e5
    obtain ⟨k, h0, _, _⟩ := DataW.trod_int Try.underlying3 e0
    obtain ⟨t, h1, _, _⟩ := DataW.trod_int Try.underlying3 e1
    obtain ⟨f, h2, _, _⟩ := DataW.trod_int Try.underlying3 e2
    obtain ⟨a, h3, _, _⟩ := DataW.trod_int Try.underlying3 e3
    obtain ⟨z, h4, _, _⟩ := DataW.trod_int Try.underlying3 e4
    obtain ⟨s, h5, _, _⟩ := DataW.trod_string Try.underlying9 e5
    have g0 : x0 = .int .i64 k := by simpa [Value.cells] using h0
    have g1 : x1 = .int .i64 t := by simpa [Value.cells] using h1
    have g2 : x2 = .int .i64 f := by simpa [Value.cells] using h2
    have g3 : x3 = .int .i64 a := by simpa [Value.cells] using h3
    have g4 : x4 = .int .i64 z := by simpa [Value.cells] using h4
    have g5 : x5 = .string s := by simpa [Value.cells] using h5
    subst g0; subst g1; subst g2; subst g3; subst g4; subst g5
    exact ⟨k, t, f, a, z, s, x6, rfl⟩

set_option maxRecDepth 100000 in
theorem dnil_lifted (os : Os) (started : os.Started) (H : Type) (enc : TypeId × Value → H) :
    ReturnsInHanded {} Try.checked os 14 .any (Rows.diskNilSpec.pre6 enc Try.prog Try.f14 Rows.diskNilRow.domain false) (Rows.diskNilSpec.post enc Try.prog Try.f14 false true false false) := by
  refine returnsInHanded_of_change (C := Try.checked) Try.ownK started (by kernel_rfl) Try.func14
    (ChangeSpec.witness6 (enc := enc) (C := Try.checked) false ⟨#[], #[.agg #[.int .i64 0, .int .i64 0, .int .i64 0, .int .i64 0, .int .i64 0, .string ⟨#[]⟩, .slice none 0 0]], []⟩ 8 (by kernel_rfl) (by kernel_rfl) (by kernel_rfl) (by kernel_rfl)) ?_
  intro W base args ds gs before hval0 hW hcnd _
  have hval : ∀ (j : Nat) t v, Try.f14.params[j]? = some t → args[j]? = some v → Value.okWide Try.prog W .any base t v := hval0
  have hW' := hW
  obtain ⟨p, q, hA0, hV, rfl, hfz, hnd⟩ := hW
  have hA : DataW.TrodAll enc Try.prog W 0 (fun _ => true) true Try.f14.params.toList args.toList ds p := hA0
  rw [Try.params14] at hA hval
  obtain ⟨v0, d0, rfl, rfl, h0⟩ := trodAll_one hA
  obtain ⟨rfl, rfl⟩ := trodVars_none hV
  obtain ⟨k, t, f, a, z, s, v, rfl⟩ := open_op (hval 0 _ v0 rfl rfl) h0
  exact row_true rfl (by kernel_rfl) rfl ⟨rfl, rfl, rfl⟩ hW' (dnil_any W k t f a z s v)

theorem dnil_holds : Rows.DiskNilSaid :=
  OpenClaim.holds_of_wide 14 Try.f14 rfl rfl rfl rfl rfl rfl rfl ⟨rfl, rfl, rfl, rfl, rfl⟩ rfl rfl rfl rfl rfl (by kernel_rfl) Try.func14 (by kernel_rfl)
    (of_decide_eq_true (by kernel_rfl)) (by unfold Func.isWrapper; first | (rw [if_pos (by decide +kernel)]; kernel_rfl) | (rw [if_neg (by decide +kernel)]; exact ⟨rfl, rfl⟩))
    (fun os started H enc _ => dnil_lifted os started H enc)
#print axioms dnil_holds
end Go.Proofs.Ytodhkdmkkjhnnaa
