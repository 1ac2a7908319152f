/- A file on a disk with one file: its lookup, and its keeping. -/
import Derived.Test.YtodhkdmkkjhnnaaDiskRd
set_option linter.unusedVariables false
namespace Go.Proofs.Ytodhkdmkkjhnnaa
open Go.RowKit

theorem isF.keep {w w1 : World} {S : Nat → Prop} {f : Nat} {t sure : Int} {v : Value} {bs : List UInt8} (h : isF w f t v bs sure) (hf : Fr S w w1) (h1 : ¬ S f) (h2 : ∀ k, own v k → ¬ S k) : isF w1 f t v bs sure := ⟨hf.heap h.1 h1, h.2.keep hf h2⟩
theorem lk_yes (w : World) (m c b : Nat) (n : Int) (v : Value) (h : isM w m #[⟨.int .i64 n, v, b⟩] c) : (Instr.lookup 132 (.map (some m)) (.int .i64 n) false).run Try.prog w = .ok v w := by
  have q := lk_one w m c b n n v h
  rw [if_pos rfl] at q; exact q
theorem lk_not (w : World) (m c b : Nat) (n k : Int) (v : Value) (hn : n ≠ k) (h : isM w m #[⟨.int .i64 k, v, b⟩] c) : (Instr.lookup 132 (.map (some m)) (.int .i64 n) false).run Try.prog w = .ok (.pointer none) w := by
  have q := lk_one w m c b n k v h
  rw [if_neg hn] at q; exact q
end Go.Proofs.Ytodhkdmkkjhnnaa
