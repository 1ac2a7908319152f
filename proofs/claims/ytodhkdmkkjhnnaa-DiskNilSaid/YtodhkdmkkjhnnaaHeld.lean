/- The moves of a drawn region, with what they leave written out. -/
import Derived.Test.YtodhkdmkkjhnnaaBase
import Derived.OrdersHeld
import Derived.Deep.RegionHeld3
namespace Go.Proofs.Ytodhkdmkkjhnnaa
open Go.RowKit
section
variable {P : Program} {ops : Array Oper} {Q : Exit → Act → World → Prop} {md : Region.Mode} {S : World → Prop}
theorem startH {id : Nat} {a : Act} {w : World} (n : Nat) (L : Array Bool) (hm : P.follows .mixedOrders = true) (hn : ops.size = n) (hL : Array.replicate n false = L) (hS : S w.drew)
    (h : S w.drew → wpAnyH P .any ops Q S n L a w.drew) : (Code.region id ops true).wp P Q a w :=
  wp_region_held_drew hm hS (fun q => by rw [hn, hL]; exact h q)
theorem takeH {i : Nat} {oi : Oper} {v : Value} {fuel : Nat} {listed : Array Bool} {a : Act} {w : World} (d : Option Nat) (L : Array Bool) (hi : ops[i]? = some oi) (hd : oi.dst = d) (hL : listed.setIfInBounds i true = L)
    (hs : Region.noSelect ops = true) (hf : Region.free md ops listed i = true) (hr : (Region.ready md ops listed).contains i = true)
    (hQ : ∀ c a w, Q (.panic c) (a.put d v) w → Q (.panic c) a w) (hy : YieldsIf P ops S oi v a) (hS : S w)
    (h : wpAnyH P md ops Q S fuel L (a.put d v) w) : wpAnyH P md ops Q S (fuel + 1) listed a w := by
  subst hd; subst hL
  exact wpAnyH_take hi hs hf hr hQ hy hS h
theorem listH {fuel : Nat} {listed : Array Bool} {a : Act} {w : World} (L : Array Bool) (hL : listed = L) (h : wpAnyH P md ops Q S fuel L a w) : wpAnyH P md ops Q S fuel listed a w := by
  subst hL; exact h
end
end Go.Proofs.Ytodhkdmkkjhnnaa
