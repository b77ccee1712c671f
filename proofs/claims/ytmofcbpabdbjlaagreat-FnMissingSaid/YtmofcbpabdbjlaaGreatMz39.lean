/-
  What is proved: the rule for regions that draw their order, where one operation may also come up late, when others that wait have begun.
  Condition: none beyond those of the theorems.
-/
import Derived.Test.YtmofcbpabdbjlaaGreatMz3
namespace Go.Proofs.YtmofcbpabdbjlaaGreat.J

set_option maxRecDepth 8000

open Go

set_option linter.unusedSimpArgs false

set_option linter.unusedVariables false

section

variable {P : Program} {ops : Array Oper} {Q : Exit → Act → World → Prop} {md : Region.Mode}

def jokE (md : Region.Mode) (ops : Array Oper) (n : Nat) (D : List Nat) (deps : Nat → List Nat) (el : Nat) : Bool :=
  decide D.Nodup && Region.noSelect ops &&
  (D.all fun i => match ops[i]? with
    | none => false
    | some o =>
      (deps i).all (fun k => D.contains k && (anc md ops ops.size i).contains k && (deps k).all fun m => (deps i).contains m) &&
      (match o.guard with | none => true | some (g, _) => (deps i).contains g && (dstOf ops g).isSome) &&
      (dstOf ops i).isSome &&
      D.all (fun j => match dstOf ops j with
        | none => true
        | some t => decide (t < n) && (i == j || dstOf ops i != some t) && (!(looks ops o).contains t || (deps i).contains j))) &&
  ((List.range ops.size).all fun i => D.contains i || D.all fun k => k == el || (anc md ops ops.size i).contains k) &&
  ((List.range ops.size).all fun i => match ops[i]? with
    | none => true
    | some o => o.after.all fun e => !Region.binds md e || decide (e.on < i)) && D.contains el

structure FactsE (P : Program) (md : Region.Mode) (ops : Array Oper) (n : Nat) (D : List Nat) (deps : Nat → List Nat) (el : Nat) (a0 : Act)
    (A : (Nat → Yv) → Act) (F : Nat → (Nat → Yv) → Yv → Prop) (w0 : World) (L : List Res) : Prop where
  act : ∀ vs, putL ops (fun k => (vs k).1) D a0 = A vs
  ok : jokE md ops n D deps el = true
  size : a0.tmps.size = n
  step : ∀ i ∈ D, ∀ o, ops[i]? = some o → ∀ (vs : Nat → Yv) (M : List Res) (w : World), Own w0 (L ++ M) w → (∀ k ∈ deps i, F k (restr (deps k) vs) (vs k) ∧ (vs k).2.Sublist M) → vs = restr (deps i) vs →
    if wantedV o (fun k => (vs k).1) = true then ∀ K : Act → World → Prop, (∀ v N w', F i vs (v, N) → Own w0 (L ++ M ++ N) w' → K ((A vs).put o.dst v) w') → o.wp P (A vs) w K noQ
    else F i vs (undef, [])

end

end Go.Proofs.YtmofcbpabdbjlaaGreat.J
