/- A step of a script on the plain disk. -/
import Derived.Test.YtcdcojpfealppaaXFront
set_option linter.unusedVariables false
set_option linter.unusedSimpArgs false
namespace Go.Proofs.XDisk
open Go.Proofs.XMaps
structure StepA where
  kind : Int
  name : ByteArray
  to_ : ByteArray
  at_ : Int
  n : Int
  data : Bytes
  plan : PlanA
  picks : List Int
def AD.lookAway (S : AD) : AD := { S with reads := [] }
def AD.doStep (S : AD) (x : StepA) : Int × AD :=
  if x.kind = 1 then S.create x.name else if x.kind = 2 then S.writeAt x.name x.at_ x.data else if x.kind = 3 then S.append x.name x.data else if x.kind = 4 then S.truncate x.name x.n
  else if x.kind = 5 then S.rename x.name x.to_ else if x.kind = 6 then S.remove x.name else if x.kind = 7 then S.sync x.name else if x.kind = 8 then S.syncNames
  else if x.kind = 9 then ((S.read x.name x.at_ x.n).1, (S.read x.name x.at_ x.n).2.2) else if x.kind = 10 then (S.look x.name, S) else if x.kind = 11 then (0, S.plans x.plan) else if x.kind = 12 then (0, S.crash x.picks)
  else if x.kind = 13 then (0, S.lookAway) else (0, S)
theorem AD.Ok.lookAway {S : AD} {c : Nat} (h : S.Ok c) : S.lookAway.Ok c := { h with reads := Nat.zero_le _ }
theorem AD.Ok.doStep {S : AD} {c : Nat} (h : S.Ok c) (hs : c < 1099511627776) (x : StepA) : (S.doStep x).2.Ok (c + 1) := by
  have up : ∀ {T : AD}, T.Ok c → T.Ok (c + 1) := fun h => h.mono (by omega) (by omega)
  have ite : ∀ {p : Prop} [Decidable p] {a b : Int × AD}, a.2.Ok (c + 1) → b.2.Ok (c + 1) → (if p then a else b).2.Ok (c + 1) := by
    intro p _ a b h1 h2
    by_cases hp : p
    · rw [if_pos hp]; exact h1
    · rw [if_neg hp]; exact h2
  unfold AD.doStep
  exact ite (h.create hs _) (ite (h.writeAt hs _ _ _) (ite (h.append hs _ _) (ite (h.truncate hs _ _) (ite (h.rename hs _ _) (ite (h.remove hs _) (ite (h.sync hs _) (ite (h.syncNames hs) (ite (h.read hs _ _ _)
    (ite (up h) (ite (up (h.plans _)) (ite (up (h.crash _)) (ite (up h.lookAway) (up h)))))))))))))
end Go.Proofs.XDisk
