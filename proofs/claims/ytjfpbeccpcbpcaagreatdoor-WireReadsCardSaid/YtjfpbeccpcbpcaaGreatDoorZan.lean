/-
  Wv: texts of one proof, one behind the other.
  Conditions: none of its own.
-/
import Derived.Test.YtjfpbeccpcbpcaaGreatDoorZac
import Derived.Test.YtjfpbeccpcbpcaaGreatDoorZam
set_option linter.unusedVariables false
set_option linter.unusedSimpArgs false
namespace Go.Proofs.YtjfpbeccpcbpcaaGreatDoor
open Go.ChangeShapes Go.WideShapes Go.ChangeAt Go.RowKit
def ReqOk (q : Wi.Req) : Prop := (Bd.inR q.client ∧ Bd.inR q.n ∧ Bd.inR q.kind ∧ Bd.inR q.part ∧ Bd.inR q.seq ∧ Bd.inR q.off ∧ Bd.inR q.max ∧ Bd.inR q.gen) ∧ q.group.length ≤ maxLen ∧ q.member.length ≤ maxLen ∧ q.recs.length ≤ maxLen ∧ ∀ x ∈ q.recs, RecOk x
def RespOk (a : Wi.Resp) : Prop := (Bd.inR a.client ∧ Bd.inR a.n ∧ Bd.inR a.code ∧ Bd.inR a.off ∧ Bd.inR a.high ∧ Bd.inR a.gen) ∧ (a.parts.length ≤ maxLen ∧ ∀ x ∈ a.parts, Bd.inR x) ∧ a.recs.length ≤ maxLen ∧ ∀ x ∈ a.recs, RecOk x
end Go.Proofs.YtjfpbeccpcbpcaaGreatDoor
