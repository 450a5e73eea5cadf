/-
  Wire, plainly: messages, whether two are the same, which can be. No program in sight.
  Conditions: none.
-/
import Derived.Test.YtbljbdjmgogknaaGreatDoorCr
set_option linter.unusedVariables false
set_option linter.unusedSimpArgs false
namespace Go.Proofs.YtbljbdjmgogknaaGreatDoor.Wi

structure Req where
  client : Int
  n : Int
  kind : Int
  part : Int
  seq : Int
  off : Int
  max : Int
  gen : Int
  group : List UInt8
  member : List UInt8
  recs : List Cr.Rec
structure Resp where
  client : Int
  n : Int
  code : Int
  off : Int
  high : Int
  gen : Int
  parts : List Int
  recs : List Cr.Rec
/-- Sequence, base, end. -/
abbrev Slot := Int × Int × Int
abbrev Seen := Int × List Slot
structure Msg where
  kind : Int
  frm : Int
  to : Int
  part : Int
  ep : Int
  off : Int
  high : Int
  life : Int
  pep : Int
  chain : List Int
  learner : Int
  lives : List (Int × Int)
  batch : Cr.Batch
  table : List Seen
  req : Req
  resp : Resp
def reqNums (a b : Req) : Bool := decide (a.client = b.client) && (decide (a.n = b.n) && (decide (a.kind = b.kind) && (decide (a.part = b.part) && (decide (a.seq = b.seq) && (decide (a.off = b.off) && (decide (a.max = b.max) && decide (a.gen = b.gen)))))))
def reqEq (a b : Req) : Bool := reqNums a b && (decide (a.group = b.group) && (decide (a.member = b.member) && Cr.recsEq a.recs b.recs))
theorem reqEq_iff {a b : Req} : reqEq a b = true ↔ a = b := by
  cases a; cases b
  simp [reqEq, reqNums, Cr.recsEq_iff, and_assoc]
def respNums (a b : Resp) : Bool := decide (a.client = b.client) && (decide (a.n = b.n) && (decide (a.code = b.code) && (decide (a.off = b.off) && (decide (a.high = b.high) && decide (a.gen = b.gen)))))
def respEq (a b : Resp) : Bool := respNums a b && (decide (a.parts = b.parts) && Cr.recsEq a.recs b.recs)
theorem respEq_iff {a b : Resp} : respEq a b = true ↔ a = b := by
  cases a; cases b
  simp [respEq, respNums, Cr.recsEq_iff, and_assoc]
def nums (a b : Msg) : Bool := decide (a.kind = b.kind) && (decide (a.frm = b.frm) && (decide (a.to = b.to) && (decide (a.part = b.part) && (decide (a.ep = b.ep) && (decide (a.off = b.off) && (decide (a.high = b.high) && decide (a.life = b.life)))))))
def places (a b : Msg) : Bool := decide (a.pep = b.pep) && (decide (a.learner = b.learner) && (decide (a.chain = b.chain) && decide (a.lives = b.lives)))
def same (a b : Msg) : Bool := nums a b && (places a b && (Cr.same a.batch b.batch && (decide (a.table = b.table) && (reqEq a.req b.req && respEq a.resp b.resp))))
theorem same_iff {a b : Msg} : same a b = true ↔ a = b := by
  cases a; cases b
  simp [same, nums, places, Cr.same_iff, reqEq_iff, respEq_iff]
  constructor <;> intro h <;> simp_all
theorem same_refl (a : Msg) : same a a = true := same_iff.2 rfl

def inB (n low high : Int) : Bool := decide (low ≤ n) && decide (n ≤ high)
def unitB (n : Int) : Bool := inB n 0 5 || inB n 11 14
def areB (low high : Int) (l : List Int) : Bool := l.all fun n => inB n low high
def zReq : Req := ⟨0, 0, 0, 0, 0, 0, 0, 0, [], [], []⟩
def zResp : Resp := ⟨0, 0, 0, 0, 0, 0, [], []⟩
def zBatch : Cr.Batch := ⟨0, 0, 0, 0, 0, []⟩
/-- The fields of a message that its kind has. -/
def only (m : Msg) : Msg :=
  { kind := m.kind, frm := m.frm, to := m.to
    part := if 4 ≤ m.kind then m.part else 0
    ep := if 4 ≤ m.kind then m.ep else 0
    off := if m.kind = 6 ∨ m.kind = 8 ∨ m.kind = 9 then m.off else 0
    high := if m.kind = 6 then m.high else 0
    life := if m.kind = 3 then m.life else 0
    pep := if m.kind = 4 then m.pep else 0
    chain := if m.kind = 4 then m.chain else []
    learner := if m.kind = 4 then m.learner else 0
    lives := if m.kind = 4 then m.lives else []
    batch := if m.kind = 5 then m.batch else zBatch
    table := if m.kind = 8 then m.table else []
    req := if m.kind = 1 ∨ m.kind = 7 then m.req else zReq
    resp := if m.kind = 2 then m.resp else zResp }
/-- What two messages' rows of like things share. -/
theorem eq_step {α : Type} [DecidableEq α] {l r : List α} {k : Nat} {x y : α} (hx : l[k]? = some x) (hy : r[k]? = some y) : decide (l.drop k = r.drop k) = (decide (x = y) && decide (l.drop (k + 1) = r.drop (k + 1))) := by
  obtain ⟨hk, rfl⟩ := List.getElem?_eq_some_iff.1 hx
  obtain ⟨hk2, rfl⟩ := List.getElem?_eq_some_iff.1 hy
  rw [List.drop_eq_getElem_cons hk, List.drop_eq_getElem_cons hk2, decide_eq_decide.2 (List.cons_eq_cons (a := l[k]) (b := r[k]) (l := l.drop (k + 1)) (l' := r.drop (k + 1))), Bool.decide_and]
theorem eq_len {α : Type} [DecidableEq α] {l r : List α} (h : l.length ≠ r.length) : decide (l = r) = false := decide_eq_false fun e => h (congrArg List.length e)
theorem eq_end {α : Type} [DecidableEq α] {l r : List α} (h : l.length = r.length) : decide (l.drop l.length = r.drop l.length) = true := by
  rw [List.drop_length, h, List.drop_length]
  rfl

end Go.Proofs.YtbljbdjmgogknaaGreatDoor.Wi
