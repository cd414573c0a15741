/- The texts of statements, declarations and programs, in plain Lean. -/
import Derived.Test.YtcdgjgoplogiiaaDoorDat
namespace Go.Proofs.YtcdgjgoplogiiaaDoor.PT
open Go.RowKit Go.Lib
abbrev B (l : List UInt8) : ByteArray := ⟨l.toArray⟩
def bl (s : ByteArray) : List UInt8 := s.data.toList
/-- A line so deep. -/
def lineT (deep : Nat) (parts : List ByteArray) : List UInt8 := List.replicate deep 9 ++ parts.flatMap bl ++ [10]
def valT (es : List Tree) (k : Nat) : ByteArray := match es[k]? with
  | some t => txt t 0
  | none => ⟨#[63]⟩
def numT (n : Int) : ByteArray := ⟨(Lib.decDigits n.toNat).toArray⟩
def kLocal : ByteArray := ⟨#[108, 111, 99, 97, 108, 32]⟩
def kEq : ByteArray := ⟨#[32, 61, 32]⟩
def kSemi : ByteArray := ⟨#[59]⟩
def kOpen : ByteArray := ⟨#[91]⟩
def kShutEq : ByteArray := ⟨#[93, 32, 61, 32]⟩
def kIf : ByteArray := ⟨#[105, 102, 32, 40]⟩
def kThen : ByteArray := ⟨#[41, 32, 123]⟩
def kElse : ByteArray := ⟨#[125, 32, 101, 108, 115, 101, 32, 123]⟩
def kEnd : ByteArray := ⟨#[125]⟩
def kLoop : ByteArray := ⟨#[108, 111, 111, 112, 32]⟩
def kBl : ByteArray := ⟨#[32]⟩
def kBegin : ByteArray := ⟨#[32, 123]⟩
def kTake : ByteArray := ⟨#[116, 97, 107, 101, 32]⟩
def kGive : ByteArray := ⟨#[103, 105, 118, 101, 32]⟩
def kAdd : ByteArray := ⟨#[97, 100, 100, 32]⟩
def kFence : ByteArray := ⟨#[102, 101, 110, 99, 101, 59]⟩
def kOut : ByteArray := ⟨#[111, 117, 116, 112, 117, 116, 32]⟩
def kThread : ByteArray := ⟨#[116, 104, 114, 101, 97, 100, 32, 123]⟩
/-- A statement's text; body, els: the texts of its blocks; ne: has it an else? -/
def stT (k : Nat) (s : ByteArray) (es : List Tree) (n : Int) (body els : List UInt8) (ne : Bool) (d : Nat) : List UInt8 :=
  match k with
  | 0 => lineT d [kLocal, s, kEq, valT es 0, kSemi]
  | 1 => lineT d [s, kEq, valT es 0, kSemi]
  | 2 => lineT d [s, kOpen, valT es 0, kShutEq, valT es 1, kSemi]
  | 3 => lineT d [kIf, valT es 0, kThen] ++ body ++ (if ne then lineT d [kElse] ++ els else []) ++ lineT d [kEnd]
  | 4 => lineT d [kLoop, s, kBl, numT n, kBegin] ++ body ++ lineT d [kEnd]
  | 5 => lineT d [kTake, s, kSemi]
  | 6 => lineT d [kGive, s, kSemi]
  | 7 => lineT d [kAdd, s, kBl, valT es 0, kSemi]
  | 8 => lineT d [kFence]
  | _ => lineT d [kOut, valT es 0, kSemi]
def Blk.ne : Blk → Bool
  | .nil => false
  | _ => true
def blkT : Blk → Nat → List UInt8
  | .nil, _ => []
  | .cons k s es n body els _ rest, d => stT k s es n (blkT body (d + 1)) (blkT els (d + 1)) els.ne d ++ blkT rest d
/-- A declaration's text. -/
def declT (d : Dcl) : ByteArray :=
  if d.lock then ⟨#[108, 111, 99, 107, 32]⟩ ++ d.name ++ kSemi
  else
    let a := (if d.label = 0 then (⟨#[112, 117, 98, 108, 105, 99, 32]⟩ : ByteArray) else ⟨#[115, 101, 99, 114, 101, 116, 32]⟩) ++ d.name
    let b := if 0 < d.size then a ++ (kOpen ++ numT d.size ++ ⟨#[93]⟩) else a
    (if d.by'.size = 0 then b else b ++ (⟨#[32, 98, 121, 32]⟩ ++ d.by')) ++ kSemi
def progT (p : Prg) : List UInt8 := p.ds.flatMap (fun d => lineT 0 [declT d]) ++ p.ts.flatMap (fun t => lineT 0 [kThread] ++ blkT t 1 ++ lineT 0 [kEnd])

/-! ### What may be printed, and how long it is -/
def tb : List Tree → Nat
  | [] => 0
  | t :: ts => bd t + tb ts
/-- A bound of the texts' length, and of a block's lines. -/
def Blk.bd : Blk → Nat → Nat
  | .nil, _ => 0
  | .cons _ s es _ body els _ rest, d => 100 + 3 * d + s.size + tb es + body.bd (d + 1) + els.bd (d + 1) + rest.bd d
def Blk.ok : Blk → Prop
  | .nil => True
  | .cons _ _ es n body els _ rest => (∀ t ∈ es, PT.ok t ∧ PT.bd t ≤ 1000000) ∧ 0 ≤ n ∧ n < 1000000 ∧ body.ok ∧ els.ok ∧ rest.ok
theorem lineT_len (d : Nat) (ps : List ByteArray) : (lineT d ps).length = d + (ps.flatMap bl).length + 1 := by
  unfold lineT
  rw [List.length_append, List.length_append, List.length_replicate]; rfl
theorem bl_len (s : ByteArray) : (bl s).length = s.size := Array.length_toList
theorem valT_le (es : List Tree) (h : ∀ t ∈ es, PT.ok t ∧ PT.bd t ≤ 1000000) (k : Nat) : (valT es k).size ≤ 1 + 1000000 := by
  unfold valT
  split
  · rename_i t ht
    obtain ⟨h1, h2⟩ := h t (List.mem_of_getElem? ht)
    have := txt_size t h1 0
    omega
  · decide
end Go.Proofs.YtcdgjgoplogiiaaDoor.PT
