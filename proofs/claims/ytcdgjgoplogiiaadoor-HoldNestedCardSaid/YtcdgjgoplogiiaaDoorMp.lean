/- What numbers make, in plain Lean: the maker of law04. -/
import Derived.Test.YtcdgjgoplogiiaaDoorDat
namespace Go.Proofs.YtcdgjgoplogiiaaDoor.PT
open Go.RowKit Go.Lib

structure MS where
  ns : List Nat
  loc : List ByteArray
  sec : List Bool
  cnt : List Int
  held : Bool
  th : Nat
  deep : Nat
def nx (n : Nat) (m : MS) : Nat × MS := match m.ns with
  | [] => (0, m)
  | x :: r => (x % n, { m with ns := r })
def dg (n : Nat) : ByteArray := ⟨#[UInt8.ofNat (48 + n % 10)]⟩
def own (c : UInt8) (m : MS) : ByteArray := ⟨#[c]⟩ ++ dg m.th
def litM (n : Nat) (m : MS) : Tree × MS := (.lit (nx n m).1 0, (nx n m).2)
/-- The last local that is a counter of at most four rounds. -/
def fndl : List ByteArray → List Int → Option ByteArray
  | s :: ss, c :: cs => match fndl ss cs with
    | some x => some x
    | none => if 0 < c ∧ c ≤ 4 then some s else none
  | _, _ => none
def cellM (pub : MS → Tree × MS) (m : MS) : Tree × MS :=
  if (nx 3 m).1 = 0 then match fndl (nx 3 m).2.loc (nx 3 m).2.cnt with
    | some s => (.name s 0, (nx 3 m).2)
    | none => litM 4 (nx 3 m).2
  else if (nx 3 m).1 = 1 then (.bin 3 (pub (nx 3 m).2).1 (.lit 3 0) 0, (pub (nx 3 m).2).2)
  else litM 4 (nx 3 m).2
def binM (ex : MS → Tree × MS) (m : MS) : Tree × MS :=
  (.bin (nx 10 m).1 (ex (nx 10 m).2).1 (ex (ex (nx 10 m).2).2).1 0, (ex (ex (nx 10 m).2).2).2)
def sShared : ByteArray := ⟨#[115, 104, 97, 114, 101, 100]⟩
def sHidden : ByteArray := ⟨#[104, 105, 100, 100, 101, 110]⟩
def sDoor : ByteArray := ⟨#[100, 111, 111, 114]⟩
def sCount : ByteArray := ⟨#[99, 111, 117, 110, 116]⟩
/-- An expression of which nothing is secret, f levels above the deepest. -/
def pubM : Nat → MS → Tree × MS
  | 0, m => litM 256 (nx 8 m).2
  | f + 1, m =>
    let k := (nx 8 m).1
    let m1 := (nx 8 m).2
    if k = 0 then litM 256 m1
    else if k = 1 then (.name (own 112 m) 0, m1)
    else if k = 2 ∧ m1.held = true then (.name sShared 0, m1)
    else if k = 3 then (.cell (own 113 m) (cellM (pubM f) m1).1 0, (cellM (pubM f) m1).2)
    else if k = 4 ∧ 0 < m1.loc.length then
      if m1.sec.getD (nx m1.loc.length m1).1 false = false then (.name (m1.loc.getD (nx m1.loc.length m1).1 ⟨#[]⟩) 0, (nx m1.loc.length m1).2)
      else binM (pubM f) (nx m1.loc.length m1).2
    else if k = 5 then (.not (pubM f m1).1 0, (pubM f m1).2)
    else binM (pubM f) m1
/-- An expression of which something may be secret. -/
def secM : Nat → MS → Tree × MS
  | 0, m => pubM 0 (nx 8 m).2
  | f + 1, m =>
    let k := (nx 8 m).1
    let m1 := (nx 8 m).2
    if k = 0 then pubM f m1
    else if k = 1 then (.name (own 115 m) 0, m1)
    else if k = 2 then (.cell (own 116 m) (cellM (pubM f) m1).1 0, (cellM (pubM f) m1).2)
    else if k = 3 ∧ m1.held = true then (.name sHidden 0, m1)
    else if k = 4 ∧ 0 < m1.loc.length then (.name (m1.loc.getD (nx m1.loc.length m1).1 ⟨#[]⟩) 0, (nx m1.loc.length m1).2)
    else if k = 5 then
      let a := secM f m1
      let b := secM f a.2
      let c := secM f b.2
      (.pick a.1 b.1 c.1 0, c.2)
    else binM (secM f) m1
def newName (m : MS) : ByteArray := ⟨#[120]⟩ ++ dg m.th ++ dg (m.loc.length / 10) ++ dg m.loc.length
def enterM (s : Bool) (c : Int) (m : MS) : MS := { m with loc := m.loc ++ [newName m], sec := m.sec ++ [s], cnt := m.cnt ++ [c] }
/-- The locals as many as they were. -/
def leaveM (n : Nat) (m : MS) : MS := { m with loc := m.loc.take n, sec := m.sec.take n, cnt := m.cnt.take n }
abbrev one (k : Nat) (s : ByteArray) (es : List Tree) (n : Int) (body els : Blk) : Blk := .cons k s es n body els 0 .nil
def repM (st : MS → Blk × MS) : Nat → MS → Blk × MS
  | 0, m => (.nil, m)
  | n + 1, m => ((st m).1.app (repM st n (st m).2).1, (repM st n (st m).2).2)
def blockM (st : MS → Blk × MS) (m : MS) : Blk × MS :=
  let m0 := { m with deep := m.deep + 1 }
  let r := repM st ((nx 5 m0).1 + 1) (nx 5 m0).2
  (r.1, { leaveM m.loc.length r.2 with deep := r.2.deep - 1 })
/-- A statement, or a few. -/
def stM : Nat → Bool → MS → Blk × MS
  | 0, _, m => (.nil, m)
  | f + 1, ins, m =>
    let k := (nx 12 m).1
    let m1 := (nx 12 m).2
    if k = 0 ∧ m1.loc.length < 90 then
      let e := secM 4 m1
      (one 0 (newName e.2) [e.1] 0 .nil .nil, enterM true 0 e.2)
    else if k = 1 ∧ m1.loc.length < 90 ∧ ins = false then
      let e := pubM 4 m1
      (one 0 (newName e.2) [e.1] 0 .nil .nil, enterM false 0 e.2)
    else if k = 2 then (one 1 (own 115 m) [(secM 4 m1).1] 0 .nil .nil, (secM 4 m1).2)
    else if k = 3 then
      let i := cellM (pubM 3) m1
      let e := secM 4 i.2
      (one 2 (own 116 m) [i.1, e.1] 0 .nil .nil, e.2)
    else if k = 4 ∧ m1.deep < 4 then
      let e := secM 4 m1
      let a := blockM (stM f true) e.2
      let b := blockM (stM f true) a.2
      (one 3 ⟨#[]⟩ [e.1] 0 a.1 b.1, b.2)
    else if k = 5 ∧ m1.deep < 4 then
      let c := (nx 5 m1).1 + 1
      let m2 := (nx 5 m1).2
      let a := blockM (stM f ins) (enterM false c m2)
      (one 4 (newName m2) [] c a.1 .nil, leaveM (a.2.loc.length - 1) a.2)
    else if ins = true then (one 1 (own 115 m) [(secM 4 m1).1] 0 .nil .nil, (secM 4 m1).2)
    else if k = 6 ∧ m1.deep < 4 then
      let e := pubM 4 m1
      let a := blockM (stM f false) e.2
      let b := blockM (stM f false) a.2
      (one 3 ⟨#[]⟩ [e.1] 0 a.1 b.1, b.2)
    else if k = 7 then
      let i := cellM (pubM 3) m1
      let e := pubM 4 i.2
      (one 2 (own 113 m) [i.1, e.1] 0 .nil .nil, e.2)
    else if k = 8 ∧ m1.held = false then
      let m2 := { m1 with held := true }
      let r := repM (stM f false) ((nx 4 m2).1 + 1) (nx 4 m2).2
      let v := pubM 3 r.2
      ((one 5 sDoor [] 0 .nil .nil).app (r.1.app ((one 1 sShared [v.1] 0 .nil .nil).app (one 6 sDoor [] 0 .nil .nil))), { v.2 with held := false })
    else if k = 9 then (one 7 sCount [(pubM 4 m1).1] 0 .nil .nil, (pubM 4 m1).2)
    else if k = 10 then (one 9 ⟨#[]⟩ [(pubM 4 m1).1] 0 .nil .nil, (pubM 4 m1).2)
    else if k = 11 then (one 8 ⟨#[]⟩ [] 0 .nil .nil, m1)
    else (one 1 (own 112 m) [(pubM 4 m1).1] 0 .nil .nil, (pubM 4 m1).2)
def decls0 : List Dcl := [⟨true, 0, sDoor, 0, ⟨#[]⟩, 0⟩, ⟨false, 0, sShared, 0, sDoor, 0⟩, ⟨false, 1, sHidden, 0, sDoor, 0⟩, ⟨false, 0, sCount, 0, ⟨#[]⟩, 0⟩]
def declsK (k : Nat) : List Dcl := [⟨false, 0, ⟨#[112]⟩ ++ dg k, 0, ⟨#[]⟩, 0⟩, ⟨false, 0, ⟨#[113]⟩ ++ dg k, 4, ⟨#[]⟩, 0⟩, ⟨false, 1, ⟨#[115]⟩ ++ dg k, 0, ⟨#[]⟩, 0⟩, ⟨false, 1, ⟨#[116]⟩ ++ dg k, 4, ⟨#[]⟩, 0⟩]
/-- Threads from the k-th on, n of them. -/
def threadsM : Nat → Nat → MS → List Blk × MS
  | 0, _, m => ([], m)
  | n + 1, k, m =>
    let b := blockM (stM 6 false) { m with th := k, loc := [], sec := [], cnt := [] }
    (b.1 :: (threadsM n (k + 1) b.2).1, (threadsM n (k + 1) b.2).2)
def ms0 (ns : List Nat) : MS := ⟨ns.take 300, [], [], [], false, 0, 0⟩
def makeP (ns : List Nat) : Prg :=
  let n := (nx 3 (ms0 ns)).1 + 1
  ⟨decls0 ++ (List.range n).flatMap declsK, (threadsM n 0 (nx 3 (ms0 ns)).2).1⟩
end Go.Proofs.YtcdgjgoplogiiaaDoor.PT
