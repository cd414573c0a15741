/- What reading signs gives, in plain Lean: the parser on a list of signs. -/
import Derived.Test.YtcdgjgoplogiiaaDoorDat
namespace Go.Proofs.YtcdgjgoplogiiaaDoor.PT
open Go.RowKit Go.Lib

/-- A sign: its kind (0: the end, 1: a word, 2: a key, 3: digits, 4: a sign), text, number, place. -/
structure Tok where
  k : Nat
  s : ByteArray
  v : Nat
  p : Nat
def tok0 : Tok := ⟨0, ⟨#[]⟩, 0, 0⟩
/-- Where the parser stands, and what was wrong first: which error, where. -/
structure PS where
  i : Nat
  e : Option (Nat × Nat)
def tokAt (ts : List Tok) (q : PS) : Tok := ts.getD q.i tok0
def nxt (ts : List Tok) (q : PS) : Tok := match q.e with
  | none => tokAt ts q
  | some _ => ⟨0, ⟨#[]⟩, 0, (tokAt ts q).p⟩
def failp (ts : List Tok) (n : Nat) (q : PS) : PS := match q.e with
  | none => ⟨q.i, some (n, (tokAt ts q).p)⟩
  | some _ => q
def adv (q : PS) : PS := ⟨q.i + 1, q.e⟩
def beq (a b : ByteArray) : Bool := a.data.toList == b.data.toList
def isp (ts : List Tok) (x : ByteArray) (q : PS) : Bool := ((nxt ts q).k == 4 || (nxt ts q).k == 2) && beq (nxt ts q).s x
def wantp (ts : List Tok) (x : ByteArray) (q : PS) : PS := if isp ts x q then adv q else failp ts 2 q
def namep (ts : List Tok) (q : PS) : ByteArray × PS := if (nxt ts q).k == 1 then ((nxt ts q).s, adv q) else (⟨#[]⟩, failp ts 2 q)
def numberp (ts : List Tok) (lo hi : Nat) (q : PS) : Nat × PS :=
  if (nxt ts q).k == 3 then (if (nxt ts q).v < lo || hi < (nxt ts q).v then (0, failp ts 6 q) else ((nxt ts q).v, adv q)) else (0, failp ts 2 q)
/-- The operator whose sign it is. -/
def opOf (s : ByteArray) : Option Nat := signs.findIdx? (beq s)
def opp (ts : List Tok) (q : PS) : Option Nat := if (nxt ts q).k == 4 then opOf (nxt ts q).s else none
/-- Operators, and what stands behind them. -/
def opsp (ts : List Tok) (rec : Int → PS → Tree × PS) (tight : Int) : Nat → Tree → PS → Tree × PS
  | 0, e, q => (e, q)
  | f + 1, e, q => if q.e.isSome then (e, q) else match opp ts q with
    | none => (e, q)
    | some o => if tightOf o < tight then (e, q) else opsp ts rec tight f (.bin o e (rec (tightOf o + 1) (adv q)).1 e.pos) (rec (tightOf o + 1) (adv q)).2
def unaryp (ts : List Tok) (rec : Int → PS → Tree × PS) (q : PS) : Tree × PS :=
  if isp ts ⟨#[126]⟩ q then (.not (rec 9 (adv q)).1 (nxt ts q).p, (rec 9 (adv q)).2)
  else if isp ts ⟨#[40]⟩ q then ((rec 0 (adv q)).1, wantp ts ⟨#[41]⟩ (rec 0 (adv q)).2)
  else if isp ts ⟨#[112, 105, 99, 107]⟩ q then
    let a := rec 0 (wantp ts ⟨#[40]⟩ (adv q))
    let b := rec 0 (wantp ts ⟨#[44]⟩ a.2)
    let c := rec 0 (wantp ts ⟨#[44]⟩ b.2)
    (.pick a.1 b.1 c.1 (nxt ts q).p, wantp ts ⟨#[41]⟩ c.2)
  else if (nxt ts q).k == 3 then (.lit (nxt ts q).v (nxt ts q).p, adv q)
  else if isp ts ⟨#[91]⟩ (namep ts q).2 then
    let r := rec 0 (adv (namep ts q).2)
    (.cell (namep ts q).1 r.1 (nxt ts q).p, wantp ts ⟨#[93]⟩ r.2)
  else (.name (namep ts q).1 (nxt ts q).p, (namep ts q).2)
/-- An expression, d levels above the deepest. -/
def exprp (ts : List Tok) : Nat → Int → PS → Tree × PS
  | 0, _, q => (.lit 0 0, failp ts 6 q)
  | d + 1, tight, q => if q.e.isSome then (.lit 0 0, q) else opsp ts (exprp ts d) tight ts.length (unaryp ts (exprp ts d) q).1 (unaryp ts (exprp ts d) q).2
/-- A statement. -/
structure St where
  k : Nat
  s : ByteArray
  es : List Tree
  n : Int
  body : Blk
  els : Blk
  p : Int
abbrev St.one (h : St) (b : Blk) : Blk := .cons h.k h.s h.es h.n h.body h.els h.p b
def st0 (p : Int) : St := ⟨0, ⟨#[]⟩, [], 0, .nil, .nil, p⟩
def blocklp (ts : List Tok) (stm : PS → St × PS) : Nat → PS → Blk × PS
  | 0, q => (.nil, q)
  | f + 1, q => if q.e.isSome || isp ts ⟨#[125]⟩ q then (.nil, q) else ((stm q).1.one (blocklp ts stm f (stm q).2).1, (blocklp ts stm f (stm q).2).2)
def blockp (ts : List Tok) (stm : PS → St × PS) (q : PS) : Blk × PS :=
  ((blocklp ts stm (ts.length + 1) (wantp ts ⟨#[123]⟩ q)).1, wantp ts ⟨#[125]⟩ (blocklp ts stm (ts.length + 1) (wantp ts ⟨#[123]⟩ q)).2)
/-- A statement without a block, but its semicolon. -/
def simplep (ts : List Tok) (ex : PS → Tree × PS) (p : Int) (q : PS) : St × PS :=
  if isp ts ⟨#[108, 111, 99, 97, 108]⟩ q then
    let n := namep ts (adv q)
    let e := ex (wantp ts ⟨#[61]⟩ n.2)
    (⟨0, n.1, [e.1], 0, .nil, .nil, p⟩, e.2)
  else if isp ts ⟨#[116, 97, 107, 101]⟩ q then (⟨5, (namep ts (adv q)).1, [], 0, .nil, .nil, p⟩, (namep ts (adv q)).2)
  else if isp ts ⟨#[103, 105, 118, 101]⟩ q then (⟨6, (namep ts (adv q)).1, [], 0, .nil, .nil, p⟩, (namep ts (adv q)).2)
  else if isp ts ⟨#[97, 100, 100]⟩ q then
    let n := namep ts (adv q)
    (⟨7, n.1, [(ex n.2).1], 0, .nil, .nil, p⟩, (ex n.2).2)
  else if isp ts ⟨#[102, 101, 110, 99, 101]⟩ q then (⟨8, ⟨#[]⟩, [], 0, .nil, .nil, p⟩, adv q)
  else if isp ts ⟨#[111, 117, 116, 112, 117, 116]⟩ q then (⟨9, ⟨#[]⟩, [(ex (adv q)).1], 0, .nil, .nil, p⟩, (ex (adv q)).2)
  else
    let n := namep ts q
    if isp ts ⟨#[91]⟩ n.2 then
      let a := ex (adv n.2)
      let b := ex (wantp ts ⟨#[61]⟩ (wantp ts ⟨#[93]⟩ a.2))
      (⟨2, n.1, [a.1, b.1], 0, .nil, .nil, p⟩, b.2)
    else
      let b := ex (wantp ts ⟨#[61]⟩ n.2)
      (⟨1, n.1, [b.1], 0, .nil, .nil, p⟩, b.2)
/-- A statement, d levels above the deepest. -/
def stmtp (ts : List Tok) : Nat → PS → St × PS
  | 0, q => (st0 (nxt ts q).p, failp ts 6 q)
  | d + 1, q => if q.e.isSome then (st0 (nxt ts q).p, q)
    else if isp ts ⟨#[105, 102]⟩ q then
      let e := exprp ts d 0 (wantp ts ⟨#[40]⟩ (adv q))
      let b := blockp ts (stmtp ts d) (wantp ts ⟨#[41]⟩ e.2)
      if isp ts ⟨#[101, 108, 115, 101]⟩ b.2 then
        let c := blockp ts (stmtp ts d) (adv b.2)
        (⟨3, ⟨#[]⟩, [e.1], 0, b.1, c.1, (nxt ts q).p⟩, c.2)
      else (⟨3, ⟨#[]⟩, [e.1], 0, b.1, .nil, (nxt ts q).p⟩, b.2)
    else if isp ts ⟨#[108, 111, 111, 112]⟩ q then
      let n := namep ts (adv q)
      let c := numberp ts 1 256 n.2
      let b := blockp ts (stmtp ts d) c.2
      (⟨4, n.1, [], c.1, b.1, .nil, (nxt ts q).p⟩, b.2)
    else
      let r := simplep ts (exprp ts d 0) (nxt ts q).p q
      (r.1, wantp ts ⟨#[59]⟩ r.2)
/-- A declaration. -/
def declp (ts : List Tok) (q : PS) : Dcl × PS :=
  if isp ts ⟨#[108, 111, 99, 107]⟩ q then
    (⟨true, 0, (namep ts (adv q)).1, 0, ⟨#[]⟩, (nxt ts q).p⟩, wantp ts ⟨#[59]⟩ (namep ts (adv q)).2)
  else
    let pub := isp ts ⟨#[112, 117, 98, 108, 105, 99]⟩ q
    let q1 := if pub then adv q else wantp ts ⟨#[115, 101, 99, 114, 101, 116]⟩ q
    let n := namep ts q1
    let sz : Nat × PS := if isp ts ⟨#[91]⟩ n.2 then ((numberp ts 1 64 (adv n.2)).1, wantp ts ⟨#[93]⟩ (numberp ts 1 64 (adv n.2)).2) else (0, n.2)
    let by' : ByteArray × PS := if isp ts ⟨#[98, 121]⟩ sz.2 then namep ts (adv sz.2) else (⟨#[]⟩, sz.2)
    (⟨false, if pub then 0 else 1, n.1, sz.1, by'.1, (nxt ts q).p⟩, wantp ts ⟨#[59]⟩ by'.2)
/-- Declarations; n: how many may come still. -/
def declsp (ts : List Tok) : Nat → PS → List Dcl × PS
  | 0, q => if q.e.isSome || isp ts ⟨#[116, 104, 114, 101, 97, 100]⟩ q then ([], q) else ([], failp ts 6 q)
  | n + 1, q => if q.e.isSome || isp ts ⟨#[116, 104, 114, 101, 97, 100]⟩ q then ([], q) else ((declp ts q).1 :: (declsp ts n (declp ts q).2).1, (declsp ts n (declp ts q).2).2)
def threadsp (ts : List Tok) : Nat → PS → List Blk × PS
  | 0, q => if q.e.isSome || (nxt ts q).k == 0 then ([], q) else ([], failp ts 6 q)
  | n + 1, q => if q.e.isSome || (nxt ts q).k == 0 then ([], q)
    else
      let b := blockp ts (stmtp ts 40) (wantp ts ⟨#[116, 104, 114, 101, 97, 100]⟩ q)
      (b.1 :: (threadsp ts n b.2).1, (threadsp ts n b.2).2)
def progp (ts : List Tok) : Except (Nat × Nat) Prg :=
  let d := declsp ts 64 ⟨0, none⟩
  let t := threadsp ts 16 d.2
  match t.2.e with
  | none => .ok ⟨d.1, t.1⟩
  | some x => .error x

/-! ### The signs of a text -/
def letter (c : UInt8) : Bool := (97 ≤ c && c ≤ 122) || c == 95
def digit (c : UInt8) : Bool := 48 ≤ c && c ≤ 57
/-- Where bytes that are so end. -/
def runTo (f : UInt8 → Bool) (l : List UInt8) (a : Nat) : Nat := a + ((l.drop a).takeWhile f).length
def numv : List UInt8 → Nat → Option Nat
  | [], n => some n
  | c :: r, n => if (18446744073709551615 - (c.toNat - 48)) / 10 < n then none else numv r (n * 10 + (c.toNat - 48))
def keys : List ByteArray := [⟨#[112, 117, 98, 108, 105, 99]⟩, ⟨#[115, 101, 99, 114, 101, 116]⟩, ⟨#[108, 111, 99, 107]⟩, ⟨#[98, 121]⟩, ⟨#[116, 104, 114, 101, 97, 100]⟩, ⟨#[105, 102]⟩, ⟨#[101, 108, 115, 101]⟩, ⟨#[108, 111, 111, 112]⟩, ⟨#[116, 97, 107, 101]⟩, ⟨#[103, 105, 118, 101]⟩, ⟨#[97, 100, 100]⟩, ⟨#[102, 101, 110, 99, 101]⟩, ⟨#[111, 117, 116, 112, 117, 116]⟩, ⟨#[108, 111, 99, 97, 108]⟩, ⟨#[112, 105, 99, 107]⟩]
def isKey (s : ByteArray) : Bool := keys.any (beq s)
def ones : List UInt8 := [59, 61, 91, 93, 123, 125, 40, 41, 44, 43, 45, 42, 38, 124, 94, 60, 126]
/-- How long the sign is that begins there; 0: there is none. -/
def signLen (l : List UInt8) (a : Nat) : Nat :=
  let c := l.getD a 0
  if a + 1 < l.length && ((c == 60 && l.getD (a + 1) 0 == 60) || (c == 62 && l.getD (a + 1) 0 == 62) || (c == 61 && l.getD (a + 1) 0 == 61)) then 2
  else if ones.contains c then 1 else 0
inductive LR where
  | skip (b : Nat)
  | tok (t : Tok) (b : Nat)
  | bad
def cutAt (s : ByteArray) (a : Nat) : LR :=
  let l := s.data.toList
  let c := l.getD a 0
  if c == 32 || c == 10 || c == 9 || c == 13 then .skip (a + 1)
  else if c == 35 then .skip (runTo (fun x => x != 10) l a)
  else if letter c then
    let b := runTo (fun x => letter x || digit x) l a
    .tok ⟨if isKey (s.extract a b) then 2 else 1, s.extract a b, 0, a⟩ b
  else if digit c then
    let b := runTo digit l a
    match numv (s.extract a b).data.toList 0 with
    | none => .bad
    | some n => if b < l.length && letter (l.getD b 0) then .bad else .tok ⟨3, s.extract a b, n, a⟩ b
  else if signLen l a = 0 then .bad else .tok ⟨4, s.extract a (a + signLen l a), 0, a⟩ (a + signLen l a)
def cutl (s : ByteArray) : Nat → Nat → Except (Nat × Nat) (List Tok)
  | 0, _ => .ok [⟨0, ⟨#[]⟩, 0, s.size⟩]
  | f + 1, a => if s.size ≤ a then .ok [⟨0, ⟨#[]⟩, 0, s.size⟩] else match cutAt s a with
    | .skip b => cutl s f b
    | .tok t b => (cutl s f b).map (t :: ·)
    | .bad => .error (1, a)
def cut (s : ByteArray) : Except (Nat × Nat) (List Tok) := if 65536 < s.size then .error (6, 0) else cutl s s.size 0
def parse (s : ByteArray) : Except (Nat × Nat) Prg := match cut s with
  | .error x => .error x
  | .ok ts => progp ts
end Go.Proofs.YtcdgjgoplogiiaaDoor.PT
