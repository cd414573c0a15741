/- Programs in memory. -/
import Derived.Test.YtcdgjgoplogiiaaDoorDat
namespace Go.Proofs.YtcdgjgoplogiiaaDoor.PT
open Go.RowKit Go.Lib
set_option linter.unusedVariables false

abbrev Dcl.val (d : Dcl) : Value := .agg #[.bool d.lock, .int .i64 d.label, .string d.name, .int .i64 d.size, .string d.by', .int .i64 d.p]
def Dcl.cells (d : Dcl) : List Value := [.bool d.lock, .int .i64 d.label, .string d.name, .int .i64 d.size, .string d.by', .int .i64 d.p]
/-- Declarations in a row. -/
def DsA (ds : List Dcl) (P : Nat → Prop) (w : World) (A : Option Addr) (n c : Nat) : Prop := n = ds.length ∧ Slc w P TD A n c (ds.flatMap Dcl.cells)
/-- Threads' slices. -/
def TsV : List Blk → (Nat → Prop) → World → List (Option Addr × Nat × Nat) → Prop
  | [], _, _, vs => vs = []
  | t :: ts, P, w, vs => ∃ v r, vs = v :: r ∧ Bs t P w v.1 v.2.1 v.2.2 ∧ TsV ts P w r
def tcell (v : Option Addr × Nat × Nat) : Value := .slice v.1 v.2.1 v.2.2
def ThA (ts : List Blk) (P : Nat → Prop) (w : World) (A : Option Addr) (n c : Nat) : Prop := n = ts.length ∧ ∃ vs, TsV ts P w vs ∧ Slc w P TB' A n c (vs.map tcell)
theorem TsV.stay {ts : List Blk} {P P' : Nat → Prop} {w w' : World} {vs : List (Option Addr × Nat × Nat)} (h : TsV ts P w vs) (hP : ∀ g, P g → g < w.heap.size → P' g) (hk : Stay TE P w w') (ht : Stay TS P w w') : TsV ts P' w' vs := by
  induction ts generalizing vs with
  | nil => exact h
  | cons t ts ih =>
    obtain ⟨v, r, e, ha, hr⟩ := h
    exact ⟨v, r, e, ha.stay hP hk ht, ih hr⟩
end Go.Proofs.YtcdgjgoplogiiaaDoor.PT
