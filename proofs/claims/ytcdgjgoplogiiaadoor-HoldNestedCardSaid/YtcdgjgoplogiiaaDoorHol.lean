/- What hold.Check says of a program, in plain Lean; what its steps leave of locals and locks. -/
import Derived.Test.YtcdgjgoplogiiaaDoorPm
namespace Go.Proofs.YtcdgjgoplogiiaaDoor.PT
open Go.RowKit Go.Lib
set_option linter.unusedVariables false
set_option linter.unusedSimpArgs false

/-- How a cell is used that is by no lock. -/
structure Us where
  th : Nat
  ot : Bool
  ad : Bool
structure HS where
  us : ByteArray → Option Us
  held : List ByteArray
  own : List ByteArray
def memS (x : ByteArray) (l : List ByteArray) : Bool := l.any (beq x)
def putF {α : Type} (f : ByteArray → Option α) (s : ByteArray) (v : α) : ByteArray → Option α := fun x => if beq x s then some v else f x
def Us.next (u : Us) (th : Nat) (added : Bool) : Us := ⟨u.th, u.ot || decide (u.th ≠ th), u.ad && added⟩
def touchp (by' : ByteArray → Option ByteArray) (th : Nat) (s : ByteArray) (added : Bool) (p : Int) (h : HS) : Except Int HS := match by' s with
  | none => .ok h
  | some b => if memS s h.own then .ok h
    else if beq b ⟨#[]⟩ then (match h.us s with
      | none => .ok { h with us := putF h.us s ⟨th, false, added⟩ }
      | some u => if (u.next th added).ot && !(u.next th added).ad then .error p else .ok { h with us := putF h.us s (u.next th added) })
    else if memS b h.held then .ok h else .error p
def thenp (x : Except Int HS) (f : HS → Except Int HS) : Except Int HS := match x with
  | .ok h => f h
  | .error p => .error p
/-- All names of an expression. -/
def hexpr (by' : ByteArray → Option ByteArray) (th : Nat) : Tree → HS → Except Int HS
  | .lit _ _, h => .ok h
  | .name s p, h => touchp by' th s false p h
  | .cell s a p, h => thenp (touchp by' th s false p h) (hexpr by' th a)
  | .bin _ a b _, h => thenp (hexpr by' th a h) (hexpr by' th b)
  | .not a _, h => hexpr by' th a h
  | .pick a b c _, h => thenp (thenp (hexpr by' th a h) (hexpr by' th b)) (hexpr by' th c)
def hexprs (by' : ByteArray → Option ByteArray) (th : Nat) : List Tree → HS → Except Int HS
  | [], h => .ok h
  | t :: ts, h => thenp (hexpr by' th t h) (hexprs by' th ts)
def eqS : List ByteArray → List ByteArray → Bool
  | [], [] => true
  | a :: l, b :: m => beq a b && eqS l m
  | _, _ => false
/-- Statements behind which the same must be held as ahead. -/
def samep (f : HS → Except Int HS) (p : Int) (h : HS) : Except Int HS :=
  thenp (f h) fun h1 => if eqS h.held h1.held then .ok { h1 with own := h1.own.take h.own.length } else .error p
def hact (by' : ByteArray → Option ByteArray) (th : Nat) (k : Nat) (s : ByteArray) (body els : HS → Except Int HS) (p : Int) (h : HS) : Except Int HS :=
  if k = 0 then .ok { h with own := h.own ++ [s] }
  else if k = 1 ∨ k = 2 ∨ k = 7 then touchp by' th s (k == 7) p h
  else if k = 3 then thenp (samep body p h) (samep els p)
  else if k = 4 then thenp (samep body p { h with own := h.own ++ [s] }) fun h1 => .ok { h1 with own := h1.own.take (h1.own.length - 1) }
  else if k = 5 then (if memS s h.held then .error p else .ok { h with held := h.held ++ [s] })
  else if k = 6 then (match h.held.getLast? with
    | none => .error p
    | some x => if beq x s then .ok { h with held := h.held.take (h.held.length - 1) } else .error p)
  else .ok h
def hblk (by' : ByteArray → Option ByteArray) (th : Nat) : Blk → HS → Except Int HS
  | .nil, h => .ok h
  | .cons k s es _ body els p rest, h => thenp (thenp (hexprs by' th es h) (hact by' th k s (hblk by' th body) (hblk by' th els) p)) (hblk by' th rest)
def byOf : List Dcl → ByteArray → Option ByteArray
  | [], _ => none
  | d :: ds, s => match byOf ds s with
    | some b => some b
    | none => if !d.lock && beq s d.name then some d.by' else none
def atOf : Blk → Int
  | .nil => 0
  | .cons _ _ _ _ _ _ p _ => p
def hthreads (by' : ByteArray → Option ByteArray) : Nat → List Blk → (ByteArray → Option Us) → Option Int
  | _, [], _ => none
  | k, t :: ts, us => match samep (hblk by' k t) (atOf t) ⟨us, [], []⟩ with
    | .ok h => hthreads by' (k + 1) ts h.us
    | .error p => some p
/-- Where a program's locks are wrong. -/
def holdp (p : Prg) : Option Int := hthreads (byOf p.ds) 0 p.ts fun _ => none

theorem bq_iff (a b : ByteArray) : beq a b = true ↔ a = b := by
  unfold beq
  rw [beq_iff_eq]
  constructor
  · intro h
    cases a; cases b
    simp at h
    rw [h]
  · rintro rfl; rfl
theorem bq_false (a b : ByteArray) : beq a b = false ↔ a ≠ b := by
  rw [← Bool.not_eq_true, bq_iff]
theorem bq_self (a : ByteArray) : beq a a = true := (bq_iff a a).2 rfl
theorem memS_iff (x : ByteArray) (l : List ByteArray) : memS x l = true ↔ x ∈ l := by
  unfold memS
  rw [List.any_eq_true]
  constructor
  · rintro ⟨y, hy, h⟩; rw [(bq_iff x y).1 h]; exact hy
  · intro h; exact ⟨x, h, bq_self x⟩
theorem eqS_iff : ∀ l m : List ByteArray, eqS l m = true ↔ l = m
  | [], [] => by simp [eqS]
  | [], b :: m => by simp [eqS]
  | a :: l, [] => by simp [eqS]
  | a :: l, b :: m => by simp [eqS, bq_iff, eqS_iff l m]
/-- How many touches, and how many names may come. -/
def Tree.cost : Tree → Nat
  | .lit _ _ => 0
  | .name _ _ => 1
  | .cell _ a _ => 1 + a.cost
  | .bin _ a b _ => a.cost + b.cost
  | .not a _ => a.cost
  | .pick a b c _ => a.cost + b.cost + c.cost
def costs : List Tree → Nat
  | [] => 0
  | t :: ts => t.cost + costs ts
def Blk.cost : Blk → Nat
  | .nil => 0
  | .cons _ _ es _ body els _ rest => 1 + costs es + body.cost + els.cost + rest.cost
theorem touch_own {by' : ByteArray → Option ByteArray} {th : Nat} {s : ByteArray} {added : Bool} {p : Int} {h h1 : HS} (e : touchp by' th s added p h = .ok h1) : h1.own = h.own ∧ h1.held = h.held := by
  unfold touchp at e
  split at e
  · injection e with e; subst e; exact ⟨rfl, rfl⟩
  · split at e
    · injection e with e; subst e; exact ⟨rfl, rfl⟩
    · split at e
      · split at e
        · injection e with e; subst e; exact ⟨rfl, rfl⟩
        · split at e
          · cases e
          · injection e with e; subst e; exact ⟨rfl, rfl⟩
      · split at e
        · injection e with e; subst e; exact ⟨rfl, rfl⟩
        · cases e
theorem thenp_inv {x : Except Int HS} {f : HS → Except Int HS} {h1 : HS} (e : thenp x f = .ok h1) : ∃ h, x = .ok h ∧ f h = .ok h1 := by
  cases x with
  | ok h => exact ⟨h, rfl, e⟩
  | error p => cases e
theorem hexpr_own {by' : ByteArray → Option ByteArray} {th : Nat} {t : Tree} : ∀ {h h1 : HS}, hexpr by' th t h = .ok h1 → h1.own = h.own ∧ h1.held = h.held := by
  induction t with
  | lit v p => intro h h1 e; injection e with e; subst e; exact ⟨rfl, rfl⟩
  | name s p => intro h h1 e; exact touch_own e
  | cell s a p ih =>
    intro h h1 e
    obtain ⟨h2, e1, e2⟩ := thenp_inv e
    exact ⟨(ih e2).1.trans (touch_own e1).1, (ih e2).2.trans (touch_own e1).2⟩
  | bin o a b p ia ib =>
    intro h h1 e
    obtain ⟨h2, e1, e2⟩ := thenp_inv e
    exact ⟨(ib e2).1.trans (ia e1).1, (ib e2).2.trans (ia e1).2⟩
  | not a p ih => intro h h1 e; exact ih e
  | pick a b c p ia ib ic =>
    intro h h1 e
    obtain ⟨h2, e1, e2⟩ := thenp_inv e
    obtain ⟨h3, e3, e4⟩ := thenp_inv e1
    exact ⟨(ic e2).1.trans ((ib e4).1.trans (ia e3).1), (ic e2).2.trans ((ib e4).2.trans (ia e3).2)⟩
theorem hexprs_own {by' : ByteArray → Option ByteArray} {th : Nat} {ts : List Tree} : ∀ {h h1 : HS}, hexprs by' th ts h = .ok h1 → h1.own = h.own ∧ h1.held = h.held := by
  induction ts with
  | nil => intro h h1 e; injection e with e; subst e; exact ⟨rfl, rfl⟩
  | cons t ts ih =>
    intro h h1 e
    obtain ⟨h2, e1, e2⟩ := thenp_inv e
    exact ⟨(ih e2).1.trans (hexpr_own e1).1, (ih e2).2.trans (hexpr_own e1).2⟩
/-- The locals that there were stand in front. -/
def Front (f : HS → Except Int HS) : Prop := ∀ h h1, f h = .ok h1 → ∃ r, h1.own = h.own ++ r
theorem samep_own {f : HS → Except Int HS} (hf : Front f) {p : Int} {h h1 : HS} (e : samep f p h = .ok h1) : h1.own = h.own ∧ h1.held = h.held := by
  obtain ⟨h2, e1, e2⟩ := thenp_inv e
  split at e2
  · rename_i hq
    injection e2 with e2
    subst e2
    obtain ⟨r, hr⟩ := hf h h2 e1
    exact ⟨by simp [hr], ((eqS_iff _ _).1 hq).symm⟩
  · cases e2
theorem hact_front {by' : ByteArray → Option ByteArray} {th k : Nat} {s : ByteArray} {body els : HS → Except Int HS} {p : Int} (hb : Front body) (he : Front els) : Front (hact by' th k s body els p) := by
  intro h h1 e
  unfold hact at e
  split at e
  · injection e with e; subst e; exact ⟨[s], rfl⟩
  · split at e
    · exact ⟨[], by rw [List.append_nil]; exact (touch_own e).1⟩
    · split at e
      · obtain ⟨h2, e1, e2⟩ := thenp_inv e
        exact ⟨[], by rw [List.append_nil]; exact (samep_own he e2).1.trans (samep_own hb e1).1⟩
      · split at e
        · obtain ⟨h2, e1, e2⟩ := thenp_inv e
          injection e2 with e2
          subst e2
          have := (samep_own hb e1).1
          exact ⟨[], by simp [this]⟩
        · split at e
          · split at e
            · cases e
            · injection e with e; subst e; exact ⟨[], by simp⟩
          · split at e
            · split at e
              · cases e
              · split at e
                · injection e with e; subst e; exact ⟨[], by simp⟩
                · cases e
            · injection e with e; subst e; exact ⟨[], by simp⟩
theorem hblk_front (by' : ByteArray → Option ByteArray) (th : Nat) (c : Blk) : Front (hblk by' th c) := by
  induction c with
  | nil => intro h h1 e; injection e with e; subst e; exact ⟨[], by simp⟩
  | cons k s es n body els p rest ib ie ir =>
    intro h h1 e
    obtain ⟨h2, e1, e2⟩ := thenp_inv e
    obtain ⟨h3, e3, e4⟩ := thenp_inv e1
    obtain ⟨r, hr⟩ := ir h2 h1 e2
    obtain ⟨q, hq⟩ := hact_front ib ie h3 h2 e4
    exact ⟨q ++ r, by rw [hr, hq, (hexprs_own e3).1, List.append_assoc]⟩
/-- All names are short. -/
def Tree.sm : Tree → Bool
  | .lit _ _ => true
  | .name s _ => decide (s.size ≤ 65536)
  | .cell s a _ => decide (s.size ≤ 65536) && a.sm
  | .bin _ a b _ => a.sm && b.sm
  | .not a _ => a.sm
  | .pick a b c _ => a.sm && b.sm && c.sm
def smT : List Tree → Bool
  | [] => true
  | t :: ts => t.sm && smT ts
def Blk.sm : Blk → Bool
  | .nil => true
  | .cons _ s es _ body els _ rest => decide (s.size ≤ 65536) && smT es && body.sm && els.sm && rest.sm
theorem smT_mem {ts : List Tree} (h : smT ts = true) : ∀ x ∈ ts, x.sm = true := by
  induction ts with
  | nil => intro x hx; cases hx
  | cons t r ih =>
    simp only [smT, Bool.and_eq_true] at h
    intro x hx
    rcases List.mem_cons.1 hx with rfl | hx
    · exact h.1
    · exact ih h.2 x hx
end Go.Proofs.YtcdgjgoplogiiaaDoor.PT
