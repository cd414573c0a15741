/- Maps whose keys are names; the holder in memory, what a call of its methods may change. -/
import Derived.Test.YtcdgjgoplogiiaaDoorHol
import Derived.Maps.OwnSet
import Derived.Test.YtcdgjgoplogiiaaDoorMw
import Derived.Test.YtcdgjgoplogiiaaDoorShs
import Derived.Test.YtcdgjgoplogiiaaDoorCut
import Derived.Test.YtcdgjgoplogiiaaDoorReg
import Derived.Deep.DeepCutAuto
namespace Go.Proofs.YtcdgjgoplogiiaaDoor.PT
open Go.RowKit Go.Lib
set_option linter.unusedVariables false
set_option linter.unusedSimpArgs false
abbrev TSt : TypeId := 9
/-- An element reads as itself. -/
def anyR (v : Value) : Option (DataW Value × List MemPlace) := some (.held v, [])
theorem keyS : Maps.Keyed Tryd.prog TSt := Maps.string_keyed Tryd.underlying9
def kyS (s : ByteArray) : Lit := .string s.data.toList
theorem kyS_of (s : ByteArray) (h : s.size ≤ maxLen) : Go.keyOf Tryd.prog TSt (.string s) = some (kyS s) := WideMaps.keyOf_string_mk Tryd.underlying9 h
theorem kyS_inj {s t : ByteArray} (h : kyS s = kyS t) : s = t := by
  unfold kyS at h
  injection h with h
  exact (bq_iff s t).1 (by unfold beq; rw [h]; exact beq_self_eq_true _)
theorem kyS_key (s : ByteArray) : WideAt.IsKeyLit (kyS s) := trivial
/-- Block b is a map of at most n names that gives f. -/
def Mp (w : World) (b n : Nat) (f : ByteArray → Option Value) : Prop := ∃ D, w.ownsMap Tryd.prog TSt anyR b n D ∧ ∀ s, Maps.has D (kyS s) = (f s).isSome ∧ ∀ v, f s = some v → ∀ z, D.atKey (kyS s) z = .held v
theorem Mp.made (w : World) : Mp (w.alloc (.map #[] 0)) w.heap.size 0 fun _ => none :=
  ⟨_, World.ownsMap_made w Tryd.prog TSt anyR, fun s => ⟨rfl, fun v h => by cases h⟩⟩
theorem Mp.lt {w : World} {b n : Nat} {f : ByteArray → Option Value} (h : Mp w b n f) : b < w.heap.size := by
  obtain ⟨D, h, _⟩ := h
  exact h.lt
theorem Mp.kept {w w' : World} {b n : Nat} {f : ByteArray → Option Value} (h : Mp w b n f) (e : w'.heap[b]? = w.heap[b]?) : Mp w' b n f := by
  obtain ⟨D, ⟨es, clock, hb, h1⟩, h2⟩ := h
  exact ⟨D, ⟨es, clock, e.trans hb, h1⟩, h2⟩
theorem Mp.mono {w : World} {b n n' : Nat} {f : ByteArray → Option Value} (h : Mp w b n f) (hn : n ≤ n') : Mp w b n' f := by
  obtain ⟨D, h, h2⟩ := h
  exact ⟨D, h.mono hn, h2⟩
theorem Mp.isMap {w : World} {b n : Nat} {f : ByteArray → Option Value} (h : Mp w b n f) : ∃ es clock, w.heap[b]? = some (.map es clock) := by
  obtain ⟨D, ⟨es, clock, hb, _⟩, _⟩ := h
  exact ⟨es, clock, hb⟩
theorem putF_same {α : Type} (f : ByteArray → Option α) (s : ByteArray) (v : α) : putF f s v s = some v := by simp [putF, bq_self]
theorem putF_other {α : Type} (f : ByteArray → Option α) (s x : ByteArray) (v : α) (h : x ≠ s) : putF f s v x = f x := by simp [putF, (bq_false x s).2 h]
/-- 'v, ok := m[k]'. -/
theorem Mp.look {w : World} {b n : Nat} {f : ByteArray → Option Value} (h : Mp w b n f) {t e : TypeId} (ht : Tryd.prog.underlying t = some (.map TSt e)) {z : Value} (hz : (zeroValue e).run Tryd.prog w = .ok z w) (s : ByteArray) (hs : s.size ≤ maxLen) :
    (Instr.lookup t (.map (some b)) (.string s) true).run Tryd.prog w = .ok (.tuple #[(f s).getD z, .bool (f s).isSome]) w := by
  obtain ⟨D, h, h2⟩ := h
  obtain ⟨v, ps, hrun, hv⟩ := h.look_ok (R := anyR) keyS ht hz (zd := .held z) (zp := []) rfl (kyS_of s hs)
  rw [hrun, (h2 s).1]
  have hv : DataW.held v = D.atKey (kyS s) (.held z) := congrArg Prod.fst (Option.some.inj hv)
  cases hf : f s with
  | none =>
    rw [Maps.atKey_of_not_has (by rw [(h2 s).1, hf]; rfl)] at hv
    rw [DataW.held.inj hv]; rfl
  | some u =>
    rw [(h2 s).2 u hf] at hv
    rw [DataW.held.inj hv]; rfl
theorem wpList_look {w : World} {ops : Array Oper} {rest : List Oper} {o : Oper} {a : Act} {Q : Exit → Act → World → Prop} {b n : Nat} {f : ByteArray → Option Value} (h : Mp w b n f) (hg : o.guard = none) (m x : Operand) (t : TypeId) (hop : o.op = Op.lookup t m x true)
    {e : TypeId} (ht : Tryd.prog.underlying t = some (.map TSt e)) {z : Value} (hz : (zeroValue e).run Tryd.prog w = .ok z w) (hm : a.eval m = .map (some b)) (s : ByteArray) (hx : a.eval x = .string s) (hs : s.size ≤ maxLen)
    (hK : wpList Tryd.prog ops Q rest (a.put o.dst (.tuple #[(f s).getD z, .bool (f s).isSome])) w) : wpList Tryd.prog ops Q (o :: rest) a w := by
  refine wpList_plain hg fun K' hK' => ?_
  have hrun := h.look ht hz s hs
  unfold Oper.wp
  simp [execOp, hop, hm, hx, hrun, Result.andThen]
  exact hK' _ _ hK
/-- .. where it is known whether the name is there. -/
theorem wpList_look_none {w : World} {ops : Array Oper} {rest : List Oper} {o : Oper} {a : Act} {Q : Exit → Act → World → Prop} {b n : Nat} {f : ByteArray → Option Value} (h : Mp w b n f) (hg : o.guard = none) (m x : Operand) (t : TypeId) (hop : o.op = Op.lookup t m x true)
    {e : TypeId} (ht : Tryd.prog.underlying t = some (.map TSt e)) {z : Value} (hz : (zeroValue e).run Tryd.prog w = .ok z w) (hm : a.eval m = .map (some b)) (s : ByteArray) (hx : a.eval x = .string s) (hs : s.size ≤ maxLen) (hf : f s = none)
    (hK : wpList Tryd.prog ops Q rest (a.put o.dst (.tuple #[z, .bool false])) w) : wpList Tryd.prog ops Q (o :: rest) a w :=
  wpList_look h hg m x t hop ht hz hm s hx hs (by rw [hf]; exact hK)
theorem wpList_look_some {w : World} {ops : Array Oper} {rest : List Oper} {o : Oper} {a : Act} {Q : Exit → Act → World → Prop} {b n : Nat} {f : ByteArray → Option Value} (h : Mp w b n f) (hg : o.guard = none) (m x : Operand) (t : TypeId) (hop : o.op = Op.lookup t m x true)
    {e : TypeId} (ht : Tryd.prog.underlying t = some (.map TSt e)) {z : Value} (hz : (zeroValue e).run Tryd.prog w = .ok z w) (hm : a.eval m = .map (some b)) (s : ByteArray) (hx : a.eval x = .string s) (hs : s.size ≤ maxLen) {v : Value} (hf : f s = some v)
    (hK : wpList Tryd.prog ops Q rest (a.put o.dst (.tuple #[v, .bool true])) w) : wpList Tryd.prog ops Q (o :: rest) a w :=
  wpList_look h hg m x t hop ht hz hm s hx hs (by rw [hf]; exact hK)
theorem Mp.put {w : World} {b n : Nat} {f : ByteArray → Option Value} (h : Mp w b n f) {t e : TypeId} (ht : Tryd.prog.underlying t = some (.map TSt e)) (hn : n < maxLen) (s : ByteArray) (hs : s.size ≤ maxLen) (v : Value) :
    ∃ w', (Instr.mapUpdate t (.map (some b)) (.string s) v).run Tryd.prog w = .ok () w' ∧ Mp w' b (n + 1) (putF f s v) ∧ w.grownBy w' (some b) := by
  obtain ⟨D, h, h2⟩ := h
  obtain ⟨w', h3, h4, h5⟩ := h.update keyS ht hn (val := v) (d := .held v) (ps := []) (kyS_of s hs) rfl
  refine ⟨w', h3, ⟨_, h4, fun x => ?_⟩, h5⟩
  by_cases hx : x = s
  · subst hx
    rw [putF_same]
    exact ⟨Maps.has_put_same h.isMap (kyS_key x) _, fun u hu z => by rw [← Option.some.inj hu]; exact Maps.atKey_put_same h.isMap (kyS_key x) _ z⟩
  · rw [putF_other _ _ _ _ hx]
    have hne : kyS x ≠ kyS s := fun e => hx (kyS_inj e)
    exact ⟨(Maps.has_put_other hne _).trans (h2 x).1, fun u hu z => (Maps.atKey_put_other hne _ z).trans ((h2 x).2 u hu z)⟩
theorem wpList_put {w : World} {ops : Array Oper} {rest : List Oper} {o : Oper} {a : Act} {Q : Exit → Act → World → Prop} {b n : Nat} {f : ByteArray → Option Value} (h : Mp w b n f) (hg : o.guard = none) (m x v : Operand) (t : TypeId) (hop : o.op = Op.mapUpdate t m x v)
    {e : TypeId} (ht : Tryd.prog.underlying t = some (.map TSt e)) (hn : n < maxLen) (hm : a.eval m = .map (some b)) (s : ByteArray) (hx : a.eval x = .string s) (hs : s.size ≤ maxLen) (val : Value) (hv : a.eval v = val)
    (hK : ∀ w', Mp w' b (n + 1) (putF f s val) → w.grownBy w' (some b) → wpList Tryd.prog ops Q rest (a.put o.dst undef) w') : wpList Tryd.prog ops Q (o :: rest) a w := by
  refine wpList_plain hg fun K' hK' => ?_
  obtain ⟨w', hrun, r1, r2⟩ := h.put ht hn s hs val
  unfold Oper.wp
  simp [execOp, hop, hm, hx, hv, hrun, Result.andThen]
  exact hK' _ _ (hK w' r1 r2)
/-- A store, in a drawn region. -/
theorem wp_put {w : World} {o : Oper} {a : Act} {K : Act → World → Prop} {Q : Exit → Act → World → Prop} {b n : Nat} {f : ByteArray → Option Value} (h : Mp w b n f) (m x v : Operand) (t : TypeId) (hop : o.op = Op.mapUpdate t m x v)
    {e : TypeId} (ht : Tryd.prog.underlying t = some (.map TSt e)) (hn : n < maxLen) (hm : a.eval m = .map (some b)) (s : ByteArray) (hx : a.eval x = .string s) (hs : s.size ≤ maxLen) (val : Value) (hv : a.eval v = val)
    (hK : ∀ w', Mp w' b (n + 1) (putF f s val) → w.grownBy w' (some b) → K (a.put o.dst undef) w') : Oper.wp Tryd.prog o a w K Q := by
  obtain ⟨w', hrun, r1, r2⟩ := h.put ht hn s hs val
  unfold Oper.wp
  simp [execOp, hop, hm, hx, hv, hrun, Result.andThen]
  exact hK w' r1 r2
abbrev THd : TypeId := 136
abbrev THu : TypeId := 220
/-- A row of names. -/
abbrev Ns (w : World) (B : Nat) (A : Option Addr) (c : Nat) (l : List ByteArray) : Prop := Rw w B TSt A l.length c (l.map Value.string)
theorem Ns.form {w : World} {B : Nat} {A : Option Addr} {c : Nat} {l : List ByteArray} (h : Ns w B A c l) : (A = none ∧ c = 0 ∧ l = []) ∨ ∃ g cur, A = some ⟨g, 0, none⟩ ∧ B ≤ g ∧ w.heap[g]? = some (.cells cur TSt (0, 0)) ∧ l.length ≤ c ∧ c ≤ maxLen ∧ (∀ j, j < l.length → w.cell? ⟨g, j, none⟩ = some (.string (l.getD j ByteArray.empty))) := by
  rcases h.2.2 with ⟨e, e2⟩ | ⟨g, cap, cur, e, hB, hg, h3, h4, h5, h6⟩
  · injection e with e1 e3 e4
    exact .inl ⟨e1, e4, List.length_eq_zero_iff.1 (by omega)⟩
  · injection e with e1 e3 e4
    subst e4
    refine .inr ⟨g, cur, e1, hB, hg, by omega, by omega, fun j hj => ?_⟩
    rw [blk_cell hg j]
    have h7 : (cur.toList.take (l.length * 1))[j]? = (l.map Value.string)[j]? := by rw [h6]
    rw [List.getElem?_take, if_pos (by omega), List.getElem?_map, List.getElem?_eq_getElem hj] at h7
    simp at h7
    simp [h7, List.getD, hj]
theorem Ns.few {w : World} {B : Nat} {A : Option Addr} {c : Nat} {l : List ByteArray} (h : Ns w B A c l) : l.length ≤ maxLen := by
  rcases h.form with ⟨_, _, rfl⟩ | ⟨g, cur, _, _, _, h1, h2, _⟩
  · exact Nat.zero_le _
  · omega
theorem memS_has (l : List ByteArray) (x : ByteArray) : Lib.containsS (l.take l.length) x = memS x l := by
  rw [List.take_length, Bool.eq_iff_iff, Lib.containsS_iff, memS_iff]
theorem contains_calls {w : World} {B : Nat} {A : Option Addr} {n c : Nat} {l : List ByteArray} (h : Ns w B A c l) (x : ByteArray) (hn : n = l.length) :
    Calls Tryd.prog 121 #[.slice A n c, .string x] w fun e w' => e = .returned (.bool (memS x l)) ∧ w' = w := by
  subst hn
  have hm : maxLen ≤ 9223372036854775807 := by decide
  rcases h.form with ⟨rfl, rfl, rfl⟩ | ⟨g, cur, rfl, _, _, h1, h2, h3⟩
  · exact Tryd.slices_Contains_string_empty none 0 x w
  · have := Tryd.slices_Contains_string g 0 l.length c l x w (Nat.le_refl _) (by omega) (fun j hj => by rw [Nat.zero_add]; exact h3 j hj)
    rw [memS_has] at this
    exact this
theorem eqS_dec (l m : List ByteArray) : decide (l.take l.length = m.take m.length) = eqS l m := by
  rw [List.take_length, List.take_length, Bool.eq_iff_iff, decide_eq_true_iff, eqS_iff]
theorem equal_calls {w : World} {B B' : Nat} {A A' : Option Addr} {n c n' c' : Nat} {l m : List ByteArray} (h : Ns w B A c l) (h' : Ns w B' A' c' m) (hn : n = l.length) (hn' : n' = m.length) :
    Calls Tryd.prog 86 #[.slice A n c, .slice A' n' c'] w fun e w' => e = .returned (.bool (eqS l m)) ∧ ∃ q, w' = w.drewN q := by
  subst hn; subst hn'
  have hm : maxLen ≤ 9223372036854775807 := by decide
  have hfm := h'.few
  by_cases hlen : l.length = m.length
  · rcases h.form with ⟨rfl, rfl, rfl⟩ | ⟨g, cur, rfl, _, _, h1, h2, h3⟩
    · have := Tryd.slices_Equal_string_empty none A' 0 m.length c' w (by omega)
      obtain rfl : m = [] := List.length_eq_zero_iff.1 hlen.symm
      exact this.mono fun e w' ⟨he, hw⟩ => ⟨he, 0, hw⟩
    · rcases h'.form with ⟨rfl, rfl, rfl⟩ | ⟨g', cur', rfl, _, _, h1', h2', h3'⟩
      · obtain rfl : l = [] := List.length_eq_zero_iff.1 hlen
        have := Tryd.slices_Equal_string_empty (some ⟨g, 0, none⟩) none c 0 0 w (by omega)
        exact this.mono fun e w' ⟨he, hw⟩ => ⟨he, 0, hw⟩
      · have := Tryd.slices_Equal_string g 0 l.length c g' 0 m.length c' l m w (Nat.le_refl _) (Nat.le_refl _) (by omega) (by omega) (fun j hj => by rw [Nat.zero_add]; exact h3 j hj) (fun j hj => by rw [Nat.zero_add]; exact h3' j hj)
        rw [eqS_dec] at this
        exact this
  · have := Tryd.slices_Equal_string_lens A A' l.length c m.length c' w hlen
    refine this.mono fun e w' ⟨he, hw⟩ => ⟨?_, 0, hw⟩
    rw [he]
    have : eqS l m = false := by
      rw [← Bool.not_eq_true, eqS_iff]
      exact fun e => hlen (by rw [e])
    rw [this]
/-- The block of a slice's row. -/
def bk (A : Option Addr) : Option Nat := A.map Addr.block
theorem clone_calls {w : World} {B : Nat} {A : Option Addr} {n c : Nat} {l : List ByteArray} (h : Ns w B A c l) (hn : n = l.length) (hl : l.length ≤ 1000000000) :
    Calls Tryd.prog 84 #[.slice A n c] w fun e w' => ∃ A' c', e = .returned (.slice A' n c') ∧ Ns w' w.heap.size A' c' l ∧ Below w.heap.size w w' := by
  subst hn
  have key : ∀ {w' : World} {v' : Value}, w'.ownsRow w.heap.size TSt 1 v' l.length (l.map Value.string) → ∃ A' c', v' = .slice A' l.length c' ∧ Ns w' w.heap.size A' c' l := fun {w' v'} ho => by
    rcases ho.2 with ⟨e, e2⟩ | ⟨g, cap, cur, e, _⟩
    · obtain rfl : l = [] := List.length_eq_zero_iff.1 e2
      exact ⟨none, 0, e, rfl, e ▸ ho⟩
    · exact ⟨some ⟨g, 0, none⟩, cap, e, (by simp), e ▸ ho⟩
  rcases h.form with ⟨rfl, rfl, rfl⟩ | ⟨g, cur, rfl, _, _, h1, h2, h3⟩
  · refine (Tryd.slices_Clone_string_nil 0 0 w).mono fun e w' ⟨he, hw⟩ => ?_
    subst hw
    exact ⟨none, 0, he, ⟨rfl, h.2.1, .inl ⟨rfl, rfl⟩⟩, Below.refl _ _⟩
  · have hc := Tryd.slices_Clone_string g 0 l.length c l w (Nat.le_refl _) (by omega) (fun j hj => by rw [Nat.zero_add]; exact h3 j hj)
    refine hc.mono fun e w' ⟨v', he, ho, _, hb⟩ => ?_
    rw [List.take_length] at ho
    obtain ⟨A', c', rfl, hN⟩ := key ho
    exact ⟨A', c', he, hN, hb⟩
def Us.val (u : Us) : Value := .agg #[.int .i64 u.th, .bool u.ot, .bool u.ad]
def usF (us : ByteArray → Option Us) : ByteArray → Option Value := fun s => (us s).map Us.val
def byF (by' : ByteArray → Option ByteArray) : ByteArray → Option Value := fun s => (by' s).map Value.string
theorem usF_put (us : ByteArray → Option Us) (s : ByteArray) (u : Us) : putF (usF us) s u.val = usF (putF us s u) := by
  funext x
  show (if beq x s = true then some u.val else (us x).map Us.val) = (if beq x s = true then some u else us x).map Us.val
  cases beq x s <;> rfl
/-- An error, where. -/
def ErrI (w : World) (v : Value) (n : Nat) (p : Int) : Prop := ∃ g, v = .iface 106 (.pointer (some ⟨g, 0, none⟩)) ∧ w.heap[g]? = some (.cells #[.int .i64 p, .iface 51 (.int .i64 n)] TF (0, 0))
theorem ErrI.below {w w' : World} {v : Value} {n : Nat} {p : Int} (h : ErrI w v n p) (hb : Below w.heap.size w w') : ErrI w' v n p := by
  obtain ⟨g, e, hg⟩ := h
  exact ⟨g, e, blk_below hg hb⟩
theorem wrapI_calls (n : Nat) (p : Int) (w : World) :
    Calls Tryd.prog 46 #[.iface 51 (.int .i64 n), .int .i64 p] w fun e w' => e = .returned (.iface 106 (.pointer (some ⟨w.heap.size, 0, none⟩))) ∧ w' = w.alloc (.cells #[.int .i64 p, .iface 51 (.int .i64 n)] TF) := by
  go_enter Tryd.func46, Tryd.ntmps46
  go_wp2
  go_ret
  exact ⟨rfl, rfl⟩
abbrev hCells (mb mu th : Nat) (hA : Option Addr) (hn hc : Nat) (oA : Option Addr) (on oc : Nat) : Array Value := #[.map (some mb), .map (some mu), .int .i64 th, .slice hA hn hc, .slice oA on oc]
/-- The holder in block b; what it owns lies from block B on. -/
structure HMx (w : World) (B b mb mu : Nat) (by' : ByteArray → Option ByteArray) (th : Nat) (h : HS) (k : Nat) (hA : Option Addr) (hc : Nat) (oA : Option Addr) (oc : Nat) : Prop where
  blk : w.heap[b]? = some (.cells (hCells mb mu th hA h.held.length hc oA h.own.length oc) THd (0, 0))
  m0 : ∃ n, Mp w mb n (byF by')
  m1 : Mp w mu k (usF h.us)
  r0 : Ns w B hA hc h.held
  r1 : Ns w B oA oc h.own
  ne : mb ≠ mu
  apart : ∀ g, bk hA = some g → bk oA ≠ some g
  kh : h.held.length ≤ k
  ko : h.own.length ≤ k
  kk : k ≤ 100000000
  lb : B ≤ b ∧ B ≤ mb ∧ B ≤ mu
/-- What a call may change: the holder, its maps of uses, its rows. -/
structure HTr (w : World) (B b mu : Nat) (hA oA : Option Addr) (w' : World) (hA' oA' : Option Addr) : Prop where
  bel : Below B w w'
  keep : ∀ g, g < w.heap.size → g ≠ b → g ≠ mu → bk hA ≠ some g → bk oA ≠ some g → w'.heap[g]? = w.heap[g]?
  hn : bk hA' = bk hA ∨ ∀ g, bk hA' = some g → w.heap.size ≤ g
  on : bk oA' = bk oA ∨ ∀ g, bk oA' = some g → w.heap.size ≤ g
theorem HTr.refl (w : World) (B b mu : Nat) (hA oA : Option Addr) : HTr w B b mu hA oA w hA oA := ⟨Below.refl _ _, fun _ _ _ _ _ _ => rfl, .inl rfl, .inl rfl⟩
theorem HTr.trans {w w1 w2 : World} {B b mu : Nat} {hA oA hA1 oA1 hA2 oA2 : Option Addr} (h : HTr w B b mu hA oA w1 hA1 oA1) (k : HTr w1 B b mu hA1 oA1 w2 hA2 oA2) : HTr w B b mu hA oA w2 hA2 oA2 := by
  have hs := h.bel.size
  refine ⟨h.bel.trans k.bel, fun g hg hb hm h1 h2 => ?_, ?_, ?_⟩
  · refine (k.keep g (by omega) hb hm ?_ ?_).trans (h.keep g hg hb hm h1 h2)
    · rcases h.hn with e | e
      · rw [e]; exact h1
      · intro e2; have := e g e2; omega
    · rcases h.on with e | e
      · rw [e]; exact h2
      · intro e2; have := e g e2; omega
  · rcases k.hn with e | e
    · rcases h.hn with e1 | e1
      · exact .inl (e.trans e1)
      · exact .inr fun g hg => e1 g (e ▸ hg)
    · exact .inr fun g hg => Nat.le_trans hs (e g hg)
  · rcases k.on with e | e
    · rcases h.on with e1 | e1
      · exact .inl (e.trans e1)
      · exact .inr fun g hg => e1 g (e ▸ hg)
    · exact .inr fun g hg => Nat.le_trans hs (e g hg)
theorem HTr.of {w w' : World} {B b mu : Nat} {hA oA : Option Addr} (hb : Below w.heap.size w w') (hB : B ≤ w.heap.size) : HTr w B b mu hA oA w' hA oA := ⟨hb.mono hB, fun g hg _ _ _ _ => hb.block g hg, .inl rfl, .inl rfl⟩
theorem HTr.more {w w1 w' : World} {B b mu : Nat} {hA oA hA' oA' : Option Addr} (h : HTr w B b mu hA oA w1 hA' oA') (hb : Below w1.heap.size w1 w') (hB : B ≤ w.heap.size) : HTr w B b mu hA oA w' hA' oA' := h.trans (.of hb (Nat.le_trans hB h.bel.size))
theorem HTr.drew {w w' : World} {B b mu : Nat} {hA oA hA' oA' : Option Addr} (h : HTr w B b mu hA oA w' hA' oA') : HTr w B b mu hA oA w'.drew hA' oA' := ⟨h.bel.drew, h.keep, h.hn, h.on⟩
section
variable {w w' : World} {B b mb mu : Nat} {by' : ByteArray → Option ByteArray} {th : Nat} {h : HS} {k : Nat} {hA : Option Addr} {hc : Nat} {oA : Option Addr} {oc : Nat}
theorem Ns.keep {A : Option Addr} {c : Nat} {l : List ByteArray} (h : Ns w B A c l) (hk : ∀ g, bk A = some g → w'.heap[g]? = w.heap[g]?) : Ns w' B A c l := by
  refine ⟨h.1, h.2.1, ?_⟩
  rcases h.2.2 with ⟨h1, h2⟩ | ⟨g, cap, cur, h1, h2, h3, h4⟩
  · exact .inl ⟨h1, h2⟩
  · refine .inr ⟨g, cap, cur, h1, h2, (hk g ?_).trans h3, h4⟩
    injection h1 with h1
    rw [h1]; rfl
theorem Ns.lt {A : Option Addr} {c : Nat} {l : List ByteArray} (h : Ns w B A c l) {g : Nat} (hg : bk A = some g) : g < w.heap.size ∧ B ≤ g ∧ ∃ cur, w.heap[g]? = some (.cells cur TSt (0, 0)) := by
  rcases h.form with ⟨rfl, _, _⟩ | ⟨g', cur, rfl, h2, h3, _⟩
  · cases hg
  · injection hg with hg
    subst hg
    exact ⟨lt_heap h3, h2, cur, h3⟩
theorem Ns.all {A : Option Addr} {c : Nat} {l : List ByteArray} (h : Ns w B A c l) (hb : Below w.heap.size w w') : Ns w' B A c l := h.keep fun g hg => hb.block g (h.lt hg).1
theorem cells_ne {w : World} {g g' : Nat} {cs cs' : Array Value} {E E' : TypeId} {f f' : Nat × Nat} (h : w.heap[g]? = some (.cells cs E f)) (h' : w.heap[g']? = some (.cells cs' E' f')) (hE : E ≠ E') : g ≠ g' := by
  rintro rfl
  rw [h] at h'
  injection h' with h'; injection h' with _ h' _
  exact hE h'
theorem Mp.ne {n : Nat} {f : ByteArray → Option Value} {g : Nat} {cs : Array Value} {E : TypeId} {fr : Nat × Nat} (h : Mp w b n f) (h' : w.heap[g]? = some (.cells cs E fr)) : b ≠ g := by
  rintro rfl
  obtain ⟨es, clock, hb⟩ := h.isMap
  rw [hb] at h'; cases h'
/-- All of the holder's blocks stay. -/
theorem HMx.all (hm : HMx w B b mb mu by' th h k hA hc oA oc) (hb : Below w.heap.size w w') : HMx w' B b mb mu by' th h k hA hc oA oc :=
  ⟨blk_below hm.blk hb, (let ⟨n, h⟩ := hm.m0; ⟨n, h.kept (hb.block _ h.lt)⟩), hm.m1.kept (hb.block _ hm.m1.lt), hm.r0.all hb, hm.r1.all hb, hm.ne, hm.apart, hm.kh, hm.ko, hm.kk, hm.lb⟩
theorem HMx.alloc (hm : HMx w B b mb mu by' th h k hA hc oA oc) (o : Obj) : HMx (w.alloc o) B b mb mu by' th h k hA hc oA oc := hm.all ((Below.refl _ _).alloc (Nat.le_refl _) o)
theorem HMx.drew (hm : HMx w B b mb mu by' th h k hA hc oA oc) : HMx w.drew B b mb mu by' th h k hA hc oA oc := hm.all (Below.refl _ _).drew
theorem HMx.mono (hm : HMx w B b mb mu by' th h k hA hc oA oc) {k' : Nat} (hk : k ≤ k') (hk' : k' ≤ 100000000) : HMx w B b mb mu by' th h k' hA hc oA oc :=
  ⟨hm.blk, hm.m0, hm.m1.mono hk, hm.r0, hm.r1, hm.ne, hm.apart, Nat.le_trans hm.kh hk, Nat.le_trans hm.ko hk, hk', hm.lb⟩
theorem HMx.lt (hm : HMx w B b mb mu by' th h k hA hc oA oc) : b < w.heap.size := lt_heap hm.blk
/-- A store into a block that is none of the holder's. -/
theorem HMx.put (hm : HMx w B b mb mu by' th h k hA hc oA oc) {g : Nat} {cs : Array Value} {E : TypeId} {fr : Nat × Nat} (hg : w.heap[g]? = some (.cells cs E fr)) (h1 : THd ≠ E) (h2 : TSt ≠ E) (i : Nat) (v : Value) : HMx (w.setCell ⟨g, i, none⟩ v) B b mb mu by' th h k hA hc oA oc := by
  have hk : ∀ j, j ≠ g → (w.setCell ⟨g, i, none⟩ v).heap[j]? = w.heap[j]? := fun j hj => Below.heap_setCell w ⟨g, i, none⟩ v j hj
  have hrow : ∀ A c l, Ns w B A c l → Ns (w.setCell ⟨g, i, none⟩ v) B A c l := fun A c l q => q.keep fun j hj => by
    obtain ⟨_, _, cur, h3⟩ := q.lt hj
    exact hk j (cells_ne h3 hg h2)
  refine ⟨(hk b (cells_ne hm.blk hg h1)).trans hm.blk, ?_, hm.m1.kept (hk mu (hm.m1.ne hg)), hrow _ _ _ hm.r0, hrow _ _ _ hm.r1, hm.ne, hm.apart, hm.kh, hm.ko, hm.kk, hm.lb⟩
  obtain ⟨n, h3⟩ := hm.m0
  exact ⟨n, h3.kept (hk mb (h3.ne hg))⟩
theorem HTr.put {mu : Nat} {oA oA' hA' : Option Addr} {w1 : World} (h : HTr w B b mu hA oA w1 hA' oA') {g : Nat} (hg : w.heap.size ≤ g) (hB : B ≤ w.heap.size) (i : Nat) (v : Value) : HTr w B b mu hA oA (w1.setCell ⟨g, i, none⟩ v) hA' oA' :=
  ⟨h.bel.setCell (p := ⟨g, i, none⟩) (Nat.le_trans hB hg) v, fun j hj h1 h2 h3 h4 => (Below.heap_setCell w1 ⟨g, i, none⟩ v j (by show j ≠ g; omega)).trans (h.keep j hj h1 h2 h3 h4), h.hn, h.on⟩
/-- The map of uses is written. -/
theorem HMx.used (hm : HMx w B b mb mu by' th h k hA hc oA oc) {s : ByteArray} {u : Us} (hp : Mp w' mu (k + 1) (putF (usF h.us) s u.val)) (hg : w.grownBy w' (some mu)) (hk : k + 1 ≤ 100000000) :
    HMx w' B b mb mu by' th { h with us := putF h.us s u } (k + 1) hA hc oA oc ∧ HTr w B b mu hA oA w' hA oA := by
  have hblk : ∀ (g : Nat) (cs : Array Value) (E : TypeId) (fr : Nat × Nat), w.heap[g]? = some (.cells cs E fr) → w'.heap[g]? = w.heap[g]? := fun g cs E fr h1 => hg.block g (lt_heap h1) (by intro e; injection e with e; exact (hm.m1.ne h1) e.symm)
  have hrow : ∀ A c l, Ns w B A c l → Ns w' B A c l := fun A c l h1 => h1.keep fun g hgg => by
    obtain ⟨_, _, cur, h3⟩ := h1.lt hgg
    exact hblk g cur _ _ h3
  refine ⟨⟨(hblk b _ _ _ hm.blk).trans hm.blk, ?_, usF_put h.us s u ▸ hp, hrow _ _ _ hm.r0, hrow _ _ _ hm.r1, hm.ne, hm.apart, Nat.le_succ_of_le hm.kh, Nat.le_succ_of_le hm.ko, hk, hm.lb⟩, ⟨?_, fun g h1 h2 h3 _ _ => hg.block g h1 (by intro e; injection e with e; exact h3 e), .inl rfl, .inl rfl⟩⟩
  · obtain ⟨n, h1⟩ := hm.m0
    exact ⟨n, h1.kept (hg.block mb h1.lt (by intro e; injection e with e; exact hm.ne e))⟩
  · exact ⟨hg.os, hg.tape, hg.output, hg.size, fun i hi => hg.block i (Nat.lt_of_lt_of_le hi (Nat.le_trans hm.lb.2.2 (Nat.le_of_lt hm.m1.lt))) (by intro e; injection e with e; have := hm.lb.2.2; omega)⟩
end
/-- What a method of the holder hands back. -/
def HPost (r : Except Int HS) (w : World) (B b mb mu : Nat) (by' : ByteArray → Option ByteArray) (th k : Nat) (hA oA : Option Addr) (e : Ending) (w' : World) : Prop := match r with
  | .ok h' => e = .returned .nilIface ∧ ∃ hA' hc' oA' oc', HMx w' B b mb mu by' th h' k hA' hc' oA' oc' ∧ HTr w B b mu hA oA w' hA' oA'
  | .error p => ∃ u, e = .returned u ∧ ErrI w' u 5 p ∧ ∃ h' hA' hc' oA' oc', HMx w' B b mb mu by' th h' k hA' hc' oA' oc' ∧ HTr w B b mu hA oA w' hA' oA'
end Go.Proofs.YtcdgjgoplogiiaaDoor.PT
