/- (*parser).simple in all; (*parser).block, by what a statement gives. -/
import Derived.Test.YtcdgjgoplogiiaaDoorSima
import Derived.Test.YtcdgjgoplogiiaaDoorSimd
namespace Go.Proofs.YtcdgjgoplogiiaaDoor.PT
open Go.RowKit Go.Lib
set_option linter.unusedVariables false
set_option linter.unusedSimpArgs false
theorem simple_any (d b g c : Nat) (ts : List Tok) (q : PS) (dp S : Nat) (p : Int) (w : World) (hdp : dp + d = 40) (hts : Toks ts) (h : PM w b g c ts q dp) (hS : w.heap[S]? = some (.cells (sv0 p).cells.toArray TS (0, 0))) :
    Calls Tryd.prog 83 #[.pointer (some ⟨b, 0, none⟩), .pointer (some ⟨S, 0, none⟩)] w (SPost w b g c ts (simplep ts (exprp ts d 0) p q) dp S) := by
  have hr := expr_any d
  cases h0 : isp ts ⟨#[108, 111, 99, 97, 108]⟩ q with
  | true => exact simple_local d hr b g c ts q dp S p w hdp hts h hS h0
  | false =>
    cases h1 : isp ts ⟨#[116, 97, 107, 101]⟩ q with
    | true => exact simple_take d hr b g c ts q dp S p w hdp hts h hS h0 h1
    | false =>
      cases h2 : isp ts ⟨#[103, 105, 118, 101]⟩ q with
      | true => exact simple_give d hr b g c ts q dp S p w hdp hts h hS h0 h1 h2
      | false =>
        cases h3 : isp ts ⟨#[97, 100, 100]⟩ q with
        | true => exact simple_add d hr b g c ts q dp S p w hdp hts h hS h0 h1 h2 h3
        | false =>
          cases h4 : isp ts ⟨#[102, 101, 110, 99, 101]⟩ q with
          | true => exact simple_fence d hr b g c ts q dp S p w hdp hts h hS h0 h1 h2 h3 h4
          | false =>
            cases h5 : isp ts ⟨#[111, 117, 116, 112, 117, 116]⟩ q with
            | true => exact simple_output d hr b g c ts q dp S p w hdp hts h hS h0 h1 h2 h3 h4 h5
            | false =>
              cases h6 : isp ts ⟨#[91]⟩ (namep ts q).2 with
              | true => exact simple_store d hr b g c ts q dp S p w hdp hts h hS h0 h1 h2 h3 h4 h5 h6
              | false => exact simple_assign d hr b g c ts q dp S p w hdp hts h hS h0 h1 h2 h3 h4 h5 h6
/-! ### Statements go on -/
/-- Something has been read, or is wrong. -/
def Goes (q r : PS) : Prop := q.i ≤ r.i ∧ (r.e.isSome = true ∨ q.i < r.i)
theorem failp_e (ts : List Tok) (n : Nat) (q : PS) : (failp ts n q).e.isSome = true := by
  obtain ⟨i, e⟩ := q
  cases e <;> rfl
theorem wantp_goes (ts : List Tok) (x : ByteArray) (q : PS) : Goes q (wantp ts x q) := by
  unfold wantp
  split
  · exact ⟨Nat.le_succ _, .inr (Nat.lt_succ_self _)⟩
  · exact ⟨Nat.le_of_eq (failp_i _ _ _).symm, .inl (failp_e _ _ _)⟩
theorem numberp_i (ts : List Tok) (lo hi : Nat) (q : PS) : q.i ≤ (numberp ts lo hi q).2.i := by
  unfold numberp
  split
  · split
    · show q.i ≤ (failp ts 6 q).i
      rw [failp_i]; exact Nat.le_refl _
    · exact Nat.le_succ _
  · show q.i ≤ (failp ts 2 q).i
    rw [failp_i]; exact Nat.le_refl _
theorem simplep_i (ts : List Tok) (ex : PS → Tree × PS) (he : ∀ q, q.i ≤ (ex q).2.i) (p : Int) (q : PS) : q.i ≤ (simplep ts ex p q).2.i := by
  have h1 : q.i ≤ (adv q).i := Nat.le_succ _
  have h2 := namep_i ts (adv q)
  have h2' := namep_i ts q
  unfold simplep
  split
  · exact Nat.le_trans h1 (Nat.le_trans h2 (Nat.le_trans (wantp_i _ _ _) (he _)))
  split
  · exact Nat.le_trans h1 h2
  split
  · exact Nat.le_trans h1 h2
  split
  · exact Nat.le_trans h1 (Nat.le_trans h2 (he _))
  split
  · exact h1
  split
  · exact Nat.le_trans h1 (he _)
  simp only
  split
  · exact Nat.le_trans h2' (Nat.le_trans (Nat.le_succ _) (Nat.le_trans (he (adv (namep ts q).2)) (Nat.le_trans (wantp_i _ _ _) (Nat.le_trans (wantp_i _ _ _) (he _)))))
  · exact Nat.le_trans h2' (Nat.le_trans (wantp_i _ _ _) (he _))
theorem blocklp_i (ts : List Tok) (stm : PS → St × PS) (hs : ∀ q, q.i ≤ (stm q).2.i) (f : Nat) (q : PS) : q.i ≤ (blocklp ts stm f q).2.i := by
  induction f generalizing q with
  | zero => exact Nat.le_refl _
  | succ f ih =>
    unfold blocklp
    split
    · exact Nat.le_refl _
    · exact Nat.le_trans (hs q) (ih _)
theorem blockp_i (ts : List Tok) (stm : PS → St × PS) (hs : ∀ q, q.i ≤ (stm q).2.i) (q : PS) : q.i ≤ (blockp ts stm q).2.i :=
  Nat.le_trans (wantp_i ts ⟨#[123]⟩ q) (Nat.le_trans (blocklp_i ts stm hs _ _) (wantp_i _ _ _))
theorem stmtp_goes (ts : List Tok) (d : Nat) (q : PS) : Goes q (stmtp ts d q).2 := by
  induction d generalizing q with
  | zero => exact ⟨Nat.le_of_eq (failp_i _ _ _).symm, .inl (failp_e _ _ _)⟩
  | succ d ih =>
    have hs : ∀ q, q.i ≤ (stmtp ts d q).2.i := fun q => (ih q).1
    have hb : ∀ q, q.i ≤ (blockp ts (stmtp ts d) q).2.i := blockp_i ts _ hs
    have up : ∀ r : PS, (adv q).i ≤ r.i → Goes q r := fun r h => ⟨Nat.le_trans (Nat.le_succ _) h, .inr h⟩
    unfold stmtp
    split
    · rename_i he
      exact ⟨Nat.le_refl _, .inl he⟩
    split
    · simp only
      have h1 := Nat.le_trans (wantp_i ts ⟨#[40]⟩ (adv q)) (Nat.le_trans (exprp_i ts d 0 _) (Nat.le_trans (wantp_i ts ⟨#[41]⟩ _) (hb _)))
      split
      · exact up _ (Nat.le_trans h1 (Nat.le_trans (Nat.le_succ _) (hb (adv _))))
      · exact up _ h1
    split
    · exact up _ (Nat.le_trans (namep_i ts (adv q)) (Nat.le_trans (numberp_i _ _ _ _) (hb _)))
    · simp only
      have h1 := simplep_i ts (exprp ts d 0) (fun q => exprp_i ts d 0 q) (nxt ts q).p q
      have h2 := wantp_goes ts ⟨#[59]⟩ (simplep ts (exprp ts d 0) (nxt ts q).p q).2
      exact ⟨Nat.le_trans h1 h2.1, h2.2.imp id (fun h => Nat.lt_of_le_of_lt h1 h)⟩
/-! ### Blocks -/
def TPost (w : World) (b g c : Nat) (ts : List Tok) (r : St × PS) (dp : Nat) (e : Ending) (w' : World) : Prop :=
  ∃ x : SV, e = .returned x.val ∧ SA r.1 (fun k => w.heap.size ≤ k) w' x ∧ PT w b g c ts r.2 dp w'
def StmtP (d : Nat) : Prop := ∀ (b g c : Nat) (ts : List Tok) (q : PS) (dp : Nat) (w : World), dp + d = 40 → Toks ts → PM w b g c ts q dp →
  Calls Tryd.prog 58 #[.pointer (some ⟨b, 0, none⟩)] w (TPost w b g c ts (stmtp ts d q) dp)
def BPost (w : World) (b g c : Nat) (ts : List Tok) (r : Blk × PS) (dp : Nat) (e : Ending) (w' : World) : Prop :=
  ∃ (A : Option Addr) (n cc : Nat), e = .returned (.slice A n cc) ∧ Bs r.1 (fun k => w.heap.size ≤ k) w' A n cc ∧ PT w b g c ts r.2 dp w'
theorem SA.stay {s : St} {P P' : Nat → Prop} {w w' : World} {x : SV} (h : SA s P w x) (hP : ∀ g, P g → g < w.heap.size → P' g) (hk : Stay TE P w w') (hs : Stay TS P w w') : SA s P' w' x := BA.stay h hP hk hs
/-- Statements are read: n of them. -/
structure BI (w : World) (b g c : Nat) (ts : List Tok) (dp : Nat) (stm : PS → St × PS) (res : Blk × PS) (f n : Nat) (acc : Blk) (l : List SV) (A : Option Addr) (cc : Nat) (q : PS) (wr : World) : Prop where
  pt : PT w b g c ts q dp wr
  own : wr.ownsRow w.heap.size TS 7 (.slice A n cc) n (l.flatMap SV.cells)
  ba : BA acc (fun i => w.heap.size ≤ i ∧ (Value.slice A n cc).ownBlock ≠ some i) wr l
  eq : res = (acc.app (blocklp ts stm f q).1, (blocklp ts stm f q).2)
  fu : q.e.isSome = true ∨ ts.length < q.i + f
  cnt : n + f = ts.length + 1
theorem BI.next {w : World} {b g c : Nat} {ts : List Tok} {dp : Nat} {stm : PS → St × PS} {res : Blk × PS} {f n : Nat} {acc : Blk} {l : List SV} {A : Option Addr} {cc : Nat} {q q' : PS} {wr w7 w9 : World} {x : SV} {s : St} {g' cap' : Nat} (h : BI w b g c ts dp stm res (f + 1) n acc l A cc q wr)
    (hs : stm q = (s, q')) (hq : q.e.isSome = false) (hi : isp ts ⟨#[125]⟩ q = false) (hgo : Goes q q')
    (hp : PT wr b g c ts q' dp w7) (hat : SA s (fun i => wr.heap.size ≤ i) w7 x) (hown : w9.ownsRow w.heap.size TS 7 (.slice (some ⟨g', 0, none⟩) (n + 1) cap') (n + 1) (l.flatMap SV.cells ++ x.cells))
    (hgrow : (w7.alloc (.cells x.cells.toArray TS)).grownBy w9 (Value.slice A n cc).ownBlock) (hor : (Value.slice A n cc).ownBlock = some g' ∨ g' = w7.heap.size + 1) :
    BI w b g c ts dp stm res f (n + 1) (acc.app (s.one .nil)) (l ++ [x]) (some ⟨g', 0, none⟩) cap' q' w9 := by
  have s8 : (w7.alloc (.cells x.cells.toArray TS)).heap.size = w7.heap.size + 1 := by simp
  have s7 := hp.2.size
  have s0 := h.pt.2.size
  have hb : ∀ r, (Value.slice A n cc).ownBlock = some r → w.heap.size ≤ r ∧ r < wr.heap.size := fun r hr => by
    obtain ⟨a1, cur, a2⟩ := own_blk h.own hr
    exact ⟨a1, lt_heap a2⟩
  have hg' : w.heap.size ≤ g' := by rcases hor with e | e; exact (hb g' e).1; omega
  have own7 : w7.ownsRow w.heap.size TS 7 (.slice A n cc) n (l.flatMap SV.cells) := own_pm h.own h.pt.1 hp.2 (by decide)
  have p9 := PT.grow ((h.pt.trans hp).alloc (.cells x.cells.toArray TS)) (own7.alloc _) hgrow (by decide) (Nat.le_refl _)
  have ne : ∀ {i : Nat} {cs : Array Value} {E : TypeId}, wr.heap[i]? = some (.cells cs E (0, 0)) → E ≠ TP → w7.heap[i]? = wr.heap[i]? := fun {i cs E} hc hE => (blk_pm h.pt.1 hp.2 hc hE).trans hc.symm
  have step : ∀ {P' : Nat → Prop} {bb : Blk} {ll : List SV}, BA bb P' w7 ll → (∀ i, P' i → i < w7.heap.size → w.heap.size ≤ i ∧ (Value.slice A n cc).ownBlock ≠ some i) → BA bb (fun i => w.heap.size ≤ i ∧ (Value.slice (some ⟨g', 0, none⟩) (n + 1) cap').ownBlock ≠ some i) w9 ll := by
    intro P' bb ll hB hP
    refine hB.mono (fun i hi hl => ⟨(hP i hi hl).1, fun e => ?_⟩) fun i hi hl => (hgrow.block i (by omega) (Ne.symm (hP i hi hl).2)).trans (Below.heap_alloc _ _ _ hl)
    have e' : g' = i := by injection e
    rcases hor with e1 | e1
    · exact (hP i hi hl).2 (by rw [e1, e'])
    · omega
  refine ⟨p9, ?_, BA.app (step (h.ba.stay (fun i hi _ => hi) (fun i cs _ hc => ne hc (by decide)) (fun i cs _ hc => ne hc (by decide))) (fun i hi _ => hi)) (step hat (fun i hi hl => ⟨by omega, fun e => by have := (hb i e).2; omega⟩)), ?_, ?_, ?_⟩
  · rw [List.flatMap_append, List.flatMap_cons, List.flatMap_nil, List.append_nil]
    exact hown
  · have e1 : blocklp ts stm (f + 1) q = (s.one (blocklp ts stm f q').1, (blocklp ts stm f q').2) := by
      show (if _ then _ else _) = _
      rw [hq, hi, hs]; rfl
    rw [h.eq, e1, Blk.app_assoc]
    rfl
  · rcases h.fu with e | e
    · rw [hq] at e; cases e
    · rcases hgo.2 with e2 | e2
      · exact .inl e2
      · exact .inr (by omega)
  · have := h.cnt; omega
/-- All have been read. -/
theorem BI.done {w : World} {b g c : Nat} {ts : List Tok} {dp : Nat} {stm : PS → St × PS} {res : Blk × PS} {f n : Nat} {acc : Blk} {l : List SV} {A : Option Addr} {cc : Nat} {q : PS} {wr : World} (h : BI w b g c ts dp stm res f n acc l A cc q wr)
    (hq : q.e.isSome = true ∨ isp ts ⟨#[125]⟩ q = true) : res = (acc, q) := by
  have e : blocklp ts stm f q = (.nil, q) := by
    cases f with
    | zero => rfl
    | succ f =>
      show (if _ then _ else _) = _
      rw [if_pos (by rcases hq with e | e <;> simp [e])]
  rw [h.eq, e, Blk.app_nil]
theorem BI.bs {w : World} {b g c : Nat} {ts : List Tok} {dp : Nat} {stm : PS → St × PS} {res : Blk × PS} {f n : Nat} {acc : Blk} {l : List SV} {A : Option Addr} {cc : Nat} {q : PS} {wr : World} (h : BI w b g c ts dp stm res f n acc l A cc q wr) : Bs acc (fun k => w.heap.size ≤ k) wr A n cc := by
  refine ⟨?_, l, h.ba.mono (fun i hi _ => hi.1) (fun _ _ _ => rfl), ?_⟩
  · have h1 := h.own.1
    rw [flat_len SV.cells 7 (fun _ => rfl)] at h1
    have h2 := h.ba.length
    omega
  · rcases h.own.2 with ⟨e, e0⟩ | ⟨g', cap, cur, e, h2, h3, h4, h5, h6, h7⟩
    · left
      have h1 := h.own.1
      rw [e0] at h1
      injection e with a1 a2 a3
      exact ⟨a1, e0, a3, List.length_eq_zero_iff.1 (by omega)⟩
    · right
      have hrow := Row.own h.own g' cap (by rw [e])
      injection e with a1 a2 a3
      exact ⟨g', a1, h2, by omega, by omega, hrow⟩
end Go.Proofs.YtcdgjgoplogiiaaDoor.PT
