/- (*parser).stmt, (*parser).block: all of them. -/
import Derived.Test.YtcdgjgoplogiiaaDoorStt
namespace Go.Proofs.YtcdgjgoplogiiaaDoor.PT
open Go.RowKit Go.Lib
theorem stmt_any (d : Nat) : StmtP d := by
  induction d with
  | zero =>
    intro b g c ts q dp w hdp hts h
    have e : entp ts q dp = failp ts 6 q := by unfold entp; rw [if_pos (by omega)]
    have := stmt_zero b g c ts q dp w (by omega) hts h (by rw [e]; unfold failp; split <;> simp_all)
    rw [e] at this
    exact this
  | succ d ih =>
    intro b g c ts q dp w hdp hts h
    by_cases he : q.e.isSome = true
    · have e : entp ts q dp = q := by unfold entp; rw [if_neg (by omega)]
      have := stmt_zero b g c ts q dp w (by omega) hts h (by rw [e]; cases hq : q.e <;> simp_all)
      rw [e] at this
      have e1 : stmtp ts (d + 1) q = (st0 (nxt ts q).p, q) := by unfold stmtp; rw [if_pos he]
      rw [e1]
      exact this
    · cases h0 : isp ts ⟨#[105, 102]⟩ q with
      | true =>
        cases h2 : isp ts ⟨#[101, 108, 115, 101]⟩ (blockp ts (stmtp ts d) (wantp ts ⟨#[41]⟩ (exprp ts d 0 (wantp ts ⟨#[40]⟩ (adv q))).2)).2 with
        | true => exact stmt_else d b g c ts q dp w ih hdp hts h he h0 h2
        | false => exact stmt_if d b g c ts q dp w ih hdp hts h he h0 h2
      | false =>
        cases h1 : isp ts ⟨#[108, 111, 111, 112]⟩ q with
        | true => exact stmt_loop d b g c ts q dp w ih hdp hts h he h0 h1
        | false => exact stmt_simple d b g c ts q dp w ih hdp hts h he h0 h1
theorem block_any (d b g c : Nat) (ts : List Tok) (q : PS) (dp : Nat) (w : World) (hdp : dp + d = 40) (hts : Toks ts) (h : PM w b g c ts q dp) :
    Calls Tryd.prog 33 #[.pointer (some ⟨b, 0, none⟩)] w (BPost w b g c ts (blockp ts (stmtp ts d) q) dp) := block_calls d (stmt_any d) b g c ts q dp w hdp hts h
end Go.Proofs.YtcdgjgoplogiiaaDoor.PT
