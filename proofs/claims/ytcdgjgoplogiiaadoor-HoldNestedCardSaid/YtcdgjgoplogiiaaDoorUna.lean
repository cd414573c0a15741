/- Reading expressions: all of it. -/
import Derived.Test.YtcdgjgoplogiiaaDoorUn
import Derived.Test.YtcdgjgoplogiiaaDoorUnp
import Derived.Test.YtcdgjgoplogiiaaDoorUnl
import Derived.Test.YtcdgjgoplogiiaaDoorUnn
import Derived.Test.YtcdgjgoplogiiaaDoorUnc
import Derived.Test.YtcdgjgoplogiiaaDoorUnk
namespace Go.Proofs.YtcdgjgoplogiiaaDoor.PT
open Go.RowKit Go.Lib
theorem unary_all (d : Nat) (hr : ExprP d) : UnaryP d := by
  intro b g c ts q dp w hdp hts h
  cases h0 : isp ts ⟨#[126]⟩ q with
  | true => exact unary_not d hr b g c ts q dp w hdp hts h h0
  | false =>
    cases h1 : isp ts ⟨#[40]⟩ q with
    | true => exact unary_par d hr b g c ts q dp w hdp hts h h0 h1
    | false =>
      cases h2 : isp ts ⟨#[112, 105, 99, 107]⟩ q with
      | true => exact unary_pick d hr b g c ts q dp w hdp hts h h0 h1 h2
      | false =>
        by_cases h3 : (nxt ts q).k = 3
        · exact unary_lit d hr b g c ts q dp w hdp hts h h0 h1 h2 h3
        · cases h4 : isp ts ⟨#[91]⟩ (namep ts q).2 with
          | true => exact unary_cell d hr b g c ts q dp w hdp hts h h0 h1 h2 h3 h4
          | false => exact unary_name d hr b g c ts q dp w hdp hts h h0 h1 h2 h3 h4
theorem expr_any (d : Nat) : ExprP d := by
  induction d with
  | zero =>
    intro tight b g c ts q dp w _ _ hdp hts h
    have e : entp ts q dp = failp ts 6 q := by unfold entp; rw [if_pos (by omega)]
    have := expr_zero tight b g c ts q dp w (by omega) hts h (by rw [e]; unfold failp; split <;> simp_all)
    rw [e] at this
    exact this
  | succ d ih => exact expr_succ d ih (unary_all d ih)
end Go.Proofs.YtcdgjgoplogiiaaDoor.PT
