/- (*parser).block, by what a statement gives. -/
import Derived.Test.YtcdgjgoplogiiaaDoorBlo
namespace Go.Proofs.YtcdgjgoplogiiaaDoor.PT
open Go.RowKit Go.Lib
set_option linter.unusedVariables false
set_option linter.unusedSimpArgs false
theorem infoTS : (Tryd.prog.info? TS).map (fun i => (i.zero, i.size, i.bytes)) = some (some (.agg #[.int .i64 0, .string ByteArray.empty, .slice none 0 0, .int .i64 0, .slice none 0 0, .slice none 0 0, .int .i64 0]), 7, 112) := by kernel_rfl
theorem sv_one (x : SV) : ∀ u ∈ x.cells, u.oneCell' = true := by
  intro u hu
  simp [SV.cells] at hu
  rcases hu with rfl | rfl | rfl | rfl | rfl | rfl | rfl <;> rfl
theorem BI.keep {w : World} {b g c : Nat} {ts : List Tok} {dp : Nat} {stm : PS → St × PS} {res : Blk × PS} {f n : Nat} {acc : Blk} {l : List SV} {A : Option Addr} {cc : Nat} {q : PS} {wr w' : World} (h : BI w b g c ts dp stm res f n acc l A cc q wr) (hp : PT wr b g c ts q dp w') : BI w b g c ts dp stm res f n acc l A cc q w' :=
  ⟨h.pt.trans hp, own_pm h.own h.pt.1 hp.2 (by decide), h.ba.stay (fun _ h _ => h) (fun i cs _ hc => (blk_pm h.pt.1 hp.2 hc (by decide)).trans hc.symm) (fun i cs _ hc => (blk_pm h.pt.1 hp.2 hc (by decide)).trans hc.symm), h.eq, h.fu, h.cnt⟩
theorem Bs.gb {bb : Blk} {P : Nat → Prop} {w w' : World} {A : Option Addr} {n cc : Nat} {b g c : Nat} {ts : List Tok} {q : PS} {dp : Nat} (h : Bs bb P w A n cc) (hm : PM w b g c ts q dp) (hg : w.grownBy w' (some b)) : Bs bb P w' A n cc :=
  h.stay (fun _ h _ => h) (fun i cs _ hc => (blk_pm hm hg hc (by decide)).trans hc.symm) (fun i cs _ hc => (blk_pm hm hg hc (by decide)).trans hc.symm)
set_option maxRecDepth 100000 in
set_option maxHeartbeats 8000000 in
theorem block_calls (d : Nat) (hst : StmtP d) (b g c : Nat) (ts : List Tok) (q : PS) (dp : Nat) (w : World) (hdp : dp + d = 40) (hts : Toks ts) (h : PM w b g c ts q dp) :
    Calls Tryd.prog 33 #[.pointer (some ⟨b, 0, none⟩)] w (BPost w b g c ts (blockp ts (stmtp ts d) q) dp) := by
  obtain ⟨q0, hq0⟩ : ∃ q0, q0 = wantp ts ⟨#[123]⟩ q := ⟨_, rfl⟩
  obtain ⟨rl, hrl⟩ : ∃ rl, rl = blocklp ts (stmtp ts d) (ts.length + 1) q0 := ⟨_, rfl⟩
  obtain ⟨res, hres⟩ : ∃ res, res = blockp ts (stmtp ts d) q := ⟨_, rfl⟩
  have e1 : res = (rl.1, wantp ts ⟨#[125]⟩ rl.2) := by rw [hres, hrl, hq0]; rfl
  rw [← hres]
  have HRES := Lib.hid e1
  have HRL := Lib.hid hrl
  have HQ0 := Lib.hid hq0
  have HT := Lib.hid hts
  have HST := Lib.hid hst
  have HM := Lib.hid h
  clear hts hst h e1 hres hrl hq0
  go_enter Tryd.func33, Tryd.ntmps33
  go_wp2_with fail
  refine (want_calls b g c ts q dp HT.out ⟨#[123]⟩ w HM.out).mono ?_
  rintro e w1 ⟨rfl, hp1⟩
  rw [← HQ0.out] at hp1
  have HB0 : Hid (BI w b g c ts dp (stmtp ts d) rl (ts.length + 1) 0 .nil [] none 0 q0 w1) := Lib.hid ⟨hp1, ⟨rfl, .inl ⟨rfl, rfl⟩⟩, rfl, by rw [HRL.out]; rfl, .inr (by omega), by omega⟩
  clear hp1
  go_wp2_with fail
  go_loopg [3] (ts.length + 1) (fun f x wr => ∃ (f' n : Nat) (acc : Blk) (l : List SV) (A : Option Addr) (cc : Nat) (q1 : PS), f = f' ∧ x = .slice A n cc ∧ Hid (BI w b g c ts dp (stmtp ts d) rl f' n acc l A cc q1 wr))
  case atStart => exact ⟨_, _, _, _, _, _, _, rfl, rfl, HB0⟩
  case round =>
    obtain ⟨f', n, acc, l, A, cc, q1, hff, rfl, HK⟩ := hrel
    have hbl := HK.out.pt.1.lt
    rcases HK.out.pt.1.errc with ⟨e1, c2⟩ | ⟨e1, g', c2⟩
    · have his := is_calls b g c ts q1 dp HT.out ⟨#[125]⟩ wr HK.out.pt.1
      cases hi : isp ts ⟨#[125]⟩ q1 with
      | true =>
        rw [hi] at his
        have HIS := Lib.hid his
        have HD := Lib.hid (HK.out.done (.inr hi))
        clear his hi e1 hff
        go_wp2_with (first | (go_at_call 28; refine HIS.out.mono ?_; rintro e w4 ⟨rfl, hb4⟩; have HK4 := Lib.hid (HK.out.keep (PT.of HK.out.pt.1 hb4)); clear hb4) | (go_at_call 32; refine (want_calls b g c ts q1 dp HT.out ⟨#[125]⟩ _ HK4.out.pt.1).mono ?_; rintro e w5 ⟨rfl, hp5⟩; have HP5 := Lib.hid hp5; clear hp5))
        go_ret
        rw [HRES.out, HD.out]
        exact ⟨A, n, cc, rfl, HK4.out.bs.gb HK4.out.pt.1 HP5.out.2, HK4.out.pt.trans HP5.out⟩
      | false =>
        rw [hi] at his
        have HIS := Lib.hid his
        have hfu := HK.out.fu
        have hat' := HK.out.pt.1.at'
        obtain ⟨f2, rfl⟩ : ∃ f2, f' = f2 + 1 := ⟨f' - 1, by rw [e1] at hfu; simp at hfu; omega⟩
        subst hff
        have HI := Lib.hid hi
        have HE := Lib.hid e1
        have hcnt := HK.out.cnt
        have hlen := HT.out.len
        have hn : n ≤ 65537 := by omega
        clear his hi e1 hfu hat' hcnt hlen
        obtain ⟨i0, hi, hz0, hz1, hz2⟩ := info_parts infoTS
        go_wp2_with (first
          | (go_at_call 28; refine HIS.out.mono ?_; rintro e w4 ⟨rfl, hb4⟩; have HK4 := Lib.hid (HK.out.keep (PT.of HK.out.pt.1 hb4)); clear hb4)
          | (go_at_call 58; refine (HST.out b g c ts q1 dp w4 hdp HT.out HK4.out.pt.1).mono ?_; rintro e w7 ⟨y, rfl, hat, hp7⟩; have HP7 := Lib.hid hp7; have HAT := Lib.hid hat; clear hat hp7)
          | (at_builtin; refine wpList_append_lies _ rfl _ _ 36 rfl w.heap.size TS i0 (.agg #[.int .i64 0, .string ByteArray.empty, .slice none 0 0, .int .i64 0, .slice none 0 0, .slice none 0 0, .int .i64 0]) 7 112 Tryd.underlying36 hi hz0 hz1 hz2 rfl (by decide) (.slice A n cc) n (List.flatMap SV.cells l) rfl ((own_pm HK4.out.own HK4.out.pt.1 HP7.out.2 (by decide)).alloc _) ⟨w7.heap.size, 0, none⟩ 1 1 y.cells rfl rfl (news_new rfl) (sv_one y) (by decide) (by unfold maxLen; omega) (by omega) (by have := (HK4.out.pt.trans HP7.out).2.size; simp; omega) (w7.heap.size + 1) (by simp) ?_; intro g' cap' w9 hown hgrow hor hlt))
        have HKN := Lib.hid (HK4.out.next (s := (stmtp ts d q1).1) (q' := (stmtp ts d q1).2) rfl (by rw [HE.out]; rfl) HI.out (stmtp_goes ts d q1) HP7.out HAT.out hown hgrow hor)
        clear hown hgrow hor
        go_roundg f2
        case measure => omega
        case rel => exact ⟨_, _, _, _, _, _, _, rfl, rfl, HKN⟩
    · have HD := Lib.hid (HK.out.done (.inl e1))
      clear e1 hff
      go_wp2_with (go_at_call 32; refine (want_calls b g c ts q1 dp HT.out ⟨#[125]⟩ _ HK.out.pt.1).mono ?_; rintro e w5 ⟨rfl, hp5⟩; have HP5 := Lib.hid hp5; clear hp5)
      go_ret
      rw [HRES.out, HD.out]
      exact ⟨A, n, cc, rfl, HK.out.bs.gb HK.out.pt.1 HP5.out.2, HK.out.pt.trans HP5.out⟩
end Go.Proofs.YtcdgjgoplogiiaaDoor.PT
