/- Declarations and threads without anything in them: what the parser says, by their numbers. -/
import Derived.Test.YtcdgjgoplogiiaaDoorLd
import Derived.Test.YtcdgjgoplogiiaaDoorExp
namespace Go.Proofs.YtcdgjgoplogiiaaDoor.PT
open Go.RowKit Go.Lib
set_option linter.unusedVariables false
set_option linter.unusedSimpArgs false
/-- The sign at i. -/
def Kd' (ts : List Tok) (i k : Nat) (s : ByteArray) : Prop := (nxt ts ⟨i, none⟩).k = k ∧ (nxt ts ⟨i, none⟩).s = s
theorem Kd'.of {ts : List Tok} {ks : List (Nat × ByteArray)} (h : ts.map (fun t => (t.k, t.s)) = ks) {i k : Nat} {s : ByteArray} (hi : ks[i]? = some (k, s)) : Kd' ts i k s := by
  rw [← h, List.getElem?_map] at hi
  cases ht : ts[i]? with
  | none => rw [ht] at hi; cases hi
  | some t =>
    rw [ht] at hi
    have e : nxt ts ⟨i, none⟩ = t := by
      show tokAt ts ⟨i, none⟩ = t
      rw [tokAt, List.getD_eq_getElem?_getD, ht]; rfl
    simp at hi
    exact ⟨by rw [e]; exact hi.1, by rw [e]; exact hi.2⟩
theorem isp_of {ts : List Tok} {i k : Nat} {s : ByteArray} (h : Kd' ts i k s) (x : ByteArray) : isp ts x ⟨i, none⟩ = ((k == 4 || k == 2) && beq s x) := by
  unfold isp
  rw [h.1, h.2]
theorem namep_of {ts : List Tok} {i : Nat} {s : ByteArray} (h : Kd' ts i 1 s) : namep ts ⟨i, none⟩ = (s, ⟨i + 1, none⟩) := by
  unfold namep
  rw [h.1, h.2]
  rfl
theorem wantp_of {ts : List Tok} {i k : Nat} {s x : ByteArray} (h : Kd' ts i k s) (hx : ((k == 4 || k == 2) && beq s x) = true) : wantp ts x ⟨i, none⟩ = ⟨i + 1, none⟩ := by
  unfold wantp
  rw [isp_of h, hx]
  rfl
theorem declp_pub {ts : List Tok} {i : Nat} {s : ByteArray} (h0 : Kd' ts i 2 sPub) (h1 : Kd' ts (i + 1) 1 s) (h2 : Kd' ts (i + 2) 4 ⟨#[59]⟩) : (declp ts ⟨i, none⟩).2 = ⟨i + 3, none⟩ := by
  have e1 : isp ts ⟨#[108, 111, 99, 107]⟩ ⟨i, none⟩ = false := (isp_of h0 _).trans (by decide)
  have e2 : isp ts ⟨#[112, 117, 98, 108, 105, 99]⟩ ⟨i, none⟩ = true := (isp_of h0 _).trans (by decide)
  have e3 : adv (⟨i, none⟩ : PS) = ⟨i + 1, none⟩ := rfl
  have e4 := namep_of h1
  have e5 : isp ts ⟨#[91]⟩ ⟨i + 1 + 1, none⟩ = false := (isp_of h2 _).trans (by decide)
  have e6 : isp ts ⟨#[98, 121]⟩ ⟨i + 1 + 1, none⟩ = false := (isp_of h2 _).trans (by decide)
  have e7 : wantp ts ⟨#[59]⟩ ⟨i + 1 + 1, none⟩ = ⟨i + 1 + 1 + 1, none⟩ := wantp_of h2 (by decide)
  unfold declp
  simp only [e1, e2, e3, e4, e5, e6, e7, if_true, if_false, Bool.false_eq_true]
theorem block_empty {ts : List Tok} {i : Nat} (stm : PS → St × PS) (h0 : Kd' ts i 4 ⟨#[123]⟩) (h1 : Kd' ts (i + 1) 4 ⟨#[125]⟩) : blockp ts stm ⟨i, none⟩ = (.nil, ⟨i + 2, none⟩) := by
  have e1 : wantp ts ⟨#[123]⟩ ⟨i, none⟩ = ⟨i + 1, none⟩ := wantp_of h0 (by decide)
  have e2 : isp ts ⟨#[125]⟩ ⟨i + 1, none⟩ = true := (isp_of h1 _).trans (by decide)
  have e3 : wantp ts ⟨#[125]⟩ ⟨i + 1, none⟩ = ⟨i + 1 + 1, none⟩ := wantp_of h1 (by decide)
  have e4 : blocklp ts stm (ts.length + 1) ⟨i + 1, none⟩ = (.nil, ⟨i + 1, none⟩) := by
    unfold blocklp
    rw [e2]; rfl
  unfold blockp
  rw [e1, e4]
  simp only [e3]
theorem dks_len (d : Nat) : (dks d).length = 3 * d := by
  induction d with
  | zero => rfl
  | succ d ih => simp only [dks, List.length_append, ih, List.length_cons, List.length_nil]; omega
theorem tks_len (t : Nat) : (tks t).length = 3 * t := by
  induction t with
  | zero => rfl
  | succ t ih => simp only [tks, List.length_append, ih, List.length_cons, List.length_nil]; omega
theorem dks_get (d j : Nat) (h : j < d) : (dks d)[3 * j]? = some (2, sPub) ∧ (dks d)[3 * j + 1]? = some (1, Bt (aK j)) ∧ (dks d)[3 * j + 2]? = some (4, ⟨#[59]⟩) := by
  induction d with
  | zero => omega
  | succ d ih =>
    have hl := dks_len d
    by_cases hj : j < d
    · obtain ⟨a, b, c⟩ := ih hj
      simp only [dks]
      rw [List.getElem?_append_left (by omega), List.getElem?_append_left (by omega), List.getElem?_append_left (by omega)]
      exact ⟨a, b, c⟩
    · obtain rfl : j = d := by omega
      simp only [dks]
      rw [List.getElem?_append_right (by omega), List.getElem?_append_right (by omega), List.getElem?_append_right (by omega), hl, show 3 * j - 3 * j = 0 by omega, show 3 * j + 1 - 3 * j = 1 by omega, show 3 * j + 2 - 3 * j = 2 by omega]
      exact ⟨rfl, rfl, rfl⟩
theorem tks_get (t j : Nat) (h : j < t) : (tks t)[3 * j]? = some (2, sThr) ∧ (tks t)[3 * j + 1]? = some (4, ⟨#[123]⟩) ∧ (tks t)[3 * j + 2]? = some (4, ⟨#[125]⟩) := by
  induction t with
  | zero => omega
  | succ t ih =>
    have hl := tks_len t
    by_cases hj : j < t
    · obtain ⟨a, b, c⟩ := ih hj
      simp only [tks]
      rw [List.getElem?_append_left (by omega), List.getElem?_append_left (by omega), List.getElem?_append_left (by omega)]
      exact ⟨a, b, c⟩
    · obtain rfl : j = t := by omega
      simp only [tks]
      rw [List.getElem?_append_right (by omega), List.getElem?_append_right (by omega), List.getElem?_append_right (by omega), hl, show 3 * j - 3 * j = 0 by omega, show 3 * j + 1 - 3 * j = 1 by omega, show 3 * j + 2 - 3 * j = 2 by omega]
      exact ⟨rfl, rfl, rfl⟩
section
variable {ts : List Tok} {d t : Nat} (hts : ts.map (fun t => (t.k, t.s)) = dks d ++ tks t ++ [(0, ⟨#[]⟩)])
include hts
theorem at_d (j : Nat) (h : j < d) : Kd' ts (3 * j) 2 sPub ∧ Kd' ts (3 * j + 1) 1 (Bt (aK j)) ∧ Kd' ts (3 * j + 2) 4 ⟨#[59]⟩ := by
  have hl := dks_len d
  obtain ⟨a, b, c⟩ := dks_get d j h
  have up : ∀ {i : Nat} {x : Nat × ByteArray}, i < 3 * d → (dks d)[i]? = some x → (dks d ++ tks t ++ [(0, ⟨#[]⟩)])[i]? = some x := fun {i x} hi hx => by
    rw [List.append_assoc, List.getElem?_append_left (by omega)]; exact hx
  exact ⟨Kd'.of hts (up (by omega) a), Kd'.of hts (up (by omega) b), Kd'.of hts (up (by omega) c)⟩
theorem at_t (j : Nat) (h : j < t) : Kd' ts (3 * d + 3 * j) 2 sThr ∧ Kd' ts (3 * d + 3 * j + 1) 4 ⟨#[123]⟩ ∧ Kd' ts (3 * d + 3 * j + 2) 4 ⟨#[125]⟩ := by
  have hl := dks_len d
  have hm := tks_len t
  obtain ⟨a, b, c⟩ := tks_get t j h
  have up : ∀ {i : Nat} {x : Nat × ByteArray}, i < 3 * t → (tks t)[i]? = some x → (dks d ++ tks t ++ [(0, ⟨#[]⟩)])[3 * d + i]? = some x := fun {i x} hi hx => by
    rw [List.append_assoc, List.getElem?_append_right (by omega), hl, show 3 * d + i - 3 * d = i by omega, List.getElem?_append_left (by omega)]; exact hx
  exact ⟨Kd'.of hts (up (by omega) a), Kd'.of hts (by have := up (by omega) b; rwa [← Nat.add_assoc] at this), Kd'.of hts (by have := up (by omega) c; rwa [← Nat.add_assoc] at this)⟩
theorem at_e : Kd' ts (3 * d + 3 * t) 0 ⟨#[]⟩ := by
  have hl := dks_len d
  have hm := tks_len t
  refine Kd'.of hts ?_
  rw [List.getElem?_append_right (by simp [hl, hm])]
  simp [hl, hm]
theorem decls_lim (ht : 0 < t) (n : Nat) : ∀ j, j ≤ d → (d ≤ n + j → ∃ l, declsp ts n ⟨3 * j, none⟩ = (l, ⟨3 * d, none⟩)) ∧ (¬ d ≤ n + j → ∃ l i p, declsp ts n ⟨3 * j, none⟩ = (l, ⟨i, some (6, p)⟩)) := by
  have hth := (at_t hts 0 ht).1
  have stop : isp ts ⟨#[116, 104, 114, 101, 97, 100]⟩ ⟨3 * d, none⟩ = true := (isp_of hth _).trans (by decide)
  induction n with
  | zero =>
    intro j hj
    by_cases h : j = d
    · subst h
      refine ⟨fun _ => ⟨[], ?_⟩, fun h => by omega⟩
      unfold declsp; rw [if_pos (by rw [stop]; rfl)]
    · refine ⟨fun h => by omega, fun _ => ?_⟩
      have e : isp ts ⟨#[116, 104, 114, 101, 97, 100]⟩ ⟨3 * j, none⟩ = false := (isp_of (at_d hts j (by omega)).1 _).trans (by decide)
      refine ⟨[], 3 * j, (tokAt ts ⟨3 * j, none⟩).p, ?_⟩
      unfold declsp; rw [if_neg (by rw [e]; exact Bool.false_ne_true)]; rfl
  | succ n ih =>
    intro j hj
    by_cases h : j = d
    · subst h
      refine ⟨fun _ => ⟨[], ?_⟩, fun h => by omega⟩
      unfold declsp; rw [if_pos (by rw [stop]; rfl)]
    · obtain ⟨a, b, c⟩ := at_d hts j (by omega)
      have e : isp ts ⟨#[116, 104, 114, 101, 97, 100]⟩ ⟨3 * j, none⟩ = false := (isp_of a _).trans (by decide)
      have e2 : (declp ts ⟨3 * j, none⟩).2 = ⟨3 * (j + 1), none⟩ := declp_pub a b c
      have e3 : declsp ts (n + 1) ⟨3 * j, none⟩ = ((declp ts ⟨3 * j, none⟩).1 :: (declsp ts n ⟨3 * (j + 1), none⟩).1, (declsp ts n ⟨3 * (j + 1), none⟩).2) := by
        rw [← e2]
        show (if _ then _ else _) = _
        rw [if_neg (by rw [e]; exact Bool.false_ne_true)]
      obtain ⟨h1, h2⟩ := ih (j + 1) (by omega)
      rw [e3]
      refine ⟨fun hh => ?_, fun hh => ?_⟩
      · obtain ⟨l, hl⟩ := h1 (by omega)
        rw [hl]; exact ⟨_, rfl⟩
      · obtain ⟨l, i, p, hl⟩ := h2 (by omega)
        rw [hl]; exact ⟨_, _, _, rfl⟩
theorem threads_lim (n : Nat) : ∀ j, j ≤ t → (t ≤ n + j → ∃ l, threadsp ts n ⟨3 * d + 3 * j, none⟩ = (l, ⟨3 * d + 3 * t, none⟩)) ∧ (¬ t ≤ n + j → ∃ l i p, threadsp ts n ⟨3 * d + 3 * j, none⟩ = (l, ⟨i, some (6, p)⟩)) := by
  have hend := at_e hts
  induction n with
  | zero =>
    intro j hj
    by_cases h : j = t
    · subst h
      refine ⟨fun _ => ⟨[], ?_⟩, fun h => by omega⟩
      unfold threadsp; rw [if_pos (by rw [hend.1]; rfl)]
    · refine ⟨fun h => by omega, fun _ => ?_⟩
      have e := (at_t hts j (by omega)).1.1
      refine ⟨[], 3 * d + 3 * j, (tokAt ts ⟨3 * d + 3 * j, none⟩).p, ?_⟩
      unfold threadsp; rw [if_neg (by rw [e]; exact Bool.false_ne_true)]; rfl
  | succ n ih =>
    intro j hj
    by_cases h : j = t
    · subst h
      refine ⟨fun _ => ⟨[], ?_⟩, fun h => by omega⟩
      unfold threadsp; rw [if_pos (by rw [hend.1]; rfl)]
    · obtain ⟨a, b, c⟩ := at_t hts j (by omega)
      have e1 : wantp ts ⟨#[116, 104, 114, 101, 97, 100]⟩ ⟨3 * d + 3 * j, none⟩ = ⟨3 * d + 3 * j + 1, none⟩ := wantp_of a (by decide)
      have e2 : blockp ts (stmtp ts 40) ⟨3 * d + 3 * j + 1, none⟩ = (.nil, ⟨3 * d + 3 * (j + 1), none⟩) := block_empty _ b c
      have e3 : threadsp ts (n + 1) ⟨3 * d + 3 * j, none⟩ = (.nil :: (threadsp ts n ⟨3 * d + 3 * (j + 1), none⟩).1, (threadsp ts n ⟨3 * d + 3 * (j + 1), none⟩).2) := by
        show (if _ then _ else _) = _
        rw [if_neg (by rw [a.1]; exact Bool.false_ne_true)]
        simp only [e1, e2]
      obtain ⟨h1, h2⟩ := ih (j + 1) (by omega)
      rw [e3]
      refine ⟨fun hh => ?_, fun hh => ?_⟩
      · obtain ⟨l, hl⟩ := h1 (by omega)
        rw [hl]; exact ⟨_, rfl⟩
      · obtain ⟨l, i, p, hl⟩ := h2 (by omega)
        rw [hl]; exact ⟨_, _, _, rfl⟩
theorem prog_lim (ht : 0 < t) : (d ≤ 64 ∧ t ≤ 16 → ∃ p, progp ts = .ok p) ∧ (¬ (d ≤ 64 ∧ t ≤ 16) → ∃ p, progp ts = .error (6, p)) := by
  obtain ⟨a1, a2⟩ := decls_lim hts ht 64 0 (Nat.zero_le _)
  obtain ⟨b1, b2⟩ := threads_lim hts 16 0 (Nat.zero_le _)
  have e0 : 3 * d + 3 * 0 = 3 * d := rfl
  rw [e0] at b1 b2
  have z : (3 * 0 : Nat) = 0 := rfl
  rw [z] at a1 a2
  unfold progp
  dsimp only
  by_cases hd : d ≤ 64
  · obtain ⟨l, hl⟩ := a1 (by omega)
    rw [hl]
    dsimp only
    by_cases h16 : t ≤ 16
    · obtain ⟨m, hm⟩ := b1 (by omega)
      rw [hm]
      exact ⟨fun _ => ⟨_, rfl⟩, fun h => absurd ⟨hd, h16⟩ h⟩
    · obtain ⟨m, i, p, hm⟩ := b2 (by omega)
      rw [hm]
      exact ⟨fun h => absurd h.2 h16, fun _ => ⟨p, rfl⟩⟩
  · obtain ⟨l, i, p, hl⟩ := a2 (by omega)
    rw [hl]
    dsimp only
    have e : threadsp ts 16 ⟨i, some (6, p)⟩ = ([], ⟨i, some (6, p)⟩) := by unfold threadsp; exact if_pos rfl
    refine ⟨fun h => absurd h.1 hd, fun _ => ⟨p, ?_⟩⟩
    rw [e]
end
theorem lim_parse (d t : Nat) (hd : d ≤ 80) (ht : t ≤ 30) (h0 : 0 < t) (s : ByteArray) (hs : s.data.toList = DeT d ++ ThT t) : (d ≤ 64 ∧ t ≤ 16 → ∃ p, parse s = .ok p) ∧ (¬ (d ≤ 64 ∧ t ≤ 16) → ∃ p, parse s = .error (6, p)) := by
  obtain ⟨ts, h1, h2⟩ := lim_cut d t hd ht s hs
  unfold parse
  rw [h1]
  exact prog_lim h2 h0
end Go.Proofs.YtcdgjgoplogiiaaDoor.PT
