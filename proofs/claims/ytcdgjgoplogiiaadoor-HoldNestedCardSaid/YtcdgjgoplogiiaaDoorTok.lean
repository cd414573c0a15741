/- What lex.Cut gives is signs: the last alone is the end. -/
import Derived.Test.YtcdgjgoplogiiaaDoorPar
namespace Go.Proofs.YtcdgjgoplogiiaaDoor.PT
open Go.RowKit Go.Lib
theorem numv_lt (l : List UInt8) (n v : Nat) (hn : n < 18446744073709551616) (h : numv l n = some v) : v < 18446744073709551616 := by
  induction l generalizing n with
  | nil => simp [numv] at h; omega
  | cons c r ih =>
    unfold numv at h
    split at h
    · cases h
    · rename_i hc
      have hd : c.toNat - 48 ≤ 255 := by have := c.toNat_lt; omega
      exact ih _ (by omega) h
theorem extract_le (s : ByteArray) (a b : Nat) : (s.extract a b).size ≤ s.size := by
  rw [ByteArray.size_extract]; omega
theorem cutAt_tok {s : ByteArray} {a b : Nat} {t : Tok} (ha : a < s.size) (h : cutAt s a = .tok t b) : (t.k ≤ 4 ∧ t.k ≠ 0) ∧ t.s.size ≤ s.size ∧ t.p ≤ s.size ∧ t.v < 18446744073709551616 := by
  unfold cutAt at h
  simp only at h
  split at h
  · cases h
  split at h
  · cases h
  split at h
  · injection h with h1 h2
    subst h1
    refine ⟨?_, extract_le _ _ _, Nat.le_of_lt ha, by show 0 < _; decide⟩
    dsimp only
    split <;> decide
  split at h
  · split at h
    · cases h
    · rename_i n hn
      split at h
      · cases h
      · injection h with h1 h2
        subst h1
        exact ⟨⟨show 3 ≤ 4 by decide, show 3 ≠ 0 by decide⟩, extract_le _ _ _, Nat.le_of_lt ha, numv_lt _ 0 n (by decide) hn⟩
  · split at h
    · cases h
    · injection h with h1 h2
      subst h1
      exact ⟨⟨show 4 ≤ 4 by decide, show 4 ≠ 0 by decide⟩, extract_le _ _ _, Nat.le_of_lt ha, by show 0 < _; decide⟩
theorem cutl_ok (s : ByteArray) (hs : s.size ≤ 65536) (f a : Nat) (ts : List Tok) (h : cutl s f a = .ok ts) :
    ts.length ≤ f + 1 ∧ 0 < ts.length ∧ (∀ i t, ts[i]? = some t → t.k ≠ 0 → i + 1 < ts.length) ∧ ∀ t ∈ ts, t.k ≤ 4 ∧ t.s.size ≤ 65536 ∧ t.p ≤ 65536 ∧ t.v < 18446744073709551616 := by
  have hend : ∀ ts : List Tok, (Except.ok [⟨0, ⟨#[]⟩, 0, s.size⟩] : Except (Nat × Nat) (List Tok)) = .ok ts → ∀ f, ts.length ≤ f + 1 ∧ 0 < ts.length ∧ (∀ i t, ts[i]? = some t → t.k ≠ 0 → i + 1 < ts.length) ∧ ∀ t ∈ ts, t.k ≤ 4 ∧ t.s.size ≤ 65536 ∧ t.p ≤ 65536 ∧ t.v < 18446744073709551616 := by
    intro ts h f
    injection h with h
    subst h
    refine ⟨by simp, by simp, fun i t hi hk => ?_, fun t ht => ?_⟩
    · cases i with
      | zero => simp at hi; subst hi; exact absurd rfl hk
      | succ i => simp at hi
    · simp at ht
      subst ht
      exact ⟨Nat.zero_le _, show 0 ≤ 65536 by decide, hs, by show 0 < _; decide⟩
  induction f generalizing a ts with
  | zero => exact hend ts h 0
  | succ f ih =>
    unfold cutl at h
    split at h
    · exact hend ts h (f + 1)
    · rename_i ha
      cases hc : cutAt s a with
      | skip b =>
        rw [hc] at h
        obtain ⟨h1, h2⟩ := ih b ts h
        exact ⟨by omega, h2⟩
      | bad => rw [hc] at h; cases h
      | tok t b =>
        rw [hc] at h
        simp only at h
        cases hr : cutl s f b with
        | error e => rw [hr] at h; cases h
        | ok r =>
          rw [hr] at h
          have e : t :: r = ts := by injection h
          obtain ⟨h1, h2, h3, h4⟩ := ih b r hr
          obtain ⟨⟨k1, k2⟩, k3, k4, k5⟩ := cutAt_tok (by omega) hc
          subst e
          refine ⟨by simp; omega, by simp, fun i u hi hk => ?_, fun u hu => ?_⟩
          · cases i with
            | zero => simp; omega
            | succ i =>
              have := h3 i u (by simpa using hi) hk
              simp; omega
          · rcases List.mem_cons.1 hu with rfl | hu
            · exact ⟨k1, by omega, by omega, k5⟩
            · exact h4 u hu
theorem toks_of_cut (s : ByteArray) (ts : List Tok) (h : cut s = .ok ts) : Toks ts ∧ 0 < ts.length := by
  unfold cut at h
  split at h
  · cases h
  · rename_i hs
    obtain ⟨h1, h2, h3, h4⟩ := cutl_ok s (by omega) s.size 0 ts h
    exact ⟨⟨by omega, h3, h4⟩, h2⟩
end Go.Proofs.YtcdgjgoplogiiaaDoor.PT
