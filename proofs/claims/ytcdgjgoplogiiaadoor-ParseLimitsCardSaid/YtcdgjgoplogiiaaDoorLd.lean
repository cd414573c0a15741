/- Texts of declarations and threads without anything in them: read or not, by their numbers. -/
import Derived.Test.YtcdgjgoplogiiaaDoorLxl
import Derived.Test.YtcdgjgoplogiiaaDoorLim
namespace Go.Proofs.YtcdgjgoplogiiaaDoor.PT
open Go.RowKit Go.Lib
set_option linter.unusedVariables false
set_option linter.unusedSimpArgs false
abbrev sPub : ByteArray := ⟨#[112, 117, 98, 108, 105, 99]⟩
abbrev sThr : ByteArray := ⟨#[116, 104, 114, 101, 97, 100]⟩
def P1 (k : Nat) : List UInt8 := [112, 117, 98, 108, 105, 99, 32, 97] ++ (numL k).data.toList ++ [59, 32]
def P2 : List UInt8 := [116, 104, 114, 101, 97, 100, 32, 123, 32, 125, 32]
/-- Whatever place it begins at, it is cut into signs of these kinds and texts. -/
def Lx (e f : Nat) (l : List UInt8) (ks : List (Nat × ByteArray)) : Prop := ∀ a, ∃ r, lexL e f l a = .ok r ∧ r.map (fun t => (t.k, t.s)) = ks
theorem Lx.nil (e f : Nat) : Lx e f [] [(0, ⟨#[]⟩)] := fun a => ⟨[⟨0, ⟨#[]⟩, 0, e⟩], by cases f <;> rfl, rfl⟩
theorem p2_eq (e f : Nat) (rest : List UInt8) (a : Nat) : lexL e (f + 6) (P2 ++ rest) a = (((lexL e f rest (a + 6 + 1 + 1 + 1 + 1 + 1)).map (⟨4, ⟨#[125]⟩, 0, a + 6 + 1 + 1 + 1⟩ :: ·)).map (⟨4, ⟨#[123]⟩, 0, a + 6 + 1⟩ :: ·)).map (⟨2, sThr, 0, a⟩ :: ·) := by kernel_rfl
theorem Lx.p2 {e f : Nat} {rest : List UInt8} {ks : List (Nat × ByteArray)} (h : Lx e f rest ks) : Lx e (f + 6) (P2 ++ rest) ((2, sThr) :: (4, ⟨#[123]⟩) :: (4, ⟨#[125]⟩) :: ks) := fun a => by
  obtain ⟨r, h1, h2⟩ := h (a + 6 + 1 + 1 + 1 + 1 + 1)
  exact ⟨⟨2, sThr, 0, a⟩ :: ⟨4, ⟨#[123]⟩, 0, a + 6 + 1⟩ :: ⟨4, ⟨#[125]⟩, 0, a + 6 + 1 + 1 + 1⟩ :: r, by rw [p2_eq, h1]; rfl, by simp [h2]⟩
def aK (k : Nat) : List UInt8 := 97 :: (numL k).data.toList
theorem p1_eq (k : Nat) (hk : k < 80) (e f : Nat) (rest : List UInt8) (a : Nat) : lexL e (f + 5) (P1 k ++ rest) a = (((lexL e f rest (a + 6 + 1 + (aK k).length + 1 + 1)).map (⟨4, ⟨#[59]⟩, 0, a + 6 + 1 + (aK k).length⟩ :: ·)).map (⟨1, Bt (aK k), 0, a + 6 + 1⟩ :: ·)).map (⟨2, sPub, 0, a⟩ :: ·) := by
  rcases (show k = 0 ∨ k = 1 ∨ k = 2 ∨ k = 3 ∨ k = 4 ∨ k = 5 ∨ k = 6 ∨ k = 7 ∨ k = 8 ∨ k = 9 ∨ k = 10 ∨ k = 11 ∨ k = 12 ∨ k = 13 ∨ k = 14 ∨ k = 15 ∨ k = 16 ∨ k = 17 ∨ k = 18 ∨ k = 19 ∨ k = 20 ∨ k = 21 ∨ k = 22 ∨ k = 23 ∨ k = 24 ∨ k = 25 ∨ k = 26 ∨ k = 27 ∨ k = 28 ∨ k = 29 ∨ k = 30 ∨ k = 31 ∨ k = 32 ∨ k = 33 ∨ k = 34 ∨ k = 35 ∨ k = 36 ∨ k = 37 ∨ k = 38 ∨ k = 39 ∨ k = 40 ∨ k = 41 ∨ k = 42 ∨ k = 43 ∨ k = 44 ∨ k = 45 ∨ k = 46 ∨ k = 47 ∨ k = 48 ∨ k = 49 ∨ k = 50 ∨ k = 51 ∨ k = 52 ∨ k = 53 ∨ k = 54 ∨ k = 55 ∨ k = 56 ∨ k = 57 ∨ k = 58 ∨ k = 59 ∨ k = 60 ∨ k = 61 ∨ k = 62 ∨ k = 63 ∨ k = 64 ∨ k = 65 ∨ k = 66 ∨ k = 67 ∨ k = 68 ∨ k = 69 ∨ k = 70 ∨ k = 71 ∨ k = 72 ∨ k = 73 ∨ k = 74 ∨ k = 75 ∨ k = 76 ∨ k = 77 ∨ k = 78 ∨ k = 79 by omega) with rfl | rfl | rfl | rfl | rfl | rfl | rfl | rfl | rfl | rfl | rfl | rfl | rfl | rfl | rfl | rfl | rfl | rfl | rfl | rfl | rfl | rfl | rfl | rfl | rfl | rfl | rfl | rfl | rfl | rfl | rfl | rfl | rfl | rfl | rfl | rfl | rfl | rfl | rfl | rfl | rfl | rfl | rfl | rfl | rfl | rfl | rfl | rfl | rfl | rfl | rfl | rfl | rfl | rfl | rfl | rfl | rfl | rfl | rfl | rfl | rfl | rfl | rfl | rfl | rfl | rfl | rfl | rfl | rfl | rfl | rfl | rfl | rfl | rfl | rfl | rfl | rfl | rfl | rfl | rfl <;> kernel_rfl
theorem Lx.p1 {k : Nat} (hk : k < 80) {e f : Nat} {rest : List UInt8} {ks : List (Nat × ByteArray)} (h : Lx e f rest ks) : Lx e (f + 5) (P1 k ++ rest) ((2, sPub) :: (1, Bt (aK k)) :: (4, ⟨#[59]⟩) :: ks) := fun a => by
  obtain ⟨r, h1, h2⟩ := h (a + 6 + 1 + (aK k).length + 1 + 1)
  exact ⟨⟨2, sPub, 0, a⟩ :: ⟨1, Bt (aK k), 0, a + 6 + 1⟩ :: ⟨4, ⟨#[59]⟩, 0, a + 6 + 1 + (aK k).length⟩ :: r, by rw [p1_eq k hk, h1]; rfl, by simp [h2]⟩
def DeT : Nat → List UInt8
  | 0 => []
  | d + 1 => DeT d ++ P1 d
def ThT : Nat → List UInt8
  | 0 => []
  | t + 1 => ThT t ++ P2
def dks : Nat → List (Nat × ByteArray)
  | 0 => []
  | d + 1 => dks d ++ [(2, sPub), (1, Bt (aK d)), (4, ⟨#[59]⟩)]
def tks : Nat → List (Nat × ByteArray)
  | 0 => []
  | t + 1 => tks t ++ [(2, sThr), (4, ⟨#[123]⟩), (4, ⟨#[125]⟩)]
theorem Lx.decls {e f : Nat} (d : Nat) (hd : d ≤ 80) {rest : List UInt8} {ks : List (Nat × ByteArray)} (h : Lx e f rest ks) : Lx e (f + 5 * d) (DeT d ++ rest) (dks d ++ ks) := by
  induction d generalizing f rest ks with
  | zero => exact h
  | succ d ih =>
    have := ih (by omega) (h.p1 (k := d) (by omega))
    rw [show f + 5 + 5 * d = f + 5 * (d + 1) by omega] at this
    simpa [DeT, dks, List.append_assoc] using this
theorem Lx.threads {e f : Nat} (t : Nat) {rest : List UInt8} {ks : List (Nat × ByteArray)} (h : Lx e f rest ks) : Lx e (f + 6 * t) (ThT t ++ rest) (tks t ++ ks) := by
  induction t generalizing f rest ks with
  | zero => exact h
  | succ t ih =>
    have := ih h.p2
    rw [show f + 6 + 6 * t = f + 6 * (t + 1) by omega] at this
    simpa [ThT, tks, List.append_assoc] using this
theorem DeT_len (d : Nat) : 5 * d ≤ (DeT d).length ∧ (DeT d).length ≤ 13 * d := by
  induction d with
  | zero => exact ⟨Nat.le_refl _, Nat.le_refl _⟩
  | succ d ih =>
    have h := numL_size d
    have h' : (numL d).data.toList.length ≤ 3 := by simpa using h
    simp only [DeT, P1, List.length_append, List.length_cons, List.length_nil]
    omega
theorem ThT_len (t : Nat) : (ThT t).length = 11 * t := by
  induction t with
  | zero => rfl
  | succ t ih => simp only [ThT, List.length_append, ih, P2, List.length_cons, List.length_nil]; omega
/-- The signs of the text. -/
theorem lim_cut (d t : Nat) (hd : d ≤ 80) (ht : t ≤ 30) (s : ByteArray) (hs : s.data.toList = DeT d ++ ThT t) : ∃ ts, cut s = .ok ts ∧ ts.map (fun t => (t.k, t.s)) = dks d ++ tks t ++ [(0, ⟨#[]⟩)] := by
  have hl : s.size = (DeT d).length + (ThT t).length := by
    have := congrArg List.length hs
    simpa using this
  obtain ⟨h1, h2⟩ := DeT_len d
  have h3 := ThT_len t
  rw [cut_eq s (by omega), hs]
  have h := (((Lx.nil s.size (s.size - 5 * d - 6 * t)).threads t).decls d hd) 0
  rw [show s.size - 5 * d - 6 * t + 6 * t + 5 * d = s.size by omega] at h
  obtain ⟨r, h4, h5⟩ := h
  exact ⟨r, by simpa using h4, by simpa [List.append_assoc] using h5⟩
end Go.Proofs.YtcdgjgoplogiiaaDoor.PT
