/- The cutter on what is left of a text, as a list. -/
import Derived.Test.YtcdgjgoplogiiaaDoorPm
namespace Go.Proofs.YtcdgjgoplogiiaaDoor.PT
open Go.RowKit Go.Lib
def Bt (l : List UInt8) : ByteArray := ⟨l.toArray⟩
inductive LS where
  | skip (n : Nat)
  | tok (t : Tok) (n : Nat)
  | bad
def signLenL (l : List UInt8) : Nat :=
  let c := l.getD 0 0
  if 1 < l.length && ((c == 60 && l.getD 1 0 == 60) || (c == 62 && l.getD 1 0 == 62) || (c == 61 && l.getD 1 0 == 61)) then 2
  else if ones.contains c then 1 else 0
def stepL (l : List UInt8) (a : Nat) : LS :=
  let c := l.getD 0 0
  if c == 32 || c == 10 || c == 9 || c == 13 then .skip 1
  else if c == 35 then .skip (l.takeWhile (fun x => x != 10)).length
  else if letter c then
    let w := l.takeWhile (fun x => letter x || digit x)
    .tok ⟨if isKey (Bt w) then 2 else 1, Bt w, 0, a⟩ w.length
  else if digit c then
    let w := l.takeWhile digit
    match numv w 0 with
    | none => .bad
    | some n => if w.length < l.length && letter (l.getD w.length 0) then .bad else .tok ⟨3, Bt w, n, a⟩ w.length
  else if signLenL l = 0 then .bad else .tok ⟨4, Bt (l.take (signLenL l)), 0, a⟩ (signLenL l)
/-- What is left is l; it begins at a; the text ends at e. -/
def lexL (e : Nat) : Nat → List UInt8 → Nat → Except (Nat × Nat) (List Tok)
  | 0, _, _ => .ok [⟨0, ⟨#[]⟩, 0, e⟩]
  | f + 1, l, a => match l with
    | [] => .ok [⟨0, ⟨#[]⟩, 0, e⟩]
    | c :: r => match stepL (c :: r) a with
      | .skip n => lexL e f ((c :: r).drop n) (a + n)
      | .tok t n => (lexL e f ((c :: r).drop n) (a + n)).map (t :: ·)
      | .bad => .error (1, a)
theorem getD_drop (l : List UInt8) (a k : Nat) : (l.drop a).getD k 0 = l.getD (a + k) 0 := by
  rw [List.getD_eq_getElem?_getD, List.getD_eq_getElem?_getD, List.getElem?_drop]
theorem takeWhile_take (f : UInt8 → Bool) (l : List UInt8) : l.take (l.takeWhile f).length = l.takeWhile f := by
  induction l with
  | nil => rfl
  | cons c r ih =>
    rw [List.takeWhile_cons]
    split
    · simp [ih]
    · rfl
theorem extract_bt (s : ByteArray) (a n : Nat) : s.extract a (a + n) = Bt ((s.data.toList.drop a).take n) := by
  apply ByteArray.ext
  rw [ByteArray.data_extract]
  apply Array.ext'
  simp [Bt, Array.toList_extract, List.extract, List.take_drop]
theorem signLen_eq (l : List UInt8) (a : Nat) (h : a < l.length) : signLen l a = signLenL (l.drop a) := by
  unfold signLen signLenL
  simp only [getD_drop, Nat.add_zero, List.length_drop]
  have : decide (a + 1 < l.length) = decide (1 < l.length - a) := by
    rw [decide_eq_decide]; omega
  rw [this]
theorem cutAt_eq (s : ByteArray) (a : Nat) (h : a < s.size) : cutAt s a = match stepL (s.data.toList.drop a) a with
    | .skip n => .skip (a + n) | .tok t n => .tok t (a + n) | .bad => .bad := by
  have hl : a < s.data.toList.length := by simpa using h
  unfold cutAt stepL
  dsimp only
  rw [show runTo (fun x => x != 10) s.data.toList a = a + ((s.data.toList.drop a).takeWhile (fun x => x != 10)).length from rfl, show runTo (fun x => letter x || digit x) s.data.toList a = a + ((s.data.toList.drop a).takeWhile (fun x => letter x || digit x)).length from rfl, show runTo digit s.data.toList a = a + ((s.data.toList.drop a).takeWhile digit).length from rfl]
  simp only [getD_drop, Nat.add_zero, ← signLen_eq _ _ hl]
  split
  · rfl
  split
  · rfl
  split
  · simp only [extract_bt, takeWhile_take]
  split
  · simp only [extract_bt, takeWhile_take]
    have e1 : (Bt (List.takeWhile digit (s.data.toList.drop a))).data.toList = List.takeWhile digit (s.data.toList.drop a) := by simp [Bt]
    rw [e1]
    cases numv (List.takeWhile digit (s.data.toList.drop a)) 0 with
    | none => rfl
    | some n =>
      simp only [List.length_drop]
      by_cases h1 : (List.takeWhile digit (s.data.toList.drop a)).length < s.data.toList.length - a
      · have h2 : a + (List.takeWhile digit (s.data.toList.drop a)).length < s.data.toList.length := by omega
        cases h3 : letter (s.data.toList.getD (a + (List.takeWhile digit (s.data.toList.drop a)).length) 0)
        · simp
        · have h1' : (List.takeWhile digit (s.data.toList.drop a)).length < s.size - a := h1
          have h2' : a + (List.takeWhile digit (s.data.toList.drop a)).length < s.size := h2
          simp [h1', h2']
      · have h2 : ¬ a + (List.takeWhile digit (s.data.toList.drop a)).length < s.data.toList.length := by omega
        have h1' : ¬ (List.takeWhile digit (s.data.toList.drop a)).length < s.size - a := h1
        have h2' : ¬ a + (List.takeWhile digit (s.data.toList.drop a)).length < s.size := h2
        simp [h1', h2']
  · split
    · rfl
    · simp only [extract_bt]
theorem cutl_eq (s : ByteArray) (f a : Nat) : cutl s f a = lexL s.size f (s.data.toList.drop a) a := by
  induction f generalizing a with
  | zero => rfl
  | succ f ih =>
    unfold cutl lexL
    by_cases h : s.size ≤ a
    · rw [if_pos h, List.drop_eq_nil_of_le (by simpa using h)]
    · rw [if_neg h, cutAt_eq s a (by omega)]
      cases hd : s.data.toList.drop a with
      | nil =>
        have := congrArg List.length hd
        simp at this
        have : s.data.size = s.size := rfl
        omega
      | cons c r =>
        simp only
        have hdr : ∀ n, (c :: r).drop n = s.data.toList.drop (a + n) := fun n => by rw [← hd, List.drop_drop]
        cases stepL (c :: r) a with
        | skip n => simp only [hdr, ih]
        | tok t n => simp only [hdr, ih]
        | bad => rfl
theorem cut_eq (s : ByteArray) (h : s.size ≤ 65536) : cut s = lexL s.size s.size s.data.toList 0 := by
  unfold cut
  rw [if_neg (by omega), cutl_eq]
  rfl
end Go.Proofs.YtcdgjgoplogiiaaDoor.PT
