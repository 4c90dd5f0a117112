/- What der's functions compute, in plain Lean: how long a value is, what it reads as, what it is written as. -/
import Derived.Test.YtdmjliehobgknaaTv
import Derived.Test.YtdmjliehobgknaaOctet
namespace Go.Proofs.Ytdmjliehobgknaa
set_option linter.unusedSimpArgs false
set_option linter.unusedVariables false

/-- How many bytes follow, where they begin, and the error's number. -/
def sizeS (b : List UInt8) : Nat × Nat × Int :=
  if b.length < 2 then (0, 0, 1)
  else if (b.getD 1 0).toNat < 128 then (if b.length - 2 < (b.getD 1 0).toNat then (0, 0, 1) else ((b.getD 1 0).toNat, 2, 0))
  else if (b.getD 1 0).toNat = 128 ∨ 130 < (b.getD 1 0).toNat then (0, 0, 3)
  else if b.length < (b.getD 1 0).toNat - 126 then (0, 0, 1)
  else if getN ((b.drop 2).take ((b.getD 1 0).toNat - 128)) < 128 ∨ ((b.getD 1 0).toNat = 130 ∧ getN ((b.drop 2).take ((b.getD 1 0).toNat - 128)) < 256) then (0, 0, 3)
  else if b.length - ((b.getD 1 0).toNat - 126) < getN ((b.drop 2).take ((b.getD 1 0).toNat - 128)) then (0, 0, 1)
  else (getN ((b.drop 2).take ((b.getD 1 0).toNat - 128)), (b.getD 1 0).toNat - 126, 0)

theorem sizeS_ok {b : List UInt8} {n at' : Nat} (h : sizeS b = (n, at', 0)) : 2 ≤ at' ∧ at' + n ≤ b.length ∧ at' ≤ 4 := by
  unfold sizeS at h
  split at h
  · simp at h
  · split at h
    · split at h
      · simp at h
      · simp only [Prod.mk.injEq] at h; omega
    · split at h
      · simp at h
      · split at h
        · simp at h
        · split at h
          · simp at h
          · split at h
            · simp at h
            · simp only [Prod.mk.injEq] at h; omega

/-- A list's values, one behind the other, as a reader gives them. -/
def listS (rd : List UInt8 → Tv × Nat × Int) : Nat → List UInt8 → List Tv × Int
  | _, [] => ([], 0)
  | 0, _ => ([], 0)
  | f + 1, b => match rd b with
    | (x, k, e) => if e = 0 then (match listS rd f (b.drop k) with | (l, e') => (x :: l, e')) else ([], e)

/-- The value at the beginning of bytes, how many it has, the error's number; to so many levels. -/
def readS : Nat → List UInt8 → Tv × Nat × Int
  | 0, _ => (.zero, 0, 4)
  | d + 1, b => match sizeS b with
    | (n, at', e) =>
      if e ≠ 0 then (.zero, 0, e)
      else if 2 < (b.getD 0 0).toNat / 64 ∨ 30 < (b.getD 0 0).toNat % 64 then (.zero, 0, 2)
      else if (b.getD 0 0).toNat / 64 = 0 then
        (if (getB ((b.drop at').take n)).2 = false ∨ (1 < n ∧ (b.drop at').getD 0 0 = 0) then (.zero, 0, 4)
         else (.mk 0 ((b.getD 0 0).toNat % 64 : Nat) (getB ((b.drop at').take n)).1 [] [], at' + n, 0))
      else if (b.getD 0 0).toNat / 64 = 1 then (.mk 1 ((b.getD 0 0).toNat % 64 : Nat) 0 ((b.drop at').take n) [], at' + n, 0)
      else match listS (readS d) n ((b.drop at').take n) with
        | (l, e) => if e = 0 then (.mk 2 ((b.getD 0 0).toNat % 64 : Nat) 0 [] l, at' + n, 0) else (.zero, 0, e)

/-- What a reader owes: it takes two bytes at least, and no more than there are. -/
def Takes (rd : List UInt8 → Tv × Nat × Int) : Prop := ∀ b x k, rd b = (x, k, 0) → 2 ≤ k ∧ k ≤ b.length

theorem readS_takes (d : Nat) : Takes (readS d) := by
  intro b x k h
  cases d with
  | zero => simp [readS] at h
  | succ d =>
    rw [readS] at h
    obtain ⟨n, at', e, hs⟩ : ∃ n at' e, sizeS b = (n, at', e) := ⟨_, _, _, rfl⟩
    rw [hs] at h
    simp only at h
    split at h
    · simp at h; omega
    · rename_i he
      have he0 : e = 0 := by simpa using he
      subst he0
      have hok := sizeS_ok hs
      split at h
      · simp at h
      · split at h
        · split at h
          · simp at h
          · simp at h; omega
        · split at h
          · simp at h; omega
          · split at h
            · simp at h; omega
            · simp at h; omega

theorem listS_nil (rd : List UInt8 → Tv × Nat × Int) (f : Nat) : listS rd f [] = ([], 0) := by cases f <;> rfl

/-- A step: a value is read, and the rest. -/
theorem listS_ok {rd : List UInt8 → Tv × Nat × Int} {f : Nat} {b : List UInt8} {x : Tv} {k : Nat} (hb : b ≠ []) (h : rd b = (x, k, 0)) : listS rd (f + 1) b = (x :: (listS rd f (b.drop k)).1, (listS rd f (b.drop k)).2) := by
  cases b with
  | nil => exact absurd rfl hb
  | cons c b => simp [listS, h]
theorem listS_bad {rd : List UInt8 → Tv × Nat × Int} {f : Nat} {b : List UInt8} {x : Tv} {k : Nat} {e : Int} (hb : b ≠ []) (h : rd b = (x, k, e)) (he : e ≠ 0) : listS rd (f + 1) b = ([], e) := by
  cases b with
  | nil => exact absurd rfl hb
  | cons c b => simp [listS, h, he]

/-- More fuel than bytes turns nothing. -/
theorem listS_fuel {rd : List UInt8 → Tv × Nat × Int} (ht : Takes rd) : ∀ (f g : Nat) (b : List UInt8), b.length ≤ f → b.length ≤ g → listS rd f b = listS rd g b
  | f, g, [], _, _ => by rw [listS_nil, listS_nil]
  | 0, g, c :: b, h, _ => by simp at h
  | f + 1, 0, c :: b, _, h => by simp at h
  | f + 1, g + 1, c :: b, hf, hg => by
    obtain ⟨x, k, e, hr⟩ : ∃ x k e, rd (c :: b) = (x, k, e) := ⟨_, _, _, rfl⟩
    by_cases he : e = 0
    · subst he
      have hk := ht _ _ _ hr
      rw [listS_ok (by simp) hr, listS_ok (by simp) hr, listS_fuel ht f g _ (by rw [List.length_drop]; simp at hf hk ⊢; omega) (by rw [List.length_drop]; simp at hg hk ⊢; omega)]
    · rw [listS_bad (by simp) hr he, listS_bad (by simp) hr he]

/-- The value that bytes are, and the error's number. -/
def wholeS (b : List UInt8) : Tv × Int :=
  if 4096 < b.length then (.zero, 20)
  else match readS 8 b with
    | (v, n, e) => if e ≠ 0 then (.zero, e) else if n < b.length then (.zero, 5) else (v, 0)
end Go.Proofs.Ytdmjliehobgknaa
