/- Plain laws of der, no program: what is written is read as the same value; no two values have the same bytes. -/
import Derived.Test.YtdmjliehobgknaaDerCount
namespace Go.Proofs.Ytdmjliehobgknaa
set_option linter.unusedSimpArgs false
set_option linter.unusedVariables false

theorem getN_shortR : ∀ (f n : Nat), 0 < f → n < 256 ^ f → getN (shortR f n) = n ∧ (1 ≤ n → (shortR f n).getD 0 0 ≠ 0) ∧ 0 < (shortR f n).length
  | 0, n, h, _ => by omega
  | f + 1, n, _, hn => by
    rw [shortR]
    by_cases h : n < 256
    · rw [if_pos h]
      refine ⟨?_, fun h1 => ?_, by simp⟩
      · show getN ([] ++ [UInt8.ofNat n]) = n
        rw [getN_snoc]
        have : (UInt8.ofNat n).toNat = n := by simp; omega
        rw [this]
        simp [getN]
      · simp
        intro e
        have := congrArg UInt8.toNat e
        simp at this
        omega
    · rw [if_neg h]
      have hf : 0 < f := by
        rcases Nat.eq_zero_or_pos f with e | e
        · subst e; omega
        · exact e
      have hq : n / 256 < 256 ^ f := by
        rw [Nat.pow_succ] at hn
        exact Nat.div_lt_of_lt_mul (by rw [Nat.mul_comm]; exact hn)
      obtain ⟨h1, h2, h3⟩ := getN_shortR f (n / 256) hf hq
      refine ⟨?_, fun _ => ?_, by simp⟩
      · rw [getN_snoc, h1]
        have : (UInt8.ofNat (n % 256)).toNat = n % 256 := by simp
        rw [this]
        omega
      · rw [List.getD_eq_getElem?_getD, List.getElem?_append_left h3, ← List.getD_eq_getElem?_getD]
        exact h2 (by omega)

theorem pow64 : (256 : Nat) ^ 8 = 18446744073709551616 := by decide
theorem getN_shortB (n : Nat) (hn : n < 18446744073709551616) : getN (shortB n) = n := by
  rw [shortB_eq n (by rw [pow64]; exact hn)]
  exact (getN_shortR 8 n (by decide) (by rw [pow64]; exact hn)).1
theorem shortB_first (n : Nat) (hn : n < 18446744073709551616) : ¬ (1 < (shortB n).length ∧ (shortB n).getD 0 0 = 0) := by
  rintro ⟨h1, h2⟩
  rw [shortB_eq n (by rw [pow64]; exact hn)] at h1 h2
  by_cases h : n < 256
  · rw [shortR, if_pos h] at h1
    simp at h1
  · exact (getN_shortR 8 n (by decide) (by rw [pow64]; exact hn)).2.1 (by omega) h2
theorem shortB_len (n : Nat) (hn : n < 65536) : (shortB n).length = if n < 256 then 1 else 2 := by
  rw [shortB_eq n (by rw [pow64]; omega), shortR]
  split
  · rfl
  · rw [shortR, if_pos (by omega)]
    rfl

theorem getD0_cons (x : UInt8) (l : List UInt8) : (x :: l).getD 0 0 = x := rfl
theorem getD1_cons (x y : UInt8) (l : List UInt8) : (x :: y :: l).getD 1 0 = y := rfl

/-- The first bytes say how many follow. -/
theorem size_of_head (k t : Int) (m : Nat) (rest : List UInt8) (hm : m ≤ 4096) (hr : m ≤ rest.length) : sizeS (headS k t m ++ rest) = (m, (headS k t m).length, 0) := by
  unfold headS
  by_cases h : m < 128
  · rw [if_pos h]
    generalize UInt8.ofNat (k * 64 + t).toNat = f
    have hc : (UInt8.ofNat m).toNat = m := by simp; omega
    simp only [List.cons_append, List.nil_append, sizeS, getD1_cons, List.length_cons, hc]
    rw [if_neg (by omega), if_pos h, if_neg (by omega)]
    rfl
  · rw [if_neg h]
    generalize UInt8.ofNat (k * 64 + t).toNat = f
    have hl := shortB_len m (by omega)
    have hg := getN_shortB m (by omega)
    generalize shortB m = s at hl hg
    have hs : s.length = 1 ∨ s.length = 2 := by rw [hl]; split <;> simp
    have hc : (UInt8.ofNat (128 + s.length)).toNat = 128 + s.length := by simp; omega
    have htake : ((f :: UInt8.ofNat (128 + s.length) :: (s ++ rest)).drop 2).take (128 + s.length - 128) = s := by
      simp only [List.drop_succ_cons, List.drop_zero]
      rw [show 128 + s.length - 128 = s.length by omega, List.take_left]
    simp only [List.cons_append, sizeS, getD1_cons, hc, htake, hg, List.length_cons, List.length_append]
    rw [if_neg (by omega), if_neg (by omega), if_neg (by omega), if_neg (by omega), if_neg (by
      rintro (h1 | ⟨h1, h2⟩)
      · omega
      · rw [if_pos h2] at hl; omega), if_neg (by omega)]
    rw [show 128 + s.length - 126 = s.length + 1 + 1 by omega]

theorem headS_first (k t : Int) (m : Nat) (rest : List UInt8) : (headS k t m ++ rest).getD 0 0 = UInt8.ofNat (k * 64 + t).toNat := by
  unfold headS
  split <;> rfl
theorem headS_pos (k t : Int) (m : Nat) : 2 ≤ (headS k t m).length := by
  unfold headS
  split <;> simp

theorem writeS_two (x : Tv) : 2 ≤ (writeS x).length := by
  rw [writeS_eq, List.length_append]
  have := headS_pos x.kind x.tag (bodyS x).length
  omega

theorem listS_write {d : Nat} (hd : ∀ x : Tv, rightS d x = true → Nw x → (writeS x).length ≤ 4096 → ∀ rest, readS d (writeS x ++ rest) = (x, (writeS x).length, 0)) :
    ∀ (l : List Tv) (f : Nat), (∀ x ∈ l, rightS d x = true ∧ Nw x) → (writesS l).length ≤ 4096 → (writesS l).length ≤ f → listS (readS d) f (writesS l) = (l, 0)
  | [], f, _, _, _ => listS_nil _ _
  | x :: l, f, h, hl, hf => by
    have h2 := writeS_two x
    rw [writesS, List.length_append] at hl hf
    obtain ⟨f, rfl⟩ : ∃ g, f = g + 1 := ⟨f - 1, by omega⟩
    have hx := hd x (h x (by simp)).1 (h x (by simp)).2 (by omega) (writesS l)
    have hne : writeS x ++ writesS l ≠ [] := by
      intro e
      have h3 := congrArg List.length e
      rw [List.length_append, List.length_nil] at h3
      omega
    rw [writesS, listS_ok hne hx, List.drop_left, listS_write hd l f (fun y hy => h y (by simp [hy])) (by omega) (by omega)]

/-- What is written is read as it, whatever stands behind. -/
theorem readS_write : ∀ (d : Nat) (x : Tv), rightS d x = true → Nw x → (writeS x).length ≤ 4096 → ∀ rest, readS d (writeS x ++ rest) = (x, (writeS x).length, 0)
  | 0, x, h, _, _, _ => by simp [rightS] at h
  | d + 1, .mk k t n b l, h, hn, hlen, rest => by
    have hw := writeS_eq (.mk k t n b l)
    simp only [Tv.kind, Tv.tag] at hw
    have hbody : bodyS (.mk k t n b l) = bodyOf k n b (writesS l) := rfl
    rw [rightS] at h
    simp only [Bool.and_eq_true, decide_eq_true_eq] at h
    obtain ⟨⟨ht0, ht1⟩, hkind⟩ := h
    have hbl : (bodyS (.mk k t n b l)).length ≤ 4096 := by rw [hw, List.length_append] at hlen; omega
    have hsz := size_of_head k t (bodyS (.mk k t n b l)).length (bodyS (.mk k t n b l) ++ rest) hbl (by simp)
    have hfirst := headS_first k t (bodyS (.mk k t n b l)).length (bodyS (.mk k t n b l) ++ rest)
    have htotal : (writeS (.mk k t n b l)).length = (headS k t (bodyS (.mk k t n b l)).length).length + (bodyS (.mk k t n b l)).length := by rw [hw, List.length_append]
    have hdrop : ((headS k t (bodyS (.mk k t n b l)).length ++ (bodyS (.mk k t n b l) ++ rest)).drop (headS k t (bodyS (.mk k t n b l)).length).length).take (bodyS (.mk k t n b l)).length = bodyS (.mk k t n b l) := by
      rw [List.drop_left, List.take_left]
    have hdrop0 : (headS k t (bodyS (.mk k t n b l)).length ++ (bodyS (.mk k t n b l) ++ rest)).drop (headS k t (bodyS (.mk k t n b l)).length).length = bodyS (.mk k t n b l) ++ rest := List.drop_left
    rw [htotal, hw, List.append_assoc, readS, hsz]
    simp only [hfirst, hdrop0, List.take_left]
    rw [if_neg (by decide)]
    generalize hbd : bodyS (.mk k t n b l) = bd at *
    split at hkind
    · rename_i hk
      subst hk
      simp only [Bool.and_eq_true, decide_eq_true_eq] at hkind
      obtain ⟨rfl, hl0⟩ := hkind
      obtain rfl := List.eq_nil_of_length_eq_zero hl0
      have hbs : bd = shortB n := by rw [hbody]; rfl
      have hf : (UInt8.ofNat ((0 : Int) * 64 + t).toNat).toNat = t.toNat := by simp; omega
      rw [hf, if_neg (by omega), if_pos (by omega)]
      have hfew := shortB_few n
      have hgb : getB bd = (n, true) := by
        unfold getB
        rw [hbs, if_neg (by omega), getN_shortB n hn.1]
      rw [hgb, if_neg (by
        rintro (h1 | ⟨h1, h2⟩)
        · simp at h1
        · refine shortB_first n hn.1 ⟨by rw [← hbs]; exact h1, ?_⟩
          have e3 : (bd ++ rest).getD 0 0 = (shortB n).getD 0 0 := by rw [List.getD_eq_getElem?_getD, List.getD_eq_getElem?_getD, List.getElem?_append_left (by omega), hbs]
          rw [← e3]
          exact h2), show ((t.toNat % 64 : Nat) : Int) = t by omega]
    · split at hkind
      · rename_i hk0 hk
        subst hk
        simp only [Bool.and_eq_true, decide_eq_true_eq] at hkind
        obtain ⟨rfl, hl0⟩ := hkind
        obtain rfl := List.eq_nil_of_length_eq_zero hl0
        have hbs : bd = b := by rw [hbody]; rfl
        have hf : (UInt8.ofNat ((1 : Int) * 64 + t).toNat).toNat = 64 + t.toNat := by simp; omega
        rw [hf, if_neg (by omega), if_neg (by omega), if_pos (by omega), hbs, show (((64 + t.toNat) % 64 : Nat) : Int) = t by omega]
      · split at hkind
        · rename_i hk0 hk1 hk
          subst hk
          simp only [Bool.and_eq_true, decide_eq_true_eq] at hkind
          obtain ⟨⟨hall, rfl⟩, rfl⟩ := hkind
          have hbs : bd = writesS l := by rw [hbody]; rfl
          have hf : (UInt8.ofNat ((2 : Int) * 64 + t).toNat).toNat = 128 + t.toNat := by simp; omega
          have hls := listS_write (fun x h1 h2 h3 => readS_write d x h1 h2 h3) l bd.length (fun x hx => ⟨List.all_eq_true.1 hall x hx, hn.2.mem x hx⟩) (by rw [← hbs]; exact hbl) (by rw [hbs]; exact Nat.le_refl _)
          rw [← hbs] at hls
          rw [hf, if_neg (by omega), if_neg (by omega), if_neg (by omega), hls]
          simp only [if_true]
          rw [show (((128 + t.toNat) % 64 : Nat) : Int) = t by omega]
        · simp at hkind

theorem wholeS_write {x : Tv} (h : rightS 8 x = true) (hn : Nw x) (hl : (writeS x).length ≤ 4096) : wholeS (writeS x) = (x, 0) := by
  have := readS_write 8 x h hn hl []
  rw [List.append_nil] at this
  unfold wholeS
  rw [if_neg (by omega), this]
  simp

theorem wrS_cases (x : Tv) : (wrS x = ([], 7) ∧ rightS 8 x = false) ∨ (wrS x = ([], 20) ∧ rightS 8 x = true ∧ 4096 < (writeS x).length) ∨ (wrS x = (writeS x, 0) ∧ rightS 8 x = true ∧ (writeS x).length ≤ 4096) := by
  unfold wrS
  by_cases h : rightS 8 x = false
  · rw [if_pos h]; exact .inl ⟨rfl, h⟩
  · have ht : rightS 8 x = true := by simpa using h
    rw [if_neg h]
    by_cases hl : 4096 < (writeS x).length
    · rw [if_pos hl]; exact .inr (.inl ⟨rfl, ht, hl⟩)
    · rw [if_neg hl]; exact .inr (.inr ⟨rfl, ht, by omega⟩)
theorem wrS_ok {x : Tv} {b : List UInt8} (h : wrS x = (b, 0)) : rightS 8 x = true ∧ b = writeS x ∧ (writeS x).length ≤ 4096 := by
  rcases wrS_cases x with ⟨e, _⟩ | ⟨e, _⟩ | ⟨e, h1, h2⟩
  · rw [e] at h; simp at h
  · rw [e] at h; simp at h
  · rw [e] at h
    simp only [Prod.mk.injEq, and_true] at h
    exact ⟨h1, h.symm, h2⟩

/-- No two values have the same bytes. -/
theorem writeS_inj {x y : Tv} (hx : rightS 8 x = true) (hy : rightS 8 y = true) (nx : Nw x) (ny : Nw y) (lx : (writeS x).length ≤ 4096) (h : writeS x = writeS y) : x = y := by
  have h1 := wholeS_write hx nx lx
  have h2 := wholeS_write hy ny (by rw [← h]; exact lx)
  rw [h, h2] at h1
  simp only [Prod.mk.injEq, and_true] at h1
  exact h1.symm

/-- With one byte more they are none. -/
theorem wholeS_more {x : Tv} (h : rightS 8 x = true) (hn : Nw x) (hl : (writeS x).length ≤ 4096) (c : UInt8) : wholeS (writeS x ++ [c]) = (.zero, if (writeS x).length = 4096 then 20 else 5) := by
  have := readS_write 8 x h hn hl [c]
  unfold wholeS
  rw [List.length_append, List.length_singleton]
  by_cases he : (writeS x).length = 4096
  · rw [if_pos (by omega), if_pos he]
  · rw [if_neg (by omega), this, if_neg he]
    simp only
    rw [if_neg (by decide), if_pos (by omega)]

/-- Without the last byte they are none. -/
theorem wholeS_less {x : Tv} (h : rightS 8 x = true) (hn : Nw x) (hl : (writeS x).length ≤ 4096) : (wholeS ((writeS x).take ((writeS x).length - 1))).2 ≠ 0 := by
  intro e
  have h2 := writeS_two x
  obtain ⟨y, e', hy⟩ : ∃ y e, wholeS ((writeS x).take ((writeS x).length - 1)) = (y, e) := ⟨_, _, rfl⟩
  rw [hy] at e
  simp only at e
  subst e
  obtain ⟨_, g2, g3, g4, g5⟩ := wholeS_back hy
  have hlen : (writeS y).length = (writeS x).length - 1 := by rw [g5, List.length_take]; omega
  have hr := readS_write 8 y g4 g2 (by omega) ((writeS x).drop ((writeS x).length - 1))
  have hr2 := readS_write 8 x h hn hl []
  rw [List.append_nil] at hr2
  rw [g5, List.take_append_drop, hr2] at hr
  simp only [Prod.mk.injEq, and_true] at hr
  obtain ⟨rfl, hr⟩ := hr
  rw [g5] at hlen
  omega
end Go.Proofs.Ytdmjliehobgknaa
