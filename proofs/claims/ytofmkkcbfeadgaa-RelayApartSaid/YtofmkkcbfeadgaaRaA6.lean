/- Texts of this proof, one behind the other: DerLaw2, MPure2, MVal, MValA, MValue, MTo. -/
import Derived.Test.YtofmkkcbfeadgaaRaA5
import Derived.Deep.DeepCutAuto
namespace Go.Proofs.Ytofmkkcbfeadgaa
set_option linter.unusedSimpArgs false
set_option linter.unusedVariables false
theorem getN_shortR : ∀ (f n : Nat), 0 < f → n < 256 ^ f → getN (shortR f n) = n ∧ (1 ≤ n → (shortR f n).getD 0 0 ≠ 0) ∧ 0 < (shortR f n).length
  | 0, n, h, _ => by omega
  | f + 1, n, _, hn => by
    rw [shortR]
    by_cases h : n < 256
    · rw [if_pos h]
      refine ⟨?_, fun h1 => ?_, by simp⟩
      · show getN ([] ++ [UInt8.ofNat n]) = n
        rw [getN_snoc]
        have : (UInt8.ofNat n).toNat = n := by simp; omega
        rw [this]
        simp [getN]
      · simp
        intro e
        have := congrArg UInt8.toNat e
        simp at this
        omega
    · rw [if_neg h]
      have hf : 0 < f := by
        rcases Nat.eq_zero_or_pos f with e | e
        · subst e; omega
        · exact e
      have hq : n / 256 < 256 ^ f := by
        rw [Nat.pow_succ] at hn
        exact Nat.div_lt_of_lt_mul (by rw [Nat.mul_comm]; exact hn)
      obtain ⟨h1, h2, h3⟩ := getN_shortR f (n / 256) hf hq
      refine ⟨?_, fun _ => ?_, by simp⟩
      · rw [getN_snoc, h1]
        have : (UInt8.ofNat (n % 256)).toNat = n % 256 := by simp
        rw [this]
        omega
      · rw [List.getD_eq_getElem?_getD, List.getElem?_append_left h3, ← List.getD_eq_getElem?_getD]
        exact h2 (by omega)
theorem pow64 : (256 : Nat) ^ 8 = 18446744073709551616 := by decide
theorem getN_shortB (n : Nat) (hn : n < 18446744073709551616) : getN (shortB n) = n := by
  rw [shortB_eq n (by rw [pow64]; exact hn)]
  exact (getN_shortR 8 n (by decide) (by rw [pow64]; exact hn)).1
theorem shortB_first (n : Nat) (hn : n < 18446744073709551616) : ¬ (1 < (shortB n).length ∧ (shortB n).getD 0 0 = 0) := by
  rintro ⟨h1, h2⟩
  rw [shortB_eq n (by rw [pow64]; exact hn)] at h1 h2
  by_cases h : n < 256
  · rw [shortR, if_pos h] at h1
    simp at h1
  · exact (getN_shortR 8 n (by decide) (by rw [pow64]; exact hn)).2.1 (by omega) h2
theorem shortB_len (n : Nat) (hn : n < 65536) : (shortB n).length = if n < 256 then 1 else 2 := by
  rw [shortB_eq n (by rw [pow64]; omega), shortR]
  split
  · rfl
  · rw [shortR, if_pos (by omega)]
    rfl
theorem getD1_cons (x y : UInt8) (l : List UInt8) : (x :: y :: l).getD 1 0 = y := rfl
/-- The first bytes say how many follow. -/
theorem size_of_head (k t : Int) (m : Nat) (rest : List UInt8) (hm : m ≤ 4096) (hr : m ≤ rest.length) : sizeS (headS k t m ++ rest) = (m, (headS k t m).length, 0) := by
  unfold headS
  by_cases h : m < 128
  · rw [if_pos h]
    generalize UInt8.ofNat (k * 64 + t).toNat = f
    have hc : (UInt8.ofNat m).toNat = m := by simp; omega
    simp only [List.cons_append, List.nil_append, sizeS, getD1_cons, List.length_cons, hc]
    rw [if_neg (by omega), if_pos h, if_neg (by omega)]
    rfl
  · rw [if_neg h]
    generalize UInt8.ofNat (k * 64 + t).toNat = f
    have hl := shortB_len m (by omega)
    have hg := getN_shortB m (by omega)
    generalize shortB m = s at hl hg
    have hs : s.length = 1 ∨ s.length = 2 := by rw [hl]; split <;> simp
    have hc : (UInt8.ofNat (128 + s.length)).toNat = 128 + s.length := by simp; omega
    have htake : ((f :: UInt8.ofNat (128 + s.length) :: (s ++ rest)).drop 2).take (128 + s.length - 128) = s := by
      simp only [List.drop_succ_cons, List.drop_zero]
      rw [show 128 + s.length - 128 = s.length by omega, List.take_left]
    simp only [List.cons_append, sizeS, getD1_cons, hc, htake, hg, List.length_cons, List.length_append]
    rw [if_neg (by omega), if_neg (by omega), if_neg (by omega), if_neg (by omega), if_neg (by
      rintro (h1 | ⟨h1, h2⟩)
      · omega
      · rw [if_pos h2] at hl; omega), if_neg (by omega)]
    rw [show 128 + s.length - 126 = s.length + 1 + 1 by omega]
theorem headS_first (k t : Int) (m : Nat) (rest : List UInt8) : (headS k t m ++ rest).getD 0 0 = UInt8.ofNat (k * 64 + t).toNat := by
  unfold headS
  split <;> rfl
theorem headS_pos (k t : Int) (m : Nat) : 2 ≤ (headS k t m).length := by
  unfold headS
  split <;> simp
theorem writeS_two (x : Tv) : 2 ≤ (writeS x).length := by
  rw [writeS_eq, List.length_append]
  have := headS_pos x.kind x.tag (bodyS x).length
  omega
theorem listS_write {d : Nat} (hd : ∀ x : Tv, rightS d x = true → Nw x → (writeS x).length ≤ 4096 → ∀ rest, readS d (writeS x ++ rest) = (x, (writeS x).length, 0)) :
    ∀ (l : List Tv) (f : Nat), (∀ x ∈ l, rightS d x = true ∧ Nw x) → (writesS l).length ≤ 4096 → (writesS l).length ≤ f → listS (readS d) f (writesS l) = (l, 0)
  | [], f, _, _, _ => listS_nil _ _
  | x :: l, f, h, hl, hf => by
    have h2 := writeS_two x
    rw [writesS, List.length_append] at hl hf
    obtain ⟨f, rfl⟩ : ∃ g, f = g + 1 := ⟨f - 1, by omega⟩
    have hx := hd x (h x (by simp)).1 (h x (by simp)).2 (by omega) (writesS l)
    have hne : writeS x ++ writesS l ≠ [] := by
      intro e
      have h3 := congrArg List.length e
      rw [List.length_append, List.length_nil] at h3
      omega
    rw [writesS, listS_ok hne hx, List.drop_left, listS_write hd l f (fun y hy => h y (by simp [hy])) (by omega) (by omega)]
/-- What is written is read as it, whatever stands behind. -/
theorem readS_write : ∀ (d : Nat) (x : Tv), rightS d x = true → Nw x → (writeS x).length ≤ 4096 → ∀ rest, readS d (writeS x ++ rest) = (x, (writeS x).length, 0)
  | 0, x, h, _, _, _ => by simp [rightS] at h
  | d + 1, .mk k t n b l, h, hn, hlen, rest => by
    have hw := writeS_eq (.mk k t n b l)
    simp only [Tv.kind, Tv.tag] at hw
    have hbody : bodyS (.mk k t n b l) = bodyOf k n b (writesS l) := rfl
    rw [rightS] at h
    simp only [Bool.and_eq_true, decide_eq_true_eq] at h
    obtain ⟨⟨ht0, ht1⟩, hkind⟩ := h
    have hbl : (bodyS (.mk k t n b l)).length ≤ 4096 := by rw [hw, List.length_append] at hlen; omega
    have hsz := size_of_head k t (bodyS (.mk k t n b l)).length (bodyS (.mk k t n b l) ++ rest) hbl (by simp)
    have hfirst := headS_first k t (bodyS (.mk k t n b l)).length (bodyS (.mk k t n b l) ++ rest)
    have htotal : (writeS (.mk k t n b l)).length = (headS k t (bodyS (.mk k t n b l)).length).length + (bodyS (.mk k t n b l)).length := by rw [hw, List.length_append]
    have hdrop : ((headS k t (bodyS (.mk k t n b l)).length ++ (bodyS (.mk k t n b l) ++ rest)).drop (headS k t (bodyS (.mk k t n b l)).length).length).take (bodyS (.mk k t n b l)).length = bodyS (.mk k t n b l) := by
      rw [List.drop_left, List.take_left]
    have hdrop0 : (headS k t (bodyS (.mk k t n b l)).length ++ (bodyS (.mk k t n b l) ++ rest)).drop (headS k t (bodyS (.mk k t n b l)).length).length = bodyS (.mk k t n b l) ++ rest := List.drop_left
    rw [htotal, hw, List.append_assoc, readS, hsz]
    simp only [hfirst, hdrop0, List.take_left]
    rw [if_neg (by decide)]
    generalize hbd : bodyS (.mk k t n b l) = bd at *
    split at hkind
    · rename_i hk
      subst hk
      simp only [Bool.and_eq_true, decide_eq_true_eq] at hkind
      obtain ⟨rfl, hl0⟩ := hkind
      obtain rfl := List.eq_nil_of_length_eq_zero hl0
      have hbs : bd = shortB n := by rw [hbody]; rfl
      have hf : (UInt8.ofNat ((0 : Int) * 64 + t).toNat).toNat = t.toNat := by simp; omega
      rw [hf, if_neg (by omega), if_pos (by omega)]
      have hfew := shortB_few n
      have hgb : getB bd = (n, true) := by
        unfold getB
        rw [hbs, if_neg (by omega), getN_shortB n hn.1]
      rw [hgb, if_neg (by
        rintro (h1 | ⟨h1, h2⟩)
        · simp at h1
        · refine shortB_first n hn.1 ⟨by rw [← hbs]; exact h1, ?_⟩
          have e3 : (bd ++ rest).getD 0 0 = (shortB n).getD 0 0 := by rw [List.getD_eq_getElem?_getD, List.getD_eq_getElem?_getD, List.getElem?_append_left (by omega), hbs]
          rw [← e3]
          exact h2), show ((t.toNat % 64 : Nat) : Int) = t by omega]
    · split at hkind
      · rename_i hk0 hk
        subst hk
        simp only [Bool.and_eq_true, decide_eq_true_eq] at hkind
        obtain ⟨rfl, hl0⟩ := hkind
        obtain rfl := List.eq_nil_of_length_eq_zero hl0
        have hbs : bd = b := by rw [hbody]; rfl
        have hf : (UInt8.ofNat ((1 : Int) * 64 + t).toNat).toNat = 64 + t.toNat := by simp; omega
        rw [hf, if_neg (by omega), if_neg (by omega), if_pos (by omega), hbs, show (((64 + t.toNat) % 64 : Nat) : Int) = t by omega]
      · split at hkind
        · rename_i hk0 hk1 hk
          subst hk
          simp only [Bool.and_eq_true, decide_eq_true_eq] at hkind
          obtain ⟨⟨hall, rfl⟩, rfl⟩ := hkind
          have hbs : bd = writesS l := by rw [hbody]; rfl
          have hf : (UInt8.ofNat ((2 : Int) * 64 + t).toNat).toNat = 128 + t.toNat := by simp; omega
          have hls := listS_write (fun x h1 h2 h3 => readS_write d x h1 h2 h3) l bd.length (fun x hx => ⟨List.all_eq_true.1 hall x hx, hn.2.mem x hx⟩) (by rw [← hbs]; exact hbl) (by rw [hbs]; exact Nat.le_refl _)
          rw [← hbs] at hls
          rw [hf, if_neg (by omega), if_neg (by omega), if_neg (by omega), hls]
          simp only [if_true]
          rw [show (((128 + t.toNat) % 64 : Nat) : Int) = t by omega]
        · simp at hkind
theorem wholeS_write {x : Tv} (h : rightS 8 x = true) (hn : Nw x) (hl : (writeS x).length ≤ 4096) : wholeS (writeS x) = (x, 0) := by
  have := readS_write 8 x h hn hl []
  rw [List.append_nil] at this
  unfold wholeS
  rw [if_neg (by omega), this]
  simp
theorem wrS_cases (x : Tv) : (wrS x = ([], 7) ∧ rightS 8 x = false) ∨ (wrS x = ([], 20) ∧ rightS 8 x = true ∧ 4096 < (writeS x).length) ∨ (wrS x = (writeS x, 0) ∧ rightS 8 x = true ∧ (writeS x).length ≤ 4096) := by
  unfold wrS
  by_cases h : rightS 8 x = false
  · rw [if_pos h]; exact .inl ⟨rfl, h⟩
  · have ht : rightS 8 x = true := by simpa using h
    rw [if_neg h]
    by_cases hl : 4096 < (writeS x).length
    · rw [if_pos hl]; exact .inr (.inl ⟨rfl, ht, hl⟩)
    · rw [if_neg hl]; exact .inr (.inr ⟨rfl, ht, by omega⟩)
end Go.Proofs.Ytofmkkcbfeadgaa
namespace Go.Proofs.Ytofmkkcbfeadgaa
set_option linter.unusedSimpArgs false
set_option linter.unusedVariables false
open Go.RowKit
def kdOf : Pt → Kd
  | .s _ => .s
  | .n _ => .n
  | .b _ => .b
  | .t _ => .t
  | .i _ => .i
  | .x _ => .x
theorem kd_ptOf (k : Kd) (x : Tv) : kdOf (ptOf k x) = k := by cases k <;> rfl
theorem kd_ptsOf : ∀ (ks : List Kd) (l : List Tv), fitsK ks l = true → (ptsOf ks l).map kdOf = ks
  | [], [], _ => rfl
  | [], _ :: _, h => by simp [fitsK] at h
  | _ :: _, [], h => by simp [fitsK] at h
  | k :: ks, x :: l, h => by
    simp only [fitsK, Bool.and_eq_true] at h
    simp only [ptsOf, List.map_cons, kd_ptOf, kd_ptsOf ks l h.2]
theorem right0 {d : Nat} {k t : Int} {n : Nat} {b : List UInt8} {l : List Tv} (h : rightS (d + 1) (.mk k t n b l) = true) (hk : k = 0) : b = [] ∧ l = [] := by
  subst hk
  simp only [rightS, Bool.and_eq_true, if_true, decide_eq_true_eq] at h
  exact ⟨h.2.1, List.eq_nil_of_length_eq_zero h.2.2⟩
theorem right1 {d : Nat} {k t : Int} {n : Nat} {b : List UInt8} {l : List Tv} (h : rightS (d + 1) (.mk k t n b l) = true) (hk : k = 1) : n = 0 ∧ l = [] := by
  subst hk
  have h : (decide (0 ≤ t) && decide (t ≤ 30) && (decide (n = 0) && decide (l.length = 0))) = true := h
  simp only [Bool.and_eq_true, decide_eq_true_eq] at h
  have h2 := h.2
  exact ⟨h2.1, List.eq_nil_of_length_eq_zero h2.2⟩
theorem right2 {d : Nat} {k t : Int} {n : Nat} {b : List UInt8} {l : List Tv} (h : rightS (d + 1) (.mk k t n b l) = true) (hk : k = 2) : n = 0 ∧ b = [] ∧ l.all (rightS d) = true ∧ 0 ≤ t ∧ t ≤ 30 := by
  subst hk
  have h : (decide (0 ≤ t) && decide (t ≤ 30) && (l.all (rightS d) && decide (n = 0) && decide (b = []))) = true := h
  simp only [Bool.and_eq_true, decide_eq_true_eq] at h
  have h2 := h.2
  exact ⟨h2.1.2, h2.2, h2.1.1, h.1.1, h.1.2⟩
theorem rightS_pos {d : Nat} {x : Tv} (h : rightS d x = true) : ∃ e, d = e + 1 := by
  cases d with
  | zero => simp [rightS] at h
  | succ d => exact ⟨d, rfl⟩
theorem isS_back {d : Nat} {x : Tv} (h : isS x = true) (hr : rightS d x = true) : x = .mk 1 0 0 x.b [] ∧ rightB (tx x.b) = true := by
  obtain ⟨e, rfl⟩ := rightS_pos hr
  obtain ⟨k, t, n, b, l⟩ := x
  have h : (decide (k = 1 ∧ t = 0) && rightB (tx b)) = true := h
  simp only [Bool.and_eq_true, decide_eq_true_eq] at h
  obtain ⟨⟨rfl, rfl⟩, h2⟩ := h
  obtain ⟨rfl, rfl⟩ := right1 hr rfl
  exact ⟨rfl, h2⟩
theorem isB_back {d : Nat} {x : Tv} (h : isB x = true) (hr : rightS d x = true) : x = .mk 1 0 0 x.b [] := by
  obtain ⟨e, rfl⟩ := rightS_pos hr
  obtain ⟨k, t, n, b, l⟩ := x
  have h : k = 1 ∧ t = 0 := of_decide_eq_true h
  obtain ⟨rfl, rfl⟩ := h
  obtain ⟨rfl, rfl⟩ := right1 hr rfl
  rfl
theorem tkR_back {d : Nat} {x : Tv} (h : tkR x = true) (hr : rightS d x = true) : tkTv (tkOf x) = x ∧ rT (tkOf x) = true := by
  have ht := ticketS_eq x
  rw [if_pos h] at ht
  obtain ⟨e, rfl⟩ := rightS_pos hr
  obtain ⟨k, t, n, b, l⟩ := x
  unfold tkR at h
  rw [Bool.and_eq_true] at h
  obtain ⟨hkt, h2⟩ := h
  have hkt : k = 2 ∧ t = 1 := of_decide_eq_true hkt
  obtain ⟨rfl, rfl⟩ := hkt
  simp only [Tv.l] at h2
  obtain ⟨rfl, rfl, hl, _, _⟩ := right2 hr rfl
  match l with
  | [] => simp at h2
  | [a] => simp at h2
  | [a, c] =>
    simp only [Bool.and_eq_true] at h2
    simp only [List.all_cons, List.all_nil, Bool.and_true, Bool.and_eq_true] at hl
    obtain ⟨ha, hra⟩ := isS_back h2.1 hl.1
    have hc := isB_back h2.2 hl.2
    simp only [Tv.l] at ht
    have hto : tkOf (.mk 2 1 0 [] [a, c]) = (a.b, c.b) := by unfold tkOf; rw [ht]; rfl
    rw [hto]
    refine ⟨?_, hra⟩
    show Tv.mk 2 1 0 [] [.mk 1 0 0 a.b [], .mk 1 0 0 c.b []] = _
    rw [← ha, ← hc]
  | a :: b :: c :: l => simp at h2
theorem takeWhile_all {α : Type} (p : α → Bool) : ∀ (l : List α), l.all p = true → l.takeWhile p = l
  | [], _ => rfl
  | x :: l, h => by
    rw [List.all_cons, Bool.and_eq_true] at h
    rw [List.takeWhile_cons, if_pos h.1, takeWhile_all p l h.2]
theorem tkR_backs {d : Nat} : ∀ {l : List Tv}, l.all tkR = true → l.all (rightS d) = true → (l.map tkOf).map tkTv = l ∧ (l.map tkOf).all rT = true
  | [], _, _ => ⟨rfl, rfl⟩
  | x :: l, h, hr => by
    rw [List.all_cons, Bool.and_eq_true] at h hr
    obtain ⟨h1, h2⟩ := tkR_back h.1 hr.1
    obtain ⟨h3, h4⟩ := tkR_backs h.2 hr.2
    exact ⟨by rw [List.map_cons, List.map_cons, h1, h3], by rw [List.map_cons, List.all_cons, h2, h4]; rfl⟩
theorem pt_back {d : Nat} {k : Kd} {x : Tv} (h : fitK k x = true) (hr : rightS d x = true) : ptTv (ptOf k x) = x ∧ ptB (ptOf k x) = true := by
  cases k
  · obtain ⟨h1, h2⟩ := isS_back h hr
    exact ⟨h1.symm, h2⟩
  · obtain ⟨e, rfl⟩ := rightS_pos hr
    obtain ⟨k, t, n, b, l⟩ := x
    have h : (decide (k = 0 ∧ t = 0) && decide (n ≤ maxT)) = true := h
    simp only [Bool.and_eq_true, decide_eq_true_eq] at h
    obtain ⟨⟨rfl, rfl⟩, h2⟩ := h
    obtain ⟨rfl, rfl⟩ := right0 hr rfl
    refine ⟨rfl, ?_⟩
    show timeB (n : Int) = true
    unfold maxT at h2
    simp [timeB]; omega
  · exact ⟨(isB_back h hr).symm, rfl⟩
  · obtain ⟨e, rfl⟩ := rightS_pos hr
    obtain ⟨k, t, n, b, l⟩ := x
    have h : (decide (k = 0 ∧ t = 0) && decide (n ≤ 1)) = true := h
    simp only [Bool.and_eq_true, decide_eq_true_eq] at h
    obtain ⟨⟨rfl, rfl⟩, h2⟩ := h
    obtain ⟨rfl, rfl⟩ := right0 hr rfl
    refine ⟨?_, rfl⟩
    rcases (by omega : n = 0 ∨ n = 1) with rfl | rfl <;> rfl
  · exact tkR_back h hr
  · obtain ⟨e, rfl⟩ := rightS_pos hr
    obtain ⟨k, t, n, b, l⟩ := x
    have h : (decide (k = 2 ∧ t = 0) && (decide (l.length ≤ 1) && l.all tkR)) = true := h
    simp only [Bool.and_eq_true, decide_eq_true_eq] at h
    obtain ⟨⟨rfl, rfl⟩, h2, h3⟩ := h
    obtain ⟨rfl, rfl, hl, _, _⟩ := right2 hr rfl
    obtain ⟨h4, h5⟩ := tkR_backs h3 hl
    refine ⟨?_, ?_⟩
    · show Tv.mk 2 0 0 [] (((l.map tkOf).takeWhile rT).map tkTv) = _
      rw [takeWhile_all _ _ h5, h4]
    · show ((l.map tkOf).all rT && decide ((l.map tkOf).length ≤ 1)) = true
      rw [h5, List.length_map, decide_eq_true h2]; rfl
theorem pts_back {d : Nat} : ∀ {ks : List Kd} {l : List Tv}, fitsK ks l = true → l.all (rightS d) = true → (ptsOf ks l).map ptTv = l ∧ (ptsOf ks l).all ptB = true
  | [], [], _, _ => ⟨rfl, rfl⟩
  | [], _ :: _, h, _ => by simp [fitsK] at h
  | _ :: _, [], h, _ => by simp [fitsK] at h
  | k :: ks, x :: l, h, hr => by
    simp only [fitsK, Bool.and_eq_true] at h
    rw [List.all_cons, Bool.and_eq_true] at hr
    obtain ⟨h1, h2⟩ := pt_back h.1 hr.1
    obtain ⟨h3, h4⟩ := pts_back h.2 hr.2
    exact ⟨by rw [ptsOf, List.map_cons, h1, h3], by rw [ptsOf, List.all_cons, h2, h4]; rfl⟩
def msgTv (t : Int) (pts : List Pt) : Tv := .mk 2 t 0 [] (pts.map ptTv)
/-- What a message's value is read as has that value. -/
theorem msg_back {d : Nat} {x : Tv} (hr : rightS d x = true) (h : msgR x = true) : msgTv x.tag (ptsOf (shapeS x.tag) x.l) = x ∧ (ptsOf (shapeS x.tag) x.l).all ptB = true ∧ (ptsOf (shapeS x.tag) x.l).map kdOf = shapeS x.tag ∧ (shapeS x.tag).isEmpty = false := by
  obtain ⟨e, rfl⟩ := rightS_pos hr
  obtain ⟨k, t, n, b, l⟩ := x
  have h : (decide (k = 2) && (!(shapeS t).isEmpty && fitsK (shapeS t) l)) = true := h
  simp only [Bool.and_eq_true, decide_eq_true_eq, Bool.not_eq_true'] at h
  obtain ⟨rfl, h2, h3⟩ := h
  obtain ⟨rfl, rfl, hl, _, _⟩ := right2 hr rfl
  obtain ⟨h4, h5⟩ := pts_back h3 hl
  exact ⟨by unfold msgTv; rw [Tv.l, Tv.tag, h4], h5, kd_ptsOf _ _ h3, h2⟩
/-! ### The other way -/
theorem right_s (d : Nat) (l : List UInt8) : rightS (d + 1) (.mk 1 0 0 l []) = true := by simp [rightS]
theorem right_n (d n : Nat) : rightS (d + 1) (.mk 0 0 n [] []) = true := by simp [rightS]
theorem right_l (d : Nat) (t : Int) (l : List Tv) (h0 : 0 ≤ t) (h1 : t ≤ 30) (h : l.all (rightS d) = true) : rightS (d + 1) (.mk 2 t 0 [] l) = true := by
  show (decide (0 ≤ t) && decide (t ≤ 30) && (l.all (rightS d) && decide ((0 : Nat) = 0) && decide (([] : List UInt8) = []))) = true
  rw [h, decide_eq_true h0, decide_eq_true h1]
  rfl
theorem tk_fwd (t : List UInt8 × List UInt8) (h : rT t = true) (d : Nat) : tkR (tkTv t) = true ∧ tkOf (tkTv t) = t ∧ rightS (d + 2) (tkTv t) = true := by
  have h1 : tkR (tkTv t) = true := by
    show (decide ((2 : Int) = 2 ∧ (1 : Int) = 1) && (isS (.mk 1 0 0 t.1 []) && isB (.mk 1 0 0 t.2 []))) = true
    have : isS (.mk 1 0 0 t.1 []) = true := by
      show (decide ((1 : Int) = 1 ∧ (0 : Int) = 0) && rightB (tx t.1)) = true
      rw [show rightB (tx t.1) = true from h]; decide
    rw [this]
    rfl
  refine ⟨h1, ?_, ?_⟩
  · have ht := ticketS_eq (tkTv t)
    rw [if_pos h1] at ht
    unfold tkOf
    rw [ht]
    rfl
  · refine right_l _ _ _ (by decide) (by decide) ?_
    simp only [List.all_cons, List.all_nil, right_s, Bool.and_true]
theorem tks_fwd (d : Nat) : ∀ (l : List (List UInt8 × List UInt8)), l.all rT = true → (l.map tkTv).all tkR = true ∧ (l.map tkTv).map tkOf = l ∧ (l.map tkTv).all (rightS (d + 2)) = true
  | [], _ => ⟨rfl, rfl, rfl⟩
  | t :: l, h => by
    rw [List.all_cons, Bool.and_eq_true] at h
    obtain ⟨h1, h2, h3⟩ := tk_fwd t h.1 d
    obtain ⟨h4, h5, h6⟩ := tks_fwd d l h.2
    exact ⟨by rw [List.map_cons, List.all_cons, h1, h4]; rfl, by rw [List.map_cons, List.map_cons, h2, h5], by rw [List.map_cons, List.all_cons, h3, h6]; rfl⟩
theorem timeB_iff (x : Int) : timeB x = true ↔ 0 ≤ x ∧ x ≤ 1099511627776 := by simp [timeB]
theorem pt_fwd (p : Pt) (h : ptB p = true) (d : Nat) : fitK (kdOf p) (ptTv p) = true ∧ ptOf (kdOf p) (ptTv p) = p ∧ rightS (d + 3) (ptTv p) = true := by
  cases p with
  | s l => exact ⟨by show (decide ((1 : Int) = 1 ∧ (0 : Int) = 0) && rightB (tx l)) = true; rw [show rightB (tx l) = true from h]; decide, rfl, right_s _ _⟩
  | n x =>
    obtain ⟨h0, h1⟩ := (timeB_iff x).1 h
    obtain ⟨n, rfl⟩ := Int.eq_ofNat_of_zero_le h0
    refine ⟨?_, rfl, right_n _ _⟩
    show (decide ((0 : Int) = 0 ∧ (0 : Int) = 0) && decide (n ≤ maxT)) = true
    rw [decide_eq_true (by unfold maxT; omega : n ≤ maxT)]
    decide
  | b l => exact ⟨rfl, rfl, right_s _ _⟩
  | t b => cases b <;> exact ⟨by decide, rfl, right_n _ _⟩
  | i t => obtain ⟨h1, h2, h3⟩ := tk_fwd t h (d + 1); exact ⟨h1, by show Pt.i _ = _; rw [show ptTv (.i t) = tkTv t from rfl, h2], h3⟩
  | x l =>
    have h : (l.all rT && decide (l.length ≤ 1)) = true := h
    rw [Bool.and_eq_true, decide_eq_true_eq] at h
    obtain ⟨h1, h2, h3⟩ := tks_fwd d l h.1
    have he : ptTv (.x l) = .mk 2 0 0 [] (l.map tkTv) := by show tksTv l = _; unfold tksTv; rw [takeWhile_all _ _ h.1]
    rw [he]
    refine ⟨?_, by show Pt.x ((l.map tkTv).map tkOf) = _; rw [h2], right_l _ _ _ (by decide) (by decide) h3⟩
    show (decide ((2 : Int) = 2 ∧ (0 : Int) = 0) && (decide ((l.map tkTv).length ≤ 1) && (l.map tkTv).all tkR)) = true
    rw [h1, List.length_map, decide_eq_true h.2]
    decide
theorem pts_fwd : ∀ (pts : List Pt), pts.all ptB = true → fitsK (pts.map kdOf) (pts.map ptTv) = true ∧ ptsOf (pts.map kdOf) (pts.map ptTv) = pts ∧ (pts.map ptTv).all (rightS 7) = true
  | [], _ => ⟨rfl, rfl, rfl⟩
  | p :: l, h => by
    rw [List.all_cons, Bool.and_eq_true] at h
    obtain ⟨h1, h2, h3⟩ := pt_fwd p h.1 4
    obtain ⟨h4, h5, h6⟩ := pts_fwd l h.2
    exact ⟨by simp only [List.map_cons, fitsK, h1, h4]; rfl, by simp only [List.map_cons, ptsOf, h2, h5], by rw [List.map_cons, List.all_cons, h3, h6]; rfl⟩
theorem shape_tag {t : Int} (h : (shapeS t).isEmpty = false) : 11 ≤ t ∧ t ≤ 22 := by
  unfold shapeS at h
  refine ⟨Decidable.byContradiction fun hn => ?_, Decidable.byContradiction fun hn => ?_⟩
  all_goals
    rw [if_neg (by omega), if_neg (by omega), if_neg (by omega), if_neg (by omega), if_neg (by omega), if_neg (by omega), if_neg (by omega), if_neg (by omega), if_neg (by omega), if_neg (by omega), if_neg (by omega), if_neg (by omega)] at h
    simp at h
/-- A message's value is that of the message. -/
theorem msg_fwd {t : Int} {pts : List Pt} (hk : pts.map kdOf = shapeS t) (hne : (shapeS t).isEmpty = false) (hb : pts.all ptB = true) : msgR (msgTv t pts) = true ∧ ptsOf (shapeS t) (msgTv t pts).l = pts ∧ rightS 8 (msgTv t pts) = true := by
  obtain ⟨h1, h2, h3⟩ := pts_fwd pts hb
  obtain ⟨ht1, ht2⟩ := shape_tag hne
  rw [hk] at h1 h2
  refine ⟨?_, h2, right_l _ _ _ (by omega) (by omega) h3⟩
  show (decide ((2 : Int) = 2) && (!(shapeS t).isEmpty && fitsK (shapeS t) (pts.map ptTv))) = true
  rw [h1, hne]
  decide
theorem szTx {l : List UInt8} (h : l.length ≤ 1099511627776) : (tx l).size ≤ maxLen := by rw [tx_size]; unfold maxLen; omega
theorem enters_mtext : Enters Try.prog 33 := Enters.mk Try.func33 (by kernel_rfl) (by kernel_rfl)
theorem enters_mnum : Enters Try.prog 34 := Enters.mk Try.func34 (by kernel_rfl) (by kernel_rfl)
theorem enters_mright : Enters Try.prog 36 := Enters.mk Try.func36 (by kernel_rfl) (by kernel_rfl)
theorem elStr : Elem Try.prog 52 9 1 16 (.string ⟨#[]⟩) := by
  refine Elem.mk Try.underlying52 ?_ rfl (by decide)
  kernel_rfl
theorem elI64 : Elem Try.prog 130 2 1 8 (.int .i64 0) := by
  refine Elem.mk Try.underlying130 ?_ rfl (by decide)
  kernel_rfl
theorem zero_11 (W : World) : (zeroValue 82).run Try.prog W = .ok (.agg #[.string ⟨#[]⟩, .int .i64 0, .int .i64 0, .slice none 0 0]) W := by kernel_rfl
theorem zero_12 (W : World) : (zeroValue 91).run Try.prog W = .ok (.agg #[.string ⟨#[]⟩, .string ⟨#[]⟩, .slice none 0 0, .slice none 0 0]) W := by kernel_rfl
theorem zero_13 (W : World) : (zeroValue 87).run Try.prog W = .ok (.agg #[.string ⟨#[]⟩, .int .i64 0, .int .i64 0, .bool false, .bool false, .string ⟨#[]⟩, .slice none 0 0, .slice none 0 0, .slice none 0 0]) W := by kernel_rfl
theorem zero_14 (W : World) : (zeroValue 92).run Try.prog W = .ok (.agg #[.string ⟨#[]⟩, .string ⟨#[]⟩, .slice none 0 0, .slice none 0 0]) W := by kernel_rfl
theorem zero_15 (W : World) : (zeroValue 54).run Try.prog W = .ok (.agg #[.string ⟨#[]⟩, .string ⟨#[]⟩, .int .i64 0]) W := by kernel_rfl
theorem zero_16 (W : World) : (zeroValue 94).run Try.prog W = .ok (.agg #[.string ⟨#[]⟩, .string ⟨#[]⟩, .int .i64 0, .string ⟨#[]⟩, .slice none 0 0]) W := by kernel_rfl
theorem zero_17 (W : World) : (zeroValue 96).run Try.prog W = .ok (.agg #[.string ⟨#[]⟩, .string ⟨#[]⟩, .int .i64 0, .string ⟨#[]⟩, .slice none 0 0, .slice none 0 0]) W := by kernel_rfl
theorem zero_18 (W : World) : (zeroValue 98).run Try.prog W = .ok (.agg #[.string ⟨#[]⟩, .string ⟨#[]⟩, .int .i64 0, .slice none 0 0]) W := by kernel_rfl
theorem zero_19 (W : World) : (zeroValue 100).run Try.prog W = .ok (.agg #[.string ⟨#[]⟩, .string ⟨#[]⟩, .int .i64 0, .int .i64 0, .int .i64 0, .slice none 0 0]) W := by kernel_rfl
theorem zero_20 (W : World) : (zeroValue 89).run Try.prog W = .ok (.agg #[.string ⟨#[]⟩, .int .i64 0, .int .i64 0, .bool false, .string ⟨#[]⟩, .slice none 0 0, .slice none 0 0]) W := by kernel_rfl
theorem zero_21 (W : World) : (zeroValue 102).run Try.prog W = .ok (.agg #[.string ⟨#[]⟩, .slice none 0 0]) W := by kernel_rfl
theorem zero_22 (W : World) : (zeroValue 104).run Try.prog W = .ok (.agg #[.string ⟨#[]⟩, .int .i64 0, .int .i64 0]) W := by kernel_rfl
set_option maxHeartbeats 16000000 in
set_option maxRecDepth 100000 in
theorem msgValue_15 (F0 : Nat → Prop) (l1 : List UInt8) (l2 : List UInt8) (x3 : Int) (w : World) (hz1 : l1.length ≤ 1099511627776) (hz2 : l2.length ≤ 1099511627776) (hz3 : -9223372036854775808 ≤ x3 ∧ x3 ≤ 9223372036854775807) :
    Calls Try.prog 25 #[.iface 54 (.agg #[.string (tx l1), .string (tx l2), .int .i64 x3])] w (VlRes w (.mk 2 15 0 [] ([.s l1, .s l2, .n x3].map ptTv)) ([.s l1, .s l2, .n x3].all ptB)) := by
  have HC : Hid (VC w w.heap.size [(w.heap.size + 1, [.string (tx l1), .string (tx l2), .int .i64 x3], 54)] [] [] ((w.alloc (.cells zs5.toArray 70)).alloc (.cells [.string (tx l1), .string (tx l2), .int .i64 x3].toArray 54))) := hI (VC.start (by intro r hr; cases hr) _ _)
  have HSZ : Hid (∀ u ∈ [tx l1, tx l2], u.size ≤ maxLen) := hI (by intro u hu; simp only [List.mem_cons, List.not_mem_nil, or_false] at hu; rcases hu with rfl | rfl; exact szTx hz1; exact szTx hz2)
  have HZ1 := hI hz1
  clear hz1
  have HZ2 := hI hz2
  clear hz2
  have HZ3 := hI hz3
  clear hz3
  obtain ⟨z11, hta11⟩ := tan 82 54 (.agg #[.string (tx l1), .string (tx l2), .int .i64 x3]) zero_11 (by kernel_rfl) (by decide)
  obtain ⟨z12, hta12⟩ := tan 91 54 (.agg #[.string (tx l1), .string (tx l2), .int .i64 x3]) zero_12 (by kernel_rfl) (by decide)
  obtain ⟨z13, hta13⟩ := tan 87 54 (.agg #[.string (tx l1), .string (tx l2), .int .i64 x3]) zero_13 (by kernel_rfl) (by decide)
  obtain ⟨z14, hta14⟩ := tan 92 54 (.agg #[.string (tx l1), .string (tx l2), .int .i64 x3]) zero_14 (by kernel_rfl) (by decide)
  have hta : ∀ W, (Instr.typeAssert (.iface 54 (.agg #[.string (tx l1), .string (tx l2), .int .i64 x3])) 20 54 true).run Try.prog W = .ok (.tuple #[.agg #[.string (tx l1), .string (tx l2), .int .i64 x3], .bool true]) W := fun W => ta_is _ _ _ (by kernel_rfl) W
  obtain ⟨B, hB⟩ : ∃ B, B = [.s l1, .s l2, .n x3].all ptB := ⟨_, rfl⟩
  obtain ⟨X, hX⟩ : ∃ X : Tv, X = .mk 2 15 0 [] ([.s l1, .s l2, .n x3].map ptTv) := ⟨_, rfl⟩
  rw [← hB, ← hX]
  have HB := hI hB
  have HX2 := hI hX
  clear hB hX
  go_enter Try.func25, Try.ntmps25
  go_upto_region 20 with fail
  clear hta hta11 hta12 hta13 hta14
  show Code.wp _ _ _ _ ((w.alloc (.cells zs5.toArray 70)).alloc (.cells [.string (tx l1), .string (tx l2), .int .i64 x3].toArray 54))
  obtain ⟨W0, hW0⟩ : ∃ W0, W0 = (w.alloc (.cells zs5.toArray 70)).alloc (.cells [.string (tx l1), .string (tx l2), .int .i64 x3].toArray 54) := ⟨_, rfl⟩
  rw [← hW0] at HC ⊢
  clear hW0
  obtain ⟨p, hp⟩ : ∃ p, p = w.heap.size + 1 := ⟨_, rfl⟩
  obtain ⟨q, hq⟩ : ∃ q, q = w.heap.size := ⟨_, rfl⟩
  rw [← hp, ← hq] at HC ⊢
  clear hp hq
  have HBE : Hid (B = ([tx l1, tx l2].all rightB && [x3].all timeB)) := hI (by rw [HB.out]; simp only [List.all_cons, List.all_nil, ptB, Bool.and_true, Bool.true_and, Bool.and_false, Bool.false_and, Bool.and_assoc]; first | done | ac_rfl)
  obtain ⟨wd, hwd⟩ : ∃ wd, wd = World.drew W0 := ⟨_, rfl⟩
  have hvd : VC w q [(p, [.string (tx l1), .string (tx l2), .int .i64 x3], 54)] [] [] wd := by rw [hwd]; exact HC.out.drew
  have HXE : Hid (X = .mk 2 15 0 [] [.mk 1 0 0 l1 [], .mk 1 0 0 l2 [], .mk 0 0 (numU x3) [] []]) := hI HX2.out
  have HR : Hid (∀ W, GV (fun b => q < b) q X wd W → VR w q [(p, [.string (tx l1), .string (tx l2), .int .i64 x3], 54)] [] [] W) := hI (fun W h => hvd.gv h)
  have HZD : Hid (∀ W, GV (fun b => q < b) q X wd W → q < W.heap.size ∧ ∀ b, W.heap.size ≤ b → q < b) := hI (fun W h => ⟨(HR.out W h).lt, fun b hb => Nat.lt_of_lt_of_le (HR.out W h).lt hb⟩)
  have HFq : Hid (¬ (fun b => q < b) q) := hI (Nat.lt_irrefl q)
  have HQW : Hid (w.heap.size = q) := hI hvd.hq.symm
  clear hvd HC
  refine wp_region_held (S := fun W => GV (fun b => q < b) q X wd W) (by kernel_rfl) ?_
  change wpAnyH _ _ _ _ _ _ _ _ (World.drew _)
  rw [← hwd]
  clear hwd
  refine tkH 0 165 none (.pointer (some ⟨p, 0, none⟩)) rfl (by kernel_rfl) (fun _ _ _ h => h) (by rfl) (by intro W hW; go_simp) (GV.refl _ _ _ _) ?_
  simp only [Act.put, q1, q2, q3]
  refine tkH 1 166 none (.string (tx l1)) rfl (by kernel_rfl) (fun _ _ _ h => h) (by rfl) (by intro W hW; have hc : W.cell? ⟨p, 0, none⟩ = some (.string (tx l1)) := ((HR.out W hW).blkAt 0 rfl).cell 0; go_simp) (GV.refl _ _ _ _) ?_
  simp only [Act.put, q1, q2, q3]
  refine tkH 3 168 none (.pointer (some ⟨p, 1, none⟩)) rfl (by kernel_rfl) (fun _ _ _ h => h) (by rfl) (by intro W hW; go_simp) (GV.refl _ _ _ _) ?_
  simp only [Act.put, q1, q2, q3]
  refine tkH 4 169 none (.string (tx l2)) rfl (by kernel_rfl) (fun _ _ _ h => h) (by rfl) (by intro W hW; have hc : W.cell? ⟨p, 1, none⟩ = some (.string (tx l2)) := ((HR.out W hW).blkAt 0 rfl).cell 1; go_simp) (GV.refl _ _ _ _) ?_
  simp only [Act.put, q1, q2, q3]
  refine tkH 6 171 none (.pointer (some ⟨p, 2, none⟩)) rfl (by kernel_rfl) (fun _ _ _ h => h) (by rfl) (by intro W hW; go_simp) (GV.refl _ _ _ _) ?_
  simp only [Act.put, q1, q2, q3]
  refine tkH 7 172 none (.int .i64 x3) rfl (by kernel_rfl) (fun _ _ _ h => h) (by rfl) (by intro W hW; have hc : W.cell? ⟨p, 2, none⟩ = some (.int .i64 x3) := ((HR.out W hW).blkAt 0 rfl).cell 2; go_simp) (GV.refl _ _ _ _) ?_
  simp only [Act.put, q1, q2, q3]
  refine tkH 11 176 none (.pointer (some ⟨p, 0, none⟩)) rfl (by kernel_rfl) (fun _ _ _ h => h) (by rfl) (by intro W hW; go_simp) (GV.refl _ _ _ _) ?_
  simp only [Act.put, q1, q2, q3]
  refine tkH 12 177 none (.string (tx l1)) rfl (by kernel_rfl) (fun _ _ _ h => h) (by rfl) (by intro W hW; have hc : W.cell? ⟨p, 0, none⟩ = some (.string (tx l1)) := ((HR.out W hW).blkAt 0 rfl).cell 0; go_simp) (GV.refl _ _ _ _) ?_
  simp only [Act.put, q1, q2, q3]
  refine tkH 13 178 none (.pointer (some ⟨p, 1, none⟩)) rfl (by kernel_rfl) (fun _ _ _ h => h) (by rfl) (by intro W hW; go_simp) (GV.refl _ _ _ _) ?_
  simp only [Act.put, q1, q2, q3]
  refine tkH 14 179 none (.string (tx l2)) rfl (by kernel_rfl) (fun _ _ _ h => h) (by rfl) (by intro W hW; have hc : W.cell? ⟨p, 1, none⟩ = some (.string (tx l2)) := ((HR.out W hW).blkAt 0 rfl).cell 1; go_simp) (GV.refl _ _ _ _) ?_
  simp only [Act.put, q1, q2, q3]
  refine tkH 16 181 none (.pointer (some ⟨p, 2, none⟩)) rfl (by kernel_rfl) (fun _ _ _ h => h) (by rfl) (by intro W hW; go_simp) (GV.refl _ _ _ _) ?_
  simp only [Act.put, q1, q2, q3]
  refine tkH 17 182 none (.int .i64 x3) rfl (by kernel_rfl) (fun _ _ _ h => h) (by rfl) (by intro W hW; have hc : W.cell? ⟨p, 2, none⟩ = some (.int .i64 x3) := ((HR.out W hW).blkAt 0 rfl).cell 2; go_simp) (GV.refl _ _ _ _) ?_
  simp only [Act.put, q1, q2, q3]
  refine anyH_steps (G := GV (fun b => q < b) q X) (Post := postV (fun b => q < b) q X [.any, .any, .val (.mk 1 0 0 l1 []), .any, .any, .val (.mk 1 0 0 l2 []), .any, .any, .val (.mk 0 0 (numU x3) [] []), .vals [.mk 1 0 0 l1 [], .mk 1 0 0 l2 [], .mk 0 0 (numU x3) [] []], .val (.mk 2 15 0 [] [.mk 1 0 0 l1 [], .mk 1 0 0 l2 [], .mk 0 0 (numU x3) [] []]), .any, .any, .any, .any, .row [.string (tx l1), .string (tx l2)], .any, .any, .row [.int .i64 x3], .is (.bool ([tx l1, tx l2].all rightB && [x3].all timeB)), .fin, .is (.bool ([tx l1, tx l2].all rightB && [x3].all timeB))]) (ds := [167, 170, 173, 174, 175, 180, 183, 184, 3]) (GV.refl _ _ _) GV.trans (fun W W' h g => GV.trans _ _ _ h g) (fun i v W W' h g => PK.stable HFq.out h g) [2, 5, 8, 9, 10, 15, 18, 19, 20, 21] 397 rfl (by decide +kernel) (by decide +kernel) ?_ ?_ (GV.refl _ _ _ _) (by decide +kernel)
  · refine AllSteps.cons (o := { dst := some 167, op := .call { callee := .value (.func 33), args := #[.tmp 166], argTypes := #[9] }, type := _, pos := _, after := _, guard := none }) rfl (fun a W hf hS hd K hK => ?_) ?_
    · have e166 : a.eval (.tmp 166) = .string (tx l1) := hf.lit 166 (by decide) rfl
      exact stepV_mk (wanted_none rfl) rfl enters_mtext (vs := #[.string (tx l1)]) (by simp [e166]) (mtext_any l1 W HZ1.out) (HZD.out W hS).1 (HZD.out W hS).2 hK
    refine AllSteps.cons (o := { dst := some 170, op := .call { callee := .value (.func 33), args := #[.tmp 169], argTypes := #[9] }, type := _, pos := _, after := _, guard := none }) rfl (fun a W hf hS hd K hK => ?_) ?_
    · have e169 : a.eval (.tmp 169) = .string (tx l2) := hf.lit 169 (by decide) rfl
      exact stepV_mk (wanted_none rfl) rfl enters_mtext (vs := #[.string (tx l2)]) (by simp [e169]) (mtext_any l2 W HZ2.out) (HZD.out W hS).1 (HZD.out W hS).2 hK
    refine AllSteps.cons (o := { dst := some 173, op := .call { callee := .value (.func 34), args := #[.tmp 172], argTypes := #[2] }, type := _, pos := _, after := _, guard := none }) rfl (fun a W hf hS hd K hK => ?_) ?_
    · have e172 : a.eval (.tmp 172) = .int .i64 x3 := hf.lit 172 (by decide) rfl
      exact stepV_mk (wanted_none rfl) rfl enters_mnum (vs := #[.int .i64 x3]) (by simp [e172]) (mnumI_any x3 W HZ3.out.1 HZ3.out.2) (HZD.out W hS).1 (HZD.out W hS).2 hK
    refine AllSteps.cons (o := { dst := some 174, op := .buildSlice 68 3 #[(0, .tmp 167), (1, .tmp 170), (2, .tmp 173)], type := _, pos := _, after := _, guard := none }) rfl (fun a W hf hS hd K hK => ?_) ?_
    · have d167 := (hd 2 (by decide +kernel)).get (s := 167) rfl
      have d170 := (hd 5 (by decide +kernel)).get (s := 170) rfl
      have d173 := (hd 8 (by decide +kernel)).get (s := 173) rfl
      exact stepV_vals (wanted_none rfl) rfl elDer (ps := [.tmp 167, .tmp 170, .tmp 173]) rfl (l := [.mk 1 0 0 l1 [], .mk 1 0 0 l2 [], .mk 0 0 (numU x3) [] []]) ⟨d167, d170, d173, trivial⟩ rfl (by decide) (by decide) (HZD.out W hS).1 (HZD.out W hS).2 hK
    refine AllSteps.cons (o := { dst := some 175, op := .call { callee := .value (.func 32), args := #[.const (.int .i64 15), .tmp 174], argTypes := #[3, 68] }, type := _, pos := _, after := _, guard := none }) rfl (fun a W hf hS hd K hK => ?_) ?_
    · have d174 := (hd 9 (by decide +kernel)).get (s := 174) rfl
      exact stepV_seq (wanted_none rfl) rfl enters_seq d174 (HZD.out W hS).1 (fun v w1 h1 h2 => hK v w1 h1 h2) HFq.out
    refine AllSteps.cons (o := { dst := some 180, op := .buildSlice 52 2 #[(0, .tmp 177), (1, .tmp 179)], type := _, pos := _, after := _, guard := none }) rfl (fun a W hf hS hd K hK => ?_) ?_
    · have e177 : a.eval (.tmp 177) = .string (tx l1) := hf.lit 177 (by decide) rfl
      have e179 : a.eval (.tmp 179) = .string (tx l2) := hf.lit 179 (by decide) rfl
      exact stepV_row (wanted_none rfl) rfl elStr (ps := [.tmp 177, .tmp 179]) rfl (cs := [.string (tx l1), .string (tx l2)]) (by simp only [List.map_cons, List.map_nil, e177, e179]) (by intro u hu; simp only [List.mem_cons, List.not_mem_nil, or_false] at hu; rcases hu with rfl | rfl <;> exact ⟨rfl, rfl⟩) rfl (by decide) (by decide) (HZD.out W hS).1 (HZD.out W hS).2 hK
    refine AllSteps.cons (o := { dst := some 183, op := .buildSlice 130 1 #[(0, .tmp 182)], type := _, pos := _, after := _, guard := none }) rfl (fun a W hf hS hd K hK => ?_) ?_
    · have e182 : a.eval (.tmp 182) = .int .i64 x3 := hf.lit 182 (by decide) rfl
      exact stepV_row (wanted_none rfl) rfl elI64 (ps := [.tmp 182]) rfl (cs := [.int .i64 x3]) (by simp only [List.map_cons, List.map_nil, e182]) (by intro u hu; simp only [List.mem_cons, List.not_mem_nil, or_false] at hu; rcases hu with rfl <;> exact ⟨rfl, rfl⟩) rfl (by decide) (by decide) (HZD.out W hS).1 (HZD.out W hS).2 hK
    refine AllSteps.cons (o := { dst := some 184, op := .call { callee := .value (.func 36), args := #[.tmp 180, .tmp 183], argTypes := #[52, 130] }, type := _, pos := _, after := _, guard := none }) rfl (fun a W hf hS hd K hK => ?_) ?_
    · have d180 := (hd 15 (by decide +kernel)).get (s := 180) rfl
      have d183 := (hd 18 (by decide +kernel)).get (s := 183) rfl
      exact stepV_is (wanted_none rfl) rfl enters_mright (vs := #[a.eval (.tmp 180), a.eval (.tmp 183)]) (by first | (simp only [List.map_toArray, List.map_cons, List.map_nil]; done) | (simp only [List.map_toArray, List.map_cons, List.map_nil]; rfl)) (u := (.bool ([tx l1, tx l2].all rightB && [x3].all timeB))) (mright_any [tx l1, tx l2] [x3] _ _ W d180.1 d183.1 HSZ.out) (HZD.out W hS).1 hK
    refine AllSteps.cons (o := { dst := none, op := .store 70 (.tmp 2) (.tmp 175), type := _, pos := _, after := _, guard := none }) rfl (fun a W hf hS hd K hK => ?_) ?_
    · have e2 : a.eval (.tmp 2) = .pointer (some ⟨q, 0, none⟩) := hf.lit 2 (by decide) rfl
      have d175 := (hd 10 (by decide +kernel)).get (s := 175) rfl
      obtain ⟨cur, hc1, hc2⟩ := (HR.out W hS).len
      rw [← HXE.out] at d175
      exact stepV_fin (wanted_none rfl) rfl e2 d175 hc1 hc2 HFq.out hK
    refine AllSteps.cons (o := { dst := some 3, op := .assign (.tmp 184), type := _, pos := _, after := _, guard := none }) rfl (fun a W hf hS hd K hK => ?_) ?_
    · have d184 := (hd 19 (by decide +kernel)).get (s := 184) rfl
      exact step_val (wanted_none rfl) (exec_asg rfl rfl) (hK _ _ (GV.refl _ _ _ _) d184)
    exact AllSteps.nil
  · intro a W hf hS hp
    have h3 := (hp 21 (by decide)).get (s := 3) rfl
    obtain ⟨v, cs, h5, h6⟩ := (hp 20 (by decide)).fin
    have e2 : a.eval (.tmp 2) = .pointer (some ⟨q, 0, none⟩) := hf.lit 2 (by decide) rfl
    go_wp2_with fail
    refine bodyPost_ret (results_agg_tmp rfl aggDer (show a.tmps.getD 2 undef = _ from e2) h6.length h5.cellsAll) hf.defers ⟨cs, ?_, ?_, (HR.out W hS).below⟩
    · rw [HBE.out, show a.tmps.getD 3 undef = .bool ([tx l1, tx l2].all rightB && [x3].all timeB) from h3]
    · exact h6.mono (fun b hb => by have := HQW.out; omega)
/-- Parts that memory has room for. -/
def PtOk : Pt → Prop
  | .s l => l.length ≤ 1099511627776
  | .n x => -9223372036854775808 ≤ x ∧ x ≤ 9223372036854775807
  | .b l => l.length ≤ 1099511627776
  | .t _ => True
  | .i t => t.1.length ≤ 1099511627776 ∧ t.2.length ≤ 1099511627776
  | .x l => (∀ t ∈ l, t.1.length ≤ 1099511627776 ∧ t.2.length ≤ 1099511627776) ∧ l.length ≤ 1954687338211
theorem map_cons_ex {pts : List Pt} {k : Kd} {ks : List Kd} (h : pts.map kdOf = k :: ks) : ∃ p r, pts = p :: r ∧ kdOf p = k ∧ r.map kdOf = ks := by
  cases pts with
  | nil => simp at h
  | cons p r =>
    simp only [List.map_cons, List.cons.injEq] at h
    exact ⟨p, r, rfl, h.1, h.2⟩
theorem map_nil_ex {pts : List Pt} (h : pts.map kdOf = []) : pts = [] := List.map_eq_nil_iff.1 h
theorem kd_s {p : Pt} (h : kdOf p = .s) : ∃ y : List UInt8, p = .s y := by
  cases p <;> first | exact ⟨_, rfl⟩ | cases h
theorem kd_n {p : Pt} (h : kdOf p = .n) : ∃ y : Int, p = .n y := by
  cases p <;> first | exact ⟨_, rfl⟩ | cases h
theorem kd_b {p : Pt} (h : kdOf p = .b) : ∃ y : List UInt8, p = .b y := by
  cases p <;> first | exact ⟨_, rfl⟩ | cases h
theorem kd_t {p : Pt} (h : kdOf p = .t) : ∃ y : Bool, p = .t y := by
  cases p <;> first | exact ⟨_, rfl⟩ | cases h
theorem kd_i {p : Pt} (h : kdOf p = .i) : ∃ y : List UInt8 × List UInt8, p = .i y := by
  cases p <;> first | exact ⟨_, rfl⟩ | cases h
theorem kd_x {p : Pt} (h : kdOf p = .x) : ∃ y : List (List UInt8 × List UInt8), p = .x y := by
  cases p <;> first | exact ⟨_, rfl⟩ | cases h
def strOf : Pt → List UInt8
  | .s l => l
  | _ => []
def kdcB : List UInt8 := [107, 100, 99]
/-- For whom a message is. -/
def toM (t : Int) (pts : List Pt) : List UInt8 := if t = 11 ∨ t = 13 ∨ t = 20 then kdcB else if 15 ≤ t ∧ t ≤ 19 then strOf (pts.getD 1 (.n 0)) else strOf (pts.getD 0 (.n 0))
def ToRes (w : World) (l : List UInt8) (e : Ending) (w' : World) : Prop := e = .returned (.string (tx l)) ∧ Below w.heap.size w w'
set_option maxHeartbeats 1000000 in
set_option maxRecDepth 100000 in
theorem msgTo_11 (y1 : List UInt8) (y2 : Int) (y3 : Int) (a4 : Option Addr) (n4 c4 : Nat) (w : World) : Calls Try.prog 22 #[.iface 82 (.agg #[.string (tx y1), .int .i64 y2, .int .i64 y3, .slice a4 n4 c4])] w (ToRes w kdcB) := by
  obtain ⟨z12, hta12⟩ := tan 91 82 (.agg #[.string (tx y1), .int .i64 y2, .int .i64 y3, .slice a4 n4 c4]) zero_12 (by kernel_rfl) (by decide)
  obtain ⟨z13, hta13⟩ := tan 87 82 (.agg #[.string (tx y1), .int .i64 y2, .int .i64 y3, .slice a4 n4 c4]) zero_13 (by kernel_rfl) (by decide)
  obtain ⟨z14, hta14⟩ := tan 92 82 (.agg #[.string (tx y1), .int .i64 y2, .int .i64 y3, .slice a4 n4 c4]) zero_14 (by kernel_rfl) (by decide)
  obtain ⟨z15, hta15⟩ := tan 54 82 (.agg #[.string (tx y1), .int .i64 y2, .int .i64 y3, .slice a4 n4 c4]) zero_15 (by kernel_rfl) (by decide)
  obtain ⟨z16, hta16⟩ := tan 94 82 (.agg #[.string (tx y1), .int .i64 y2, .int .i64 y3, .slice a4 n4 c4]) zero_16 (by kernel_rfl) (by decide)
  obtain ⟨z17, hta17⟩ := tan 96 82 (.agg #[.string (tx y1), .int .i64 y2, .int .i64 y3, .slice a4 n4 c4]) zero_17 (by kernel_rfl) (by decide)
  obtain ⟨z18, hta18⟩ := tan 98 82 (.agg #[.string (tx y1), .int .i64 y2, .int .i64 y3, .slice a4 n4 c4]) zero_18 (by kernel_rfl) (by decide)
  obtain ⟨z19, hta19⟩ := tan 100 82 (.agg #[.string (tx y1), .int .i64 y2, .int .i64 y3, .slice a4 n4 c4]) zero_19 (by kernel_rfl) (by decide)
  obtain ⟨z20, hta20⟩ := tan 89 82 (.agg #[.string (tx y1), .int .i64 y2, .int .i64 y3, .slice a4 n4 c4]) zero_20 (by kernel_rfl) (by decide)
  obtain ⟨z21, hta21⟩ := tan 102 82 (.agg #[.string (tx y1), .int .i64 y2, .int .i64 y3, .slice a4 n4 c4]) zero_21 (by kernel_rfl) (by decide)
  obtain ⟨z22, hta22⟩ := tan 104 82 (.agg #[.string (tx y1), .int .i64 y2, .int .i64 y3, .slice a4 n4 c4]) zero_22 (by kernel_rfl) (by decide)
  have hta : ∀ W, (Instr.typeAssert (.iface 82 (.agg #[.string (tx y1), .int .i64 y2, .int .i64 y3, .slice a4 n4 c4])) 20 82 true).run Try.prog W = .ok (.tuple #[.agg #[.string (tx y1), .int .i64 y2, .int .i64 y3, .slice a4 n4 c4], .bool true]) W := fun W => ta_is _ _ _ (by kernel_rfl) W
  go_enter Try.func22, Try.ntmps22
  go_wp2_with fail
  go_ret
  exact ⟨rfl, Below.refl _ _⟩
set_option maxHeartbeats 1000000 in
set_option maxRecDepth 100000 in
theorem msgTo_12 (y1 : List UInt8) (y2 : List UInt8) (a2 : Option Addr) (n2 c2 : Nat) (a3 : Option Addr) (n3 c3 : Nat) (w : World) : Calls Try.prog 22 #[.iface 91 (.agg #[.string (tx y1), .string (tx y2), .slice a2 n2 c2, .slice a3 n3 c3])] w (ToRes w y1) := by
  obtain ⟨z11, hta11⟩ := tan 82 91 (.agg #[.string (tx y1), .string (tx y2), .slice a2 n2 c2, .slice a3 n3 c3]) zero_11 (by kernel_rfl) (by decide)
  obtain ⟨z13, hta13⟩ := tan 87 91 (.agg #[.string (tx y1), .string (tx y2), .slice a2 n2 c2, .slice a3 n3 c3]) zero_13 (by kernel_rfl) (by decide)
  obtain ⟨z14, hta14⟩ := tan 92 91 (.agg #[.string (tx y1), .string (tx y2), .slice a2 n2 c2, .slice a3 n3 c3]) zero_14 (by kernel_rfl) (by decide)
  obtain ⟨z15, hta15⟩ := tan 54 91 (.agg #[.string (tx y1), .string (tx y2), .slice a2 n2 c2, .slice a3 n3 c3]) zero_15 (by kernel_rfl) (by decide)
  obtain ⟨z16, hta16⟩ := tan 94 91 (.agg #[.string (tx y1), .string (tx y2), .slice a2 n2 c2, .slice a3 n3 c3]) zero_16 (by kernel_rfl) (by decide)
  obtain ⟨z17, hta17⟩ := tan 96 91 (.agg #[.string (tx y1), .string (tx y2), .slice a2 n2 c2, .slice a3 n3 c3]) zero_17 (by kernel_rfl) (by decide)
  obtain ⟨z18, hta18⟩ := tan 98 91 (.agg #[.string (tx y1), .string (tx y2), .slice a2 n2 c2, .slice a3 n3 c3]) zero_18 (by kernel_rfl) (by decide)
  obtain ⟨z19, hta19⟩ := tan 100 91 (.agg #[.string (tx y1), .string (tx y2), .slice a2 n2 c2, .slice a3 n3 c3]) zero_19 (by kernel_rfl) (by decide)
  obtain ⟨z20, hta20⟩ := tan 89 91 (.agg #[.string (tx y1), .string (tx y2), .slice a2 n2 c2, .slice a3 n3 c3]) zero_20 (by kernel_rfl) (by decide)
  obtain ⟨z21, hta21⟩ := tan 102 91 (.agg #[.string (tx y1), .string (tx y2), .slice a2 n2 c2, .slice a3 n3 c3]) zero_21 (by kernel_rfl) (by decide)
  obtain ⟨z22, hta22⟩ := tan 104 91 (.agg #[.string (tx y1), .string (tx y2), .slice a2 n2 c2, .slice a3 n3 c3]) zero_22 (by kernel_rfl) (by decide)
  have hta : ∀ W, (Instr.typeAssert (.iface 91 (.agg #[.string (tx y1), .string (tx y2), .slice a2 n2 c2, .slice a3 n3 c3])) 20 91 true).run Try.prog W = .ok (.tuple #[.agg #[.string (tx y1), .string (tx y2), .slice a2 n2 c2, .slice a3 n3 c3], .bool true]) W := fun W => ta_is _ _ _ (by kernel_rfl) W
  go_enter Try.func22, Try.ntmps22
  go_wp2_with fail
  go_ret
  exact ⟨rfl, (Below.refl _ _).alloc (Nat.le_refl _) _⟩
set_option maxHeartbeats 1000000 in
set_option maxRecDepth 100000 in
theorem msgTo_13 (y1 : List UInt8) (y2 : Int) (y3 : Int) (y4 : Bool) (y5 : Bool) (y6 : List UInt8) (a6 : Option Addr) (n6 c6 : Nat) (a7 : Option Addr) (n7 c7 : Nat) (a8 : Option Addr) (n8 c8 : Nat) (w : World) : Calls Try.prog 22 #[.iface 87 (.agg #[.string (tx y1), .int .i64 y2, .int .i64 y3, .bool y4, .bool y5, .string (tx y6), .slice a6 n6 c6, .slice a7 n7 c7, .slice a8 n8 c8])] w (ToRes w kdcB) := by
  obtain ⟨z11, hta11⟩ := tan 82 87 (.agg #[.string (tx y1), .int .i64 y2, .int .i64 y3, .bool y4, .bool y5, .string (tx y6), .slice a6 n6 c6, .slice a7 n7 c7, .slice a8 n8 c8]) zero_11 (by kernel_rfl) (by decide)
  obtain ⟨z12, hta12⟩ := tan 91 87 (.agg #[.string (tx y1), .int .i64 y2, .int .i64 y3, .bool y4, .bool y5, .string (tx y6), .slice a6 n6 c6, .slice a7 n7 c7, .slice a8 n8 c8]) zero_12 (by kernel_rfl) (by decide)
  obtain ⟨z14, hta14⟩ := tan 92 87 (.agg #[.string (tx y1), .int .i64 y2, .int .i64 y3, .bool y4, .bool y5, .string (tx y6), .slice a6 n6 c6, .slice a7 n7 c7, .slice a8 n8 c8]) zero_14 (by kernel_rfl) (by decide)
  obtain ⟨z15, hta15⟩ := tan 54 87 (.agg #[.string (tx y1), .int .i64 y2, .int .i64 y3, .bool y4, .bool y5, .string (tx y6), .slice a6 n6 c6, .slice a7 n7 c7, .slice a8 n8 c8]) zero_15 (by kernel_rfl) (by decide)
  obtain ⟨z16, hta16⟩ := tan 94 87 (.agg #[.string (tx y1), .int .i64 y2, .int .i64 y3, .bool y4, .bool y5, .string (tx y6), .slice a6 n6 c6, .slice a7 n7 c7, .slice a8 n8 c8]) zero_16 (by kernel_rfl) (by decide)
  obtain ⟨z17, hta17⟩ := tan 96 87 (.agg #[.string (tx y1), .int .i64 y2, .int .i64 y3, .bool y4, .bool y5, .string (tx y6), .slice a6 n6 c6, .slice a7 n7 c7, .slice a8 n8 c8]) zero_17 (by kernel_rfl) (by decide)
  obtain ⟨z18, hta18⟩ := tan 98 87 (.agg #[.string (tx y1), .int .i64 y2, .int .i64 y3, .bool y4, .bool y5, .string (tx y6), .slice a6 n6 c6, .slice a7 n7 c7, .slice a8 n8 c8]) zero_18 (by kernel_rfl) (by decide)
  obtain ⟨z19, hta19⟩ := tan 100 87 (.agg #[.string (tx y1), .int .i64 y2, .int .i64 y3, .bool y4, .bool y5, .string (tx y6), .slice a6 n6 c6, .slice a7 n7 c7, .slice a8 n8 c8]) zero_19 (by kernel_rfl) (by decide)
  obtain ⟨z20, hta20⟩ := tan 89 87 (.agg #[.string (tx y1), .int .i64 y2, .int .i64 y3, .bool y4, .bool y5, .string (tx y6), .slice a6 n6 c6, .slice a7 n7 c7, .slice a8 n8 c8]) zero_20 (by kernel_rfl) (by decide)
  obtain ⟨z21, hta21⟩ := tan 102 87 (.agg #[.string (tx y1), .int .i64 y2, .int .i64 y3, .bool y4, .bool y5, .string (tx y6), .slice a6 n6 c6, .slice a7 n7 c7, .slice a8 n8 c8]) zero_21 (by kernel_rfl) (by decide)
  obtain ⟨z22, hta22⟩ := tan 104 87 (.agg #[.string (tx y1), .int .i64 y2, .int .i64 y3, .bool y4, .bool y5, .string (tx y6), .slice a6 n6 c6, .slice a7 n7 c7, .slice a8 n8 c8]) zero_22 (by kernel_rfl) (by decide)
  have hta : ∀ W, (Instr.typeAssert (.iface 87 (.agg #[.string (tx y1), .int .i64 y2, .int .i64 y3, .bool y4, .bool y5, .string (tx y6), .slice a6 n6 c6, .slice a7 n7 c7, .slice a8 n8 c8])) 20 87 true).run Try.prog W = .ok (.tuple #[.agg #[.string (tx y1), .int .i64 y2, .int .i64 y3, .bool y4, .bool y5, .string (tx y6), .slice a6 n6 c6, .slice a7 n7 c7, .slice a8 n8 c8], .bool true]) W := fun W => ta_is _ _ _ (by kernel_rfl) W
  go_enter Try.func22, Try.ntmps22
  go_wp2_with fail
  go_ret
  exact ⟨rfl, Below.refl _ _⟩
set_option maxHeartbeats 1000000 in
set_option maxRecDepth 100000 in
theorem msgTo_14 (y1 : List UInt8) (y2 : List UInt8) (a2 : Option Addr) (n2 c2 : Nat) (a3 : Option Addr) (n3 c3 : Nat) (w : World) : Calls Try.prog 22 #[.iface 92 (.agg #[.string (tx y1), .string (tx y2), .slice a2 n2 c2, .slice a3 n3 c3])] w (ToRes w y1) := by
  obtain ⟨z11, hta11⟩ := tan 82 92 (.agg #[.string (tx y1), .string (tx y2), .slice a2 n2 c2, .slice a3 n3 c3]) zero_11 (by kernel_rfl) (by decide)
  obtain ⟨z12, hta12⟩ := tan 91 92 (.agg #[.string (tx y1), .string (tx y2), .slice a2 n2 c2, .slice a3 n3 c3]) zero_12 (by kernel_rfl) (by decide)
  obtain ⟨z13, hta13⟩ := tan 87 92 (.agg #[.string (tx y1), .string (tx y2), .slice a2 n2 c2, .slice a3 n3 c3]) zero_13 (by kernel_rfl) (by decide)
  obtain ⟨z15, hta15⟩ := tan 54 92 (.agg #[.string (tx y1), .string (tx y2), .slice a2 n2 c2, .slice a3 n3 c3]) zero_15 (by kernel_rfl) (by decide)
  obtain ⟨z16, hta16⟩ := tan 94 92 (.agg #[.string (tx y1), .string (tx y2), .slice a2 n2 c2, .slice a3 n3 c3]) zero_16 (by kernel_rfl) (by decide)
  obtain ⟨z17, hta17⟩ := tan 96 92 (.agg #[.string (tx y1), .string (tx y2), .slice a2 n2 c2, .slice a3 n3 c3]) zero_17 (by kernel_rfl) (by decide)
  obtain ⟨z18, hta18⟩ := tan 98 92 (.agg #[.string (tx y1), .string (tx y2), .slice a2 n2 c2, .slice a3 n3 c3]) zero_18 (by kernel_rfl) (by decide)
  obtain ⟨z19, hta19⟩ := tan 100 92 (.agg #[.string (tx y1), .string (tx y2), .slice a2 n2 c2, .slice a3 n3 c3]) zero_19 (by kernel_rfl) (by decide)
  obtain ⟨z20, hta20⟩ := tan 89 92 (.agg #[.string (tx y1), .string (tx y2), .slice a2 n2 c2, .slice a3 n3 c3]) zero_20 (by kernel_rfl) (by decide)
  obtain ⟨z21, hta21⟩ := tan 102 92 (.agg #[.string (tx y1), .string (tx y2), .slice a2 n2 c2, .slice a3 n3 c3]) zero_21 (by kernel_rfl) (by decide)
  obtain ⟨z22, hta22⟩ := tan 104 92 (.agg #[.string (tx y1), .string (tx y2), .slice a2 n2 c2, .slice a3 n3 c3]) zero_22 (by kernel_rfl) (by decide)
  have hta : ∀ W, (Instr.typeAssert (.iface 92 (.agg #[.string (tx y1), .string (tx y2), .slice a2 n2 c2, .slice a3 n3 c3])) 20 92 true).run Try.prog W = .ok (.tuple #[.agg #[.string (tx y1), .string (tx y2), .slice a2 n2 c2, .slice a3 n3 c3], .bool true]) W := fun W => ta_is _ _ _ (by kernel_rfl) W
  go_enter Try.func22, Try.ntmps22
  go_wp2_with fail
  go_ret
  exact ⟨rfl, (Below.refl _ _).alloc (Nat.le_refl _) _⟩
set_option maxHeartbeats 1000000 in
set_option maxRecDepth 100000 in
theorem msgTo_15 (y1 : List UInt8) (y2 : List UInt8) (y3 : Int) (w : World) : Calls Try.prog 22 #[.iface 54 (.agg #[.string (tx y1), .string (tx y2), .int .i64 y3])] w (ToRes w y2) := by
  obtain ⟨z11, hta11⟩ := tan 82 54 (.agg #[.string (tx y1), .string (tx y2), .int .i64 y3]) zero_11 (by kernel_rfl) (by decide)
  obtain ⟨z12, hta12⟩ := tan 91 54 (.agg #[.string (tx y1), .string (tx y2), .int .i64 y3]) zero_12 (by kernel_rfl) (by decide)
  obtain ⟨z13, hta13⟩ := tan 87 54 (.agg #[.string (tx y1), .string (tx y2), .int .i64 y3]) zero_13 (by kernel_rfl) (by decide)
  obtain ⟨z14, hta14⟩ := tan 92 54 (.agg #[.string (tx y1), .string (tx y2), .int .i64 y3]) zero_14 (by kernel_rfl) (by decide)
  obtain ⟨z16, hta16⟩ := tan 94 54 (.agg #[.string (tx y1), .string (tx y2), .int .i64 y3]) zero_16 (by kernel_rfl) (by decide)
  obtain ⟨z17, hta17⟩ := tan 96 54 (.agg #[.string (tx y1), .string (tx y2), .int .i64 y3]) zero_17 (by kernel_rfl) (by decide)
  obtain ⟨z18, hta18⟩ := tan 98 54 (.agg #[.string (tx y1), .string (tx y2), .int .i64 y3]) zero_18 (by kernel_rfl) (by decide)
  obtain ⟨z19, hta19⟩ := tan 100 54 (.agg #[.string (tx y1), .string (tx y2), .int .i64 y3]) zero_19 (by kernel_rfl) (by decide)
  obtain ⟨z20, hta20⟩ := tan 89 54 (.agg #[.string (tx y1), .string (tx y2), .int .i64 y3]) zero_20 (by kernel_rfl) (by decide)
  obtain ⟨z21, hta21⟩ := tan 102 54 (.agg #[.string (tx y1), .string (tx y2), .int .i64 y3]) zero_21 (by kernel_rfl) (by decide)
  obtain ⟨z22, hta22⟩ := tan 104 54 (.agg #[.string (tx y1), .string (tx y2), .int .i64 y3]) zero_22 (by kernel_rfl) (by decide)
  have hta : ∀ W, (Instr.typeAssert (.iface 54 (.agg #[.string (tx y1), .string (tx y2), .int .i64 y3])) 20 54 true).run Try.prog W = .ok (.tuple #[.agg #[.string (tx y1), .string (tx y2), .int .i64 y3], .bool true]) W := fun W => ta_is _ _ _ (by kernel_rfl) W
  go_enter Try.func22, Try.ntmps22
  go_wp2_with fail
  go_ret
  exact ⟨rfl, (Below.refl _ _).alloc (Nat.le_refl _) _⟩
set_option maxHeartbeats 1000000 in
set_option maxRecDepth 100000 in
theorem msgTo_16 (y1 : List UInt8) (y2 : List UInt8) (y3 : Int) (y4 : List UInt8) (a4 : Option Addr) (n4 c4 : Nat) (w : World) : Calls Try.prog 22 #[.iface 94 (.agg #[.string (tx y1), .string (tx y2), .int .i64 y3, .string (tx y4), .slice a4 n4 c4])] w (ToRes w y2) := by
  obtain ⟨z11, hta11⟩ := tan 82 94 (.agg #[.string (tx y1), .string (tx y2), .int .i64 y3, .string (tx y4), .slice a4 n4 c4]) zero_11 (by kernel_rfl) (by decide)
  obtain ⟨z12, hta12⟩ := tan 91 94 (.agg #[.string (tx y1), .string (tx y2), .int .i64 y3, .string (tx y4), .slice a4 n4 c4]) zero_12 (by kernel_rfl) (by decide)
  obtain ⟨z13, hta13⟩ := tan 87 94 (.agg #[.string (tx y1), .string (tx y2), .int .i64 y3, .string (tx y4), .slice a4 n4 c4]) zero_13 (by kernel_rfl) (by decide)
  obtain ⟨z14, hta14⟩ := tan 92 94 (.agg #[.string (tx y1), .string (tx y2), .int .i64 y3, .string (tx y4), .slice a4 n4 c4]) zero_14 (by kernel_rfl) (by decide)
  obtain ⟨z15, hta15⟩ := tan 54 94 (.agg #[.string (tx y1), .string (tx y2), .int .i64 y3, .string (tx y4), .slice a4 n4 c4]) zero_15 (by kernel_rfl) (by decide)
  obtain ⟨z17, hta17⟩ := tan 96 94 (.agg #[.string (tx y1), .string (tx y2), .int .i64 y3, .string (tx y4), .slice a4 n4 c4]) zero_17 (by kernel_rfl) (by decide)
  obtain ⟨z18, hta18⟩ := tan 98 94 (.agg #[.string (tx y1), .string (tx y2), .int .i64 y3, .string (tx y4), .slice a4 n4 c4]) zero_18 (by kernel_rfl) (by decide)
  obtain ⟨z19, hta19⟩ := tan 100 94 (.agg #[.string (tx y1), .string (tx y2), .int .i64 y3, .string (tx y4), .slice a4 n4 c4]) zero_19 (by kernel_rfl) (by decide)
  obtain ⟨z20, hta20⟩ := tan 89 94 (.agg #[.string (tx y1), .string (tx y2), .int .i64 y3, .string (tx y4), .slice a4 n4 c4]) zero_20 (by kernel_rfl) (by decide)
  obtain ⟨z21, hta21⟩ := tan 102 94 (.agg #[.string (tx y1), .string (tx y2), .int .i64 y3, .string (tx y4), .slice a4 n4 c4]) zero_21 (by kernel_rfl) (by decide)
  obtain ⟨z22, hta22⟩ := tan 104 94 (.agg #[.string (tx y1), .string (tx y2), .int .i64 y3, .string (tx y4), .slice a4 n4 c4]) zero_22 (by kernel_rfl) (by decide)
  have hta : ∀ W, (Instr.typeAssert (.iface 94 (.agg #[.string (tx y1), .string (tx y2), .int .i64 y3, .string (tx y4), .slice a4 n4 c4])) 20 94 true).run Try.prog W = .ok (.tuple #[.agg #[.string (tx y1), .string (tx y2), .int .i64 y3, .string (tx y4), .slice a4 n4 c4], .bool true]) W := fun W => ta_is _ _ _ (by kernel_rfl) W
  go_enter Try.func22, Try.ntmps22
  go_wp2_with fail
  go_ret
  exact ⟨rfl, (Below.refl _ _).alloc (Nat.le_refl _) _⟩
set_option maxHeartbeats 1000000 in
set_option maxRecDepth 100000 in
theorem msgTo_17 (y1 : List UInt8) (y2 : List UInt8) (y3 : Int) (y4 : List UInt8) (a4 : Option Addr) (n4 c4 : Nat) (a5 : Option Addr) (n5 c5 : Nat) (w : World) : Calls Try.prog 22 #[.iface 96 (.agg #[.string (tx y1), .string (tx y2), .int .i64 y3, .string (tx y4), .slice a4 n4 c4, .slice a5 n5 c5])] w (ToRes w y2) := by
  obtain ⟨z11, hta11⟩ := tan 82 96 (.agg #[.string (tx y1), .string (tx y2), .int .i64 y3, .string (tx y4), .slice a4 n4 c4, .slice a5 n5 c5]) zero_11 (by kernel_rfl) (by decide)
  obtain ⟨z12, hta12⟩ := tan 91 96 (.agg #[.string (tx y1), .string (tx y2), .int .i64 y3, .string (tx y4), .slice a4 n4 c4, .slice a5 n5 c5]) zero_12 (by kernel_rfl) (by decide)
  obtain ⟨z13, hta13⟩ := tan 87 96 (.agg #[.string (tx y1), .string (tx y2), .int .i64 y3, .string (tx y4), .slice a4 n4 c4, .slice a5 n5 c5]) zero_13 (by kernel_rfl) (by decide)
  obtain ⟨z14, hta14⟩ := tan 92 96 (.agg #[.string (tx y1), .string (tx y2), .int .i64 y3, .string (tx y4), .slice a4 n4 c4, .slice a5 n5 c5]) zero_14 (by kernel_rfl) (by decide)
  obtain ⟨z15, hta15⟩ := tan 54 96 (.agg #[.string (tx y1), .string (tx y2), .int .i64 y3, .string (tx y4), .slice a4 n4 c4, .slice a5 n5 c5]) zero_15 (by kernel_rfl) (by decide)
  obtain ⟨z16, hta16⟩ := tan 94 96 (.agg #[.string (tx y1), .string (tx y2), .int .i64 y3, .string (tx y4), .slice a4 n4 c4, .slice a5 n5 c5]) zero_16 (by kernel_rfl) (by decide)
  obtain ⟨z18, hta18⟩ := tan 98 96 (.agg #[.string (tx y1), .string (tx y2), .int .i64 y3, .string (tx y4), .slice a4 n4 c4, .slice a5 n5 c5]) zero_18 (by kernel_rfl) (by decide)
  obtain ⟨z19, hta19⟩ := tan 100 96 (.agg #[.string (tx y1), .string (tx y2), .int .i64 y3, .string (tx y4), .slice a4 n4 c4, .slice a5 n5 c5]) zero_19 (by kernel_rfl) (by decide)
  obtain ⟨z20, hta20⟩ := tan 89 96 (.agg #[.string (tx y1), .string (tx y2), .int .i64 y3, .string (tx y4), .slice a4 n4 c4, .slice a5 n5 c5]) zero_20 (by kernel_rfl) (by decide)
  obtain ⟨z21, hta21⟩ := tan 102 96 (.agg #[.string (tx y1), .string (tx y2), .int .i64 y3, .string (tx y4), .slice a4 n4 c4, .slice a5 n5 c5]) zero_21 (by kernel_rfl) (by decide)
  obtain ⟨z22, hta22⟩ := tan 104 96 (.agg #[.string (tx y1), .string (tx y2), .int .i64 y3, .string (tx y4), .slice a4 n4 c4, .slice a5 n5 c5]) zero_22 (by kernel_rfl) (by decide)
  have hta : ∀ W, (Instr.typeAssert (.iface 96 (.agg #[.string (tx y1), .string (tx y2), .int .i64 y3, .string (tx y4), .slice a4 n4 c4, .slice a5 n5 c5])) 20 96 true).run Try.prog W = .ok (.tuple #[.agg #[.string (tx y1), .string (tx y2), .int .i64 y3, .string (tx y4), .slice a4 n4 c4, .slice a5 n5 c5], .bool true]) W := fun W => ta_is _ _ _ (by kernel_rfl) W
  go_enter Try.func22, Try.ntmps22
  go_wp2_with fail
  go_ret
  exact ⟨rfl, (Below.refl _ _).alloc (Nat.le_refl _) _⟩
set_option maxHeartbeats 1000000 in
set_option maxRecDepth 100000 in
theorem msgTo_18 (y1 : List UInt8) (y2 : List UInt8) (y3 : Int) (a4 : Option Addr) (n4 c4 : Nat) (w : World) : Calls Try.prog 22 #[.iface 98 (.agg #[.string (tx y1), .string (tx y2), .int .i64 y3, .slice a4 n4 c4])] w (ToRes w y2) := by
  obtain ⟨z11, hta11⟩ := tan 82 98 (.agg #[.string (tx y1), .string (tx y2), .int .i64 y3, .slice a4 n4 c4]) zero_11 (by kernel_rfl) (by decide)
  obtain ⟨z12, hta12⟩ := tan 91 98 (.agg #[.string (tx y1), .string (tx y2), .int .i64 y3, .slice a4 n4 c4]) zero_12 (by kernel_rfl) (by decide)
  obtain ⟨z13, hta13⟩ := tan 87 98 (.agg #[.string (tx y1), .string (tx y2), .int .i64 y3, .slice a4 n4 c4]) zero_13 (by kernel_rfl) (by decide)
  obtain ⟨z14, hta14⟩ := tan 92 98 (.agg #[.string (tx y1), .string (tx y2), .int .i64 y3, .slice a4 n4 c4]) zero_14 (by kernel_rfl) (by decide)
  obtain ⟨z15, hta15⟩ := tan 54 98 (.agg #[.string (tx y1), .string (tx y2), .int .i64 y3, .slice a4 n4 c4]) zero_15 (by kernel_rfl) (by decide)
  obtain ⟨z16, hta16⟩ := tan 94 98 (.agg #[.string (tx y1), .string (tx y2), .int .i64 y3, .slice a4 n4 c4]) zero_16 (by kernel_rfl) (by decide)
  obtain ⟨z17, hta17⟩ := tan 96 98 (.agg #[.string (tx y1), .string (tx y2), .int .i64 y3, .slice a4 n4 c4]) zero_17 (by kernel_rfl) (by decide)
  obtain ⟨z19, hta19⟩ := tan 100 98 (.agg #[.string (tx y1), .string (tx y2), .int .i64 y3, .slice a4 n4 c4]) zero_19 (by kernel_rfl) (by decide)
  obtain ⟨z20, hta20⟩ := tan 89 98 (.agg #[.string (tx y1), .string (tx y2), .int .i64 y3, .slice a4 n4 c4]) zero_20 (by kernel_rfl) (by decide)
  obtain ⟨z21, hta21⟩ := tan 102 98 (.agg #[.string (tx y1), .string (tx y2), .int .i64 y3, .slice a4 n4 c4]) zero_21 (by kernel_rfl) (by decide)
  obtain ⟨z22, hta22⟩ := tan 104 98 (.agg #[.string (tx y1), .string (tx y2), .int .i64 y3, .slice a4 n4 c4]) zero_22 (by kernel_rfl) (by decide)
  have hta : ∀ W, (Instr.typeAssert (.iface 98 (.agg #[.string (tx y1), .string (tx y2), .int .i64 y3, .slice a4 n4 c4])) 20 98 true).run Try.prog W = .ok (.tuple #[.agg #[.string (tx y1), .string (tx y2), .int .i64 y3, .slice a4 n4 c4], .bool true]) W := fun W => ta_is _ _ _ (by kernel_rfl) W
  go_enter Try.func22, Try.ntmps22
  go_wp2_with fail
  go_ret
  exact ⟨rfl, (Below.refl _ _).alloc (Nat.le_refl _) _⟩
set_option maxHeartbeats 1000000 in
set_option maxRecDepth 100000 in
theorem msgTo_19 (y1 : List UInt8) (y2 : List UInt8) (y3 : Int) (y4 : Int) (y5 : Int) (a6 : Option Addr) (n6 c6 : Nat) (w : World) : Calls Try.prog 22 #[.iface 100 (.agg #[.string (tx y1), .string (tx y2), .int .i64 y3, .int .i64 y4, .int .i64 y5, .slice a6 n6 c6])] w (ToRes w y2) := by
  obtain ⟨z11, hta11⟩ := tan 82 100 (.agg #[.string (tx y1), .string (tx y2), .int .i64 y3, .int .i64 y4, .int .i64 y5, .slice a6 n6 c6]) zero_11 (by kernel_rfl) (by decide)
  obtain ⟨z12, hta12⟩ := tan 91 100 (.agg #[.string (tx y1), .string (tx y2), .int .i64 y3, .int .i64 y4, .int .i64 y5, .slice a6 n6 c6]) zero_12 (by kernel_rfl) (by decide)
  obtain ⟨z13, hta13⟩ := tan 87 100 (.agg #[.string (tx y1), .string (tx y2), .int .i64 y3, .int .i64 y4, .int .i64 y5, .slice a6 n6 c6]) zero_13 (by kernel_rfl) (by decide)
  obtain ⟨z14, hta14⟩ := tan 92 100 (.agg #[.string (tx y1), .string (tx y2), .int .i64 y3, .int .i64 y4, .int .i64 y5, .slice a6 n6 c6]) zero_14 (by kernel_rfl) (by decide)
  obtain ⟨z15, hta15⟩ := tan 54 100 (.agg #[.string (tx y1), .string (tx y2), .int .i64 y3, .int .i64 y4, .int .i64 y5, .slice a6 n6 c6]) zero_15 (by kernel_rfl) (by decide)
  obtain ⟨z16, hta16⟩ := tan 94 100 (.agg #[.string (tx y1), .string (tx y2), .int .i64 y3, .int .i64 y4, .int .i64 y5, .slice a6 n6 c6]) zero_16 (by kernel_rfl) (by decide)
  obtain ⟨z17, hta17⟩ := tan 96 100 (.agg #[.string (tx y1), .string (tx y2), .int .i64 y3, .int .i64 y4, .int .i64 y5, .slice a6 n6 c6]) zero_17 (by kernel_rfl) (by decide)
  obtain ⟨z18, hta18⟩ := tan 98 100 (.agg #[.string (tx y1), .string (tx y2), .int .i64 y3, .int .i64 y4, .int .i64 y5, .slice a6 n6 c6]) zero_18 (by kernel_rfl) (by decide)
  obtain ⟨z20, hta20⟩ := tan 89 100 (.agg #[.string (tx y1), .string (tx y2), .int .i64 y3, .int .i64 y4, .int .i64 y5, .slice a6 n6 c6]) zero_20 (by kernel_rfl) (by decide)
  obtain ⟨z21, hta21⟩ := tan 102 100 (.agg #[.string (tx y1), .string (tx y2), .int .i64 y3, .int .i64 y4, .int .i64 y5, .slice a6 n6 c6]) zero_21 (by kernel_rfl) (by decide)
  obtain ⟨z22, hta22⟩ := tan 104 100 (.agg #[.string (tx y1), .string (tx y2), .int .i64 y3, .int .i64 y4, .int .i64 y5, .slice a6 n6 c6]) zero_22 (by kernel_rfl) (by decide)
  have hta : ∀ W, (Instr.typeAssert (.iface 100 (.agg #[.string (tx y1), .string (tx y2), .int .i64 y3, .int .i64 y4, .int .i64 y5, .slice a6 n6 c6])) 20 100 true).run Try.prog W = .ok (.tuple #[.agg #[.string (tx y1), .string (tx y2), .int .i64 y3, .int .i64 y4, .int .i64 y5, .slice a6 n6 c6], .bool true]) W := fun W => ta_is _ _ _ (by kernel_rfl) W
  go_enter Try.func22, Try.ntmps22
  go_wp2_with fail
  go_ret
  exact ⟨rfl, (Below.refl _ _).alloc (Nat.le_refl _) _⟩
set_option maxHeartbeats 1000000 in
set_option maxRecDepth 100000 in
theorem msgTo_20 (y1 : List UInt8) (y2 : Int) (y3 : Int) (y4 : Bool) (y5 : List UInt8) (a5 : Option Addr) (n5 c5 : Nat) (a6 : Option Addr) (n6 c6 : Nat) (w : World) : Calls Try.prog 22 #[.iface 89 (.agg #[.string (tx y1), .int .i64 y2, .int .i64 y3, .bool y4, .string (tx y5), .slice a5 n5 c5, .slice a6 n6 c6])] w (ToRes w kdcB) := by
  obtain ⟨z11, hta11⟩ := tan 82 89 (.agg #[.string (tx y1), .int .i64 y2, .int .i64 y3, .bool y4, .string (tx y5), .slice a5 n5 c5, .slice a6 n6 c6]) zero_11 (by kernel_rfl) (by decide)
  obtain ⟨z12, hta12⟩ := tan 91 89 (.agg #[.string (tx y1), .int .i64 y2, .int .i64 y3, .bool y4, .string (tx y5), .slice a5 n5 c5, .slice a6 n6 c6]) zero_12 (by kernel_rfl) (by decide)
  obtain ⟨z13, hta13⟩ := tan 87 89 (.agg #[.string (tx y1), .int .i64 y2, .int .i64 y3, .bool y4, .string (tx y5), .slice a5 n5 c5, .slice a6 n6 c6]) zero_13 (by kernel_rfl) (by decide)
  obtain ⟨z14, hta14⟩ := tan 92 89 (.agg #[.string (tx y1), .int .i64 y2, .int .i64 y3, .bool y4, .string (tx y5), .slice a5 n5 c5, .slice a6 n6 c6]) zero_14 (by kernel_rfl) (by decide)
  obtain ⟨z15, hta15⟩ := tan 54 89 (.agg #[.string (tx y1), .int .i64 y2, .int .i64 y3, .bool y4, .string (tx y5), .slice a5 n5 c5, .slice a6 n6 c6]) zero_15 (by kernel_rfl) (by decide)
  obtain ⟨z16, hta16⟩ := tan 94 89 (.agg #[.string (tx y1), .int .i64 y2, .int .i64 y3, .bool y4, .string (tx y5), .slice a5 n5 c5, .slice a6 n6 c6]) zero_16 (by kernel_rfl) (by decide)
  obtain ⟨z17, hta17⟩ := tan 96 89 (.agg #[.string (tx y1), .int .i64 y2, .int .i64 y3, .bool y4, .string (tx y5), .slice a5 n5 c5, .slice a6 n6 c6]) zero_17 (by kernel_rfl) (by decide)
  obtain ⟨z18, hta18⟩ := tan 98 89 (.agg #[.string (tx y1), .int .i64 y2, .int .i64 y3, .bool y4, .string (tx y5), .slice a5 n5 c5, .slice a6 n6 c6]) zero_18 (by kernel_rfl) (by decide)
  obtain ⟨z19, hta19⟩ := tan 100 89 (.agg #[.string (tx y1), .int .i64 y2, .int .i64 y3, .bool y4, .string (tx y5), .slice a5 n5 c5, .slice a6 n6 c6]) zero_19 (by kernel_rfl) (by decide)
  obtain ⟨z21, hta21⟩ := tan 102 89 (.agg #[.string (tx y1), .int .i64 y2, .int .i64 y3, .bool y4, .string (tx y5), .slice a5 n5 c5, .slice a6 n6 c6]) zero_21 (by kernel_rfl) (by decide)
  obtain ⟨z22, hta22⟩ := tan 104 89 (.agg #[.string (tx y1), .int .i64 y2, .int .i64 y3, .bool y4, .string (tx y5), .slice a5 n5 c5, .slice a6 n6 c6]) zero_22 (by kernel_rfl) (by decide)
  have hta : ∀ W, (Instr.typeAssert (.iface 89 (.agg #[.string (tx y1), .int .i64 y2, .int .i64 y3, .bool y4, .string (tx y5), .slice a5 n5 c5, .slice a6 n6 c6])) 20 89 true).run Try.prog W = .ok (.tuple #[.agg #[.string (tx y1), .int .i64 y2, .int .i64 y3, .bool y4, .string (tx y5), .slice a5 n5 c5, .slice a6 n6 c6], .bool true]) W := fun W => ta_is _ _ _ (by kernel_rfl) W
  go_enter Try.func22, Try.ntmps22
  go_wp2_with fail
  go_ret
  exact ⟨rfl, Below.refl _ _⟩
set_option maxHeartbeats 1000000 in
set_option maxRecDepth 100000 in
theorem msgTo_21 (y1 : List UInt8) (a2 : Option Addr) (n2 c2 : Nat) (w : World) : Calls Try.prog 22 #[.iface 102 (.agg #[.string (tx y1), .slice a2 n2 c2])] w (ToRes w y1) := by
  obtain ⟨z11, hta11⟩ := tan 82 102 (.agg #[.string (tx y1), .slice a2 n2 c2]) zero_11 (by kernel_rfl) (by decide)
  obtain ⟨z12, hta12⟩ := tan 91 102 (.agg #[.string (tx y1), .slice a2 n2 c2]) zero_12 (by kernel_rfl) (by decide)
  obtain ⟨z13, hta13⟩ := tan 87 102 (.agg #[.string (tx y1), .slice a2 n2 c2]) zero_13 (by kernel_rfl) (by decide)
  obtain ⟨z14, hta14⟩ := tan 92 102 (.agg #[.string (tx y1), .slice a2 n2 c2]) zero_14 (by kernel_rfl) (by decide)
  obtain ⟨z15, hta15⟩ := tan 54 102 (.agg #[.string (tx y1), .slice a2 n2 c2]) zero_15 (by kernel_rfl) (by decide)
  obtain ⟨z16, hta16⟩ := tan 94 102 (.agg #[.string (tx y1), .slice a2 n2 c2]) zero_16 (by kernel_rfl) (by decide)
  obtain ⟨z17, hta17⟩ := tan 96 102 (.agg #[.string (tx y1), .slice a2 n2 c2]) zero_17 (by kernel_rfl) (by decide)
  obtain ⟨z18, hta18⟩ := tan 98 102 (.agg #[.string (tx y1), .slice a2 n2 c2]) zero_18 (by kernel_rfl) (by decide)
  obtain ⟨z19, hta19⟩ := tan 100 102 (.agg #[.string (tx y1), .slice a2 n2 c2]) zero_19 (by kernel_rfl) (by decide)
  obtain ⟨z20, hta20⟩ := tan 89 102 (.agg #[.string (tx y1), .slice a2 n2 c2]) zero_20 (by kernel_rfl) (by decide)
  obtain ⟨z22, hta22⟩ := tan 104 102 (.agg #[.string (tx y1), .slice a2 n2 c2]) zero_22 (by kernel_rfl) (by decide)
  have hta : ∀ W, (Instr.typeAssert (.iface 102 (.agg #[.string (tx y1), .slice a2 n2 c2])) 20 102 true).run Try.prog W = .ok (.tuple #[.agg #[.string (tx y1), .slice a2 n2 c2], .bool true]) W := fun W => ta_is _ _ _ (by kernel_rfl) W
  go_enter Try.func22, Try.ntmps22
  go_wp2_with fail
  go_ret
  exact ⟨rfl, (Below.refl _ _).alloc (Nat.le_refl _) _⟩
set_option maxHeartbeats 1000000 in
set_option maxRecDepth 100000 in
theorem msgTo_22 (y1 : List UInt8) (y2 : Int) (y3 : Int) (w : World) : Calls Try.prog 22 #[.iface 104 (.agg #[.string (tx y1), .int .i64 y2, .int .i64 y3])] w (ToRes w y1) := by
  obtain ⟨z11, hta11⟩ := tan 82 104 (.agg #[.string (tx y1), .int .i64 y2, .int .i64 y3]) zero_11 (by kernel_rfl) (by decide)
  obtain ⟨z12, hta12⟩ := tan 91 104 (.agg #[.string (tx y1), .int .i64 y2, .int .i64 y3]) zero_12 (by kernel_rfl) (by decide)
  obtain ⟨z13, hta13⟩ := tan 87 104 (.agg #[.string (tx y1), .int .i64 y2, .int .i64 y3]) zero_13 (by kernel_rfl) (by decide)
  obtain ⟨z14, hta14⟩ := tan 92 104 (.agg #[.string (tx y1), .int .i64 y2, .int .i64 y3]) zero_14 (by kernel_rfl) (by decide)
  obtain ⟨z15, hta15⟩ := tan 54 104 (.agg #[.string (tx y1), .int .i64 y2, .int .i64 y3]) zero_15 (by kernel_rfl) (by decide)
  obtain ⟨z16, hta16⟩ := tan 94 104 (.agg #[.string (tx y1), .int .i64 y2, .int .i64 y3]) zero_16 (by kernel_rfl) (by decide)
  obtain ⟨z17, hta17⟩ := tan 96 104 (.agg #[.string (tx y1), .int .i64 y2, .int .i64 y3]) zero_17 (by kernel_rfl) (by decide)
  obtain ⟨z18, hta18⟩ := tan 98 104 (.agg #[.string (tx y1), .int .i64 y2, .int .i64 y3]) zero_18 (by kernel_rfl) (by decide)
  obtain ⟨z19, hta19⟩ := tan 100 104 (.agg #[.string (tx y1), .int .i64 y2, .int .i64 y3]) zero_19 (by kernel_rfl) (by decide)
  obtain ⟨z20, hta20⟩ := tan 89 104 (.agg #[.string (tx y1), .int .i64 y2, .int .i64 y3]) zero_20 (by kernel_rfl) (by decide)
  obtain ⟨z21, hta21⟩ := tan 102 104 (.agg #[.string (tx y1), .int .i64 y2, .int .i64 y3]) zero_21 (by kernel_rfl) (by decide)
  have hta : ∀ W, (Instr.typeAssert (.iface 104 (.agg #[.string (tx y1), .int .i64 y2, .int .i64 y3])) 20 104 true).run Try.prog W = .ok (.tuple #[.agg #[.string (tx y1), .int .i64 y2, .int .i64 y3], .bool true]) W := fun W => ta_is _ _ _ (by kernel_rfl) W
  go_enter Try.func22, Try.ntmps22
  go_wp2_with fail
  go_ret
  exact ⟨rfl, (Below.refl _ _).alloc (Nat.le_refl _) _⟩
theorem msgTo_any (t : Int) (pts : List Pt) (F : Nat → Prop) (v : Value) (w : World) (hk : pts.map kdOf = shapeS t) (hne : (shapeS t).isEmpty = false) (hv : MsgV w F t pts v) :
    Calls Try.prog 22 #[v] w (ToRes w (toM t pts)) := by
  obtain ⟨ht1, ht2⟩ := shape_tag hne
  rcases (by omega : t = 11 ∨ t = 12 ∨ t = 13 ∨ t = 14 ∨ t = 15 ∨ t = 16 ∨ t = 17 ∨ t = 18 ∨ t = 19 ∨ t = 20 ∨ t = 21 ∨ t = 22) with rfl | rfl | rfl | rfl | rfl | rfl | rfl | rfl | rfl | rfl | rfl | rfl
  · have k0 : pts.map kdOf = [.s, .n, .n, .b] := hk
    clear hk
    obtain ⟨p1, r1, rfl, e1, k1⟩ := map_cons_ex k0
    obtain ⟨y1, rfl⟩ := kd_s e1
    obtain ⟨p2, r2, rfl, e2, k2⟩ := map_cons_ex k1
    obtain ⟨y2, rfl⟩ := kd_n e2
    obtain ⟨p3, r3, rfl, e3, k3⟩ := map_cons_ex k2
    obtain ⟨y3, rfl⟩ := kd_n e3
    obtain ⟨p4, r4, rfl, e4, k4⟩ := map_cons_ex k3
    obtain ⟨y4, rfl⟩ := kd_b e4
    obtain rfl := map_nil_ex k4
    obtain ⟨cs, rfl, hp⟩ := hv
    obtain ⟨a1, b1, rfl, g1, hp⟩ := hp
    obtain rfl := g1
    obtain ⟨a2, b2, rfl, g2, hp⟩ := hp
    obtain rfl := g2
    obtain ⟨a3, b3, rfl, g3, hp⟩ := hp
    obtain rfl := g3
    obtain ⟨a4, b4, rfl, g4, hp⟩ := hp
    obtain ⟨v4, rfl, hb4, ho4⟩ := g4
    obtain rfl : _ = [] := hp
    obtain ⟨q4, u4, rfl, _⟩ := hb4.form
    exact msgTo_11 y1 y2 y3 q4 y4.length u4 w
  · have k0 : pts.map kdOf = [.s, .i, .b] := hk
    clear hk
    obtain ⟨p1, r1, rfl, e1, k1⟩ := map_cons_ex k0
    obtain ⟨y1, rfl⟩ := kd_s e1
    obtain ⟨p2, r2, rfl, e2, k2⟩ := map_cons_ex k1
    obtain ⟨y2, rfl⟩ := kd_i e2
    obtain ⟨p3, r3, rfl, e3, k3⟩ := map_cons_ex k2
    obtain ⟨y3, rfl⟩ := kd_b e3
    obtain rfl := map_nil_ex k3
    obtain ⟨cs, rfl, hp⟩ := hv
    obtain ⟨a1, b1, rfl, g1, hp⟩ := hp
    obtain rfl := g1
    obtain ⟨a2, b2, rfl, g2, hp⟩ := hp
    obtain ⟨v2, rfl, hb2, ho2⟩ := g2
    obtain ⟨a3, b3, rfl, g3, hp⟩ := hp
    obtain ⟨v3, rfl, hb3, ho3⟩ := g3
    obtain rfl : _ = [] := hp
    obtain ⟨q2, u2, rfl, _⟩ := hb2.form
    obtain ⟨q3, u3, rfl, _⟩ := hb3.form
    exact msgTo_12 y1 y2.1 q2 y2.2.length u2 q3 y3.length u3 w
  · have k0 : pts.map kdOf = [.s, .n, .n, .t, .t, .i, .b, .x] := hk
    clear hk
    obtain ⟨p1, r1, rfl, e1, k1⟩ := map_cons_ex k0
    obtain ⟨y1, rfl⟩ := kd_s e1
    obtain ⟨p2, r2, rfl, e2, k2⟩ := map_cons_ex k1
    obtain ⟨y2, rfl⟩ := kd_n e2
    obtain ⟨p3, r3, rfl, e3, k3⟩ := map_cons_ex k2
    obtain ⟨y3, rfl⟩ := kd_n e3
    obtain ⟨p4, r4, rfl, e4, k4⟩ := map_cons_ex k3
    obtain ⟨y4, rfl⟩ := kd_t e4
    obtain ⟨p5, r5, rfl, e5, k5⟩ := map_cons_ex k4
    obtain ⟨y5, rfl⟩ := kd_t e5
    obtain ⟨p6, r6, rfl, e6, k6⟩ := map_cons_ex k5
    obtain ⟨y6, rfl⟩ := kd_i e6
    obtain ⟨p7, r7, rfl, e7, k7⟩ := map_cons_ex k6
    obtain ⟨y7, rfl⟩ := kd_b e7
    obtain ⟨p8, r8, rfl, e8, k8⟩ := map_cons_ex k7
    obtain ⟨y8, rfl⟩ := kd_x e8
    obtain rfl := map_nil_ex k8
    obtain ⟨cs, rfl, hp⟩ := hv
    obtain ⟨a1, b1, rfl, g1, hp⟩ := hp
    obtain rfl := g1
    obtain ⟨a2, b2, rfl, g2, hp⟩ := hp
    obtain rfl := g2
    obtain ⟨a3, b3, rfl, g3, hp⟩ := hp
    obtain rfl := g3
    obtain ⟨a4, b4, rfl, g4, hp⟩ := hp
    obtain rfl := g4
    obtain ⟨a5, b5, rfl, g5, hp⟩ := hp
    obtain rfl := g5
    obtain ⟨a6, b6, rfl, g6, hp⟩ := hp
    obtain ⟨v6, rfl, hb6, ho6⟩ := g6
    obtain ⟨a7, b7, rfl, g7, hp⟩ := hp
    obtain ⟨v7, rfl, hb7, ho7⟩ := g7
    obtain ⟨a8, b8, rfl, g8, hp⟩ := hp
    obtain ⟨v8, rfl, hb8⟩ := g8
    obtain rfl : _ = [] := hp
    obtain ⟨q6, u6, rfl, _⟩ := hb6.form
    obtain ⟨q7, u7, rfl, _⟩ := hb7.form
    obtain ⟨rows, hx1, hx2⟩ := hb8
    obtain ⟨q8, u8, rfl, _⟩ := hx1.form
    exact msgTo_13 y1 y2 y3 y4 y5 y6.1 q6 y6.2.length u6 q7 y7.length u7 q8 y8.length u8 w
  · have k0 : pts.map kdOf = [.s, .i, .b] := hk
    clear hk
    obtain ⟨p1, r1, rfl, e1, k1⟩ := map_cons_ex k0
    obtain ⟨y1, rfl⟩ := kd_s e1
    obtain ⟨p2, r2, rfl, e2, k2⟩ := map_cons_ex k1
    obtain ⟨y2, rfl⟩ := kd_i e2
    obtain ⟨p3, r3, rfl, e3, k3⟩ := map_cons_ex k2
    obtain ⟨y3, rfl⟩ := kd_b e3
    obtain rfl := map_nil_ex k3
    obtain ⟨cs, rfl, hp⟩ := hv
    obtain ⟨a1, b1, rfl, g1, hp⟩ := hp
    obtain rfl := g1
    obtain ⟨a2, b2, rfl, g2, hp⟩ := hp
    obtain ⟨v2, rfl, hb2, ho2⟩ := g2
    obtain ⟨a3, b3, rfl, g3, hp⟩ := hp
    obtain ⟨v3, rfl, hb3, ho3⟩ := g3
    obtain rfl : _ = [] := hp
    obtain ⟨q2, u2, rfl, _⟩ := hb2.form
    obtain ⟨q3, u3, rfl, _⟩ := hb3.form
    exact msgTo_14 y1 y2.1 q2 y2.2.length u2 q3 y3.length u3 w
  · have k0 : pts.map kdOf = [.s, .s, .n] := hk
    clear hk
    obtain ⟨p1, r1, rfl, e1, k1⟩ := map_cons_ex k0
    obtain ⟨y1, rfl⟩ := kd_s e1
    obtain ⟨p2, r2, rfl, e2, k2⟩ := map_cons_ex k1
    obtain ⟨y2, rfl⟩ := kd_s e2
    obtain ⟨p3, r3, rfl, e3, k3⟩ := map_cons_ex k2
    obtain ⟨y3, rfl⟩ := kd_n e3
    obtain rfl := map_nil_ex k3
    obtain ⟨cs, rfl, hp⟩ := hv
    obtain ⟨a1, b1, rfl, g1, hp⟩ := hp
    obtain rfl := g1
    obtain ⟨a2, b2, rfl, g2, hp⟩ := hp
    obtain rfl := g2
    obtain ⟨a3, b3, rfl, g3, hp⟩ := hp
    obtain rfl := g3
    obtain rfl : _ = [] := hp
    exact msgTo_15 y1 y2 y3 w
  · have k0 : pts.map kdOf = [.s, .s, .n, .i] := hk
    clear hk
    obtain ⟨p1, r1, rfl, e1, k1⟩ := map_cons_ex k0
    obtain ⟨y1, rfl⟩ := kd_s e1
    obtain ⟨p2, r2, rfl, e2, k2⟩ := map_cons_ex k1
    obtain ⟨y2, rfl⟩ := kd_s e2
    obtain ⟨p3, r3, rfl, e3, k3⟩ := map_cons_ex k2
    obtain ⟨y3, rfl⟩ := kd_n e3
    obtain ⟨p4, r4, rfl, e4, k4⟩ := map_cons_ex k3
    obtain ⟨y4, rfl⟩ := kd_i e4
    obtain rfl := map_nil_ex k4
    obtain ⟨cs, rfl, hp⟩ := hv
    obtain ⟨a1, b1, rfl, g1, hp⟩ := hp
    obtain rfl := g1
    obtain ⟨a2, b2, rfl, g2, hp⟩ := hp
    obtain rfl := g2
    obtain ⟨a3, b3, rfl, g3, hp⟩ := hp
    obtain rfl := g3
    obtain ⟨a4, b4, rfl, g4, hp⟩ := hp
    obtain ⟨v4, rfl, hb4, ho4⟩ := g4
    obtain rfl : _ = [] := hp
    obtain ⟨q4, u4, rfl, _⟩ := hb4.form
    exact msgTo_16 y1 y2 y3 y4.1 q4 y4.2.length u4 w
  · have k0 : pts.map kdOf = [.s, .s, .n, .i, .b] := hk
    clear hk
    obtain ⟨p1, r1, rfl, e1, k1⟩ := map_cons_ex k0
    obtain ⟨y1, rfl⟩ := kd_s e1
    obtain ⟨p2, r2, rfl, e2, k2⟩ := map_cons_ex k1
    obtain ⟨y2, rfl⟩ := kd_s e2
    obtain ⟨p3, r3, rfl, e3, k3⟩ := map_cons_ex k2
    obtain ⟨y3, rfl⟩ := kd_n e3
    obtain ⟨p4, r4, rfl, e4, k4⟩ := map_cons_ex k3
    obtain ⟨y4, rfl⟩ := kd_i e4
    obtain ⟨p5, r5, rfl, e5, k5⟩ := map_cons_ex k4
    obtain ⟨y5, rfl⟩ := kd_b e5
    obtain rfl := map_nil_ex k5
    obtain ⟨cs, rfl, hp⟩ := hv
    obtain ⟨a1, b1, rfl, g1, hp⟩ := hp
    obtain rfl := g1
    obtain ⟨a2, b2, rfl, g2, hp⟩ := hp
    obtain rfl := g2
    obtain ⟨a3, b3, rfl, g3, hp⟩ := hp
    obtain rfl := g3
    obtain ⟨a4, b4, rfl, g4, hp⟩ := hp
    obtain ⟨v4, rfl, hb4, ho4⟩ := g4
    obtain ⟨a5, b5, rfl, g5, hp⟩ := hp
    obtain ⟨v5, rfl, hb5, ho5⟩ := g5
    obtain rfl : _ = [] := hp
    obtain ⟨q4, u4, rfl, _⟩ := hb4.form
    obtain ⟨q5, u5, rfl, _⟩ := hb5.form
    exact msgTo_17 y1 y2 y3 y4.1 q4 y4.2.length u4 q5 y5.length u5 w
  · have k0 : pts.map kdOf = [.s, .s, .n, .b] := hk
    clear hk
    obtain ⟨p1, r1, rfl, e1, k1⟩ := map_cons_ex k0
    obtain ⟨y1, rfl⟩ := kd_s e1
    obtain ⟨p2, r2, rfl, e2, k2⟩ := map_cons_ex k1
    obtain ⟨y2, rfl⟩ := kd_s e2
    obtain ⟨p3, r3, rfl, e3, k3⟩ := map_cons_ex k2
    obtain ⟨y3, rfl⟩ := kd_n e3
    obtain ⟨p4, r4, rfl, e4, k4⟩ := map_cons_ex k3
    obtain ⟨y4, rfl⟩ := kd_b e4
    obtain rfl := map_nil_ex k4
    obtain ⟨cs, rfl, hp⟩ := hv
    obtain ⟨a1, b1, rfl, g1, hp⟩ := hp
    obtain rfl := g1
    obtain ⟨a2, b2, rfl, g2, hp⟩ := hp
    obtain rfl := g2
    obtain ⟨a3, b3, rfl, g3, hp⟩ := hp
    obtain rfl := g3
    obtain ⟨a4, b4, rfl, g4, hp⟩ := hp
    obtain ⟨v4, rfl, hb4, ho4⟩ := g4
    obtain rfl : _ = [] := hp
    obtain ⟨q4, u4, rfl, _⟩ := hb4.form
    exact msgTo_18 y1 y2 y3 q4 y4.length u4 w
  · have k0 : pts.map kdOf = [.s, .s, .n, .n, .n, .b] := hk
    clear hk
    obtain ⟨p1, r1, rfl, e1, k1⟩ := map_cons_ex k0
    obtain ⟨y1, rfl⟩ := kd_s e1
    obtain ⟨p2, r2, rfl, e2, k2⟩ := map_cons_ex k1
    obtain ⟨y2, rfl⟩ := kd_s e2
    obtain ⟨p3, r3, rfl, e3, k3⟩ := map_cons_ex k2
    obtain ⟨y3, rfl⟩ := kd_n e3
    obtain ⟨p4, r4, rfl, e4, k4⟩ := map_cons_ex k3
    obtain ⟨y4, rfl⟩ := kd_n e4
    obtain ⟨p5, r5, rfl, e5, k5⟩ := map_cons_ex k4
    obtain ⟨y5, rfl⟩ := kd_n e5
    obtain ⟨p6, r6, rfl, e6, k6⟩ := map_cons_ex k5
    obtain ⟨y6, rfl⟩ := kd_b e6
    obtain rfl := map_nil_ex k6
    obtain ⟨cs, rfl, hp⟩ := hv
    obtain ⟨a1, b1, rfl, g1, hp⟩ := hp
    obtain rfl := g1
    obtain ⟨a2, b2, rfl, g2, hp⟩ := hp
    obtain rfl := g2
    obtain ⟨a3, b3, rfl, g3, hp⟩ := hp
    obtain rfl := g3
    obtain ⟨a4, b4, rfl, g4, hp⟩ := hp
    obtain rfl := g4
    obtain ⟨a5, b5, rfl, g5, hp⟩ := hp
    obtain rfl := g5
    obtain ⟨a6, b6, rfl, g6, hp⟩ := hp
    obtain ⟨v6, rfl, hb6, ho6⟩ := g6
    obtain rfl : _ = [] := hp
    obtain ⟨q6, u6, rfl, _⟩ := hb6.form
    exact msgTo_19 y1 y2 y3 y4 y5 q6 y6.length u6 w
  · have k0 : pts.map kdOf = [.s, .n, .n, .t, .i, .b] := hk
    clear hk
    obtain ⟨p1, r1, rfl, e1, k1⟩ := map_cons_ex k0
    obtain ⟨y1, rfl⟩ := kd_s e1
    obtain ⟨p2, r2, rfl, e2, k2⟩ := map_cons_ex k1
    obtain ⟨y2, rfl⟩ := kd_n e2
    obtain ⟨p3, r3, rfl, e3, k3⟩ := map_cons_ex k2
    obtain ⟨y3, rfl⟩ := kd_n e3
    obtain ⟨p4, r4, rfl, e4, k4⟩ := map_cons_ex k3
    obtain ⟨y4, rfl⟩ := kd_t e4
    obtain ⟨p5, r5, rfl, e5, k5⟩ := map_cons_ex k4
    obtain ⟨y5, rfl⟩ := kd_i e5
    obtain ⟨p6, r6, rfl, e6, k6⟩ := map_cons_ex k5
    obtain ⟨y6, rfl⟩ := kd_b e6
    obtain rfl := map_nil_ex k6
    obtain ⟨cs, rfl, hp⟩ := hv
    obtain ⟨a1, b1, rfl, g1, hp⟩ := hp
    obtain rfl := g1
    obtain ⟨a2, b2, rfl, g2, hp⟩ := hp
    obtain rfl := g2
    obtain ⟨a3, b3, rfl, g3, hp⟩ := hp
    obtain rfl := g3
    obtain ⟨a4, b4, rfl, g4, hp⟩ := hp
    obtain rfl := g4
    obtain ⟨a5, b5, rfl, g5, hp⟩ := hp
    obtain ⟨v5, rfl, hb5, ho5⟩ := g5
    obtain ⟨a6, b6, rfl, g6, hp⟩ := hp
    obtain ⟨v6, rfl, hb6, ho6⟩ := g6
    obtain rfl : _ = [] := hp
    obtain ⟨q5, u5, rfl, _⟩ := hb5.form
    obtain ⟨q6, u6, rfl, _⟩ := hb6.form
    exact msgTo_20 y1 y2 y3 y4 y5.1 q5 y5.2.length u5 q6 y6.length u6 w
  · have k0 : pts.map kdOf = [.s, .b] := hk
    clear hk
    obtain ⟨p1, r1, rfl, e1, k1⟩ := map_cons_ex k0
    obtain ⟨y1, rfl⟩ := kd_s e1
    obtain ⟨p2, r2, rfl, e2, k2⟩ := map_cons_ex k1
    obtain ⟨y2, rfl⟩ := kd_b e2
    obtain rfl := map_nil_ex k2
    obtain ⟨cs, rfl, hp⟩ := hv
    obtain ⟨a1, b1, rfl, g1, hp⟩ := hp
    obtain rfl := g1
    obtain ⟨a2, b2, rfl, g2, hp⟩ := hp
    obtain ⟨v2, rfl, hb2, ho2⟩ := g2
    obtain rfl : _ = [] := hp
    obtain ⟨q2, u2, rfl, _⟩ := hb2.form
    exact msgTo_21 y1 q2 y2.length u2 w
  · have k0 : pts.map kdOf = [.s, .n, .n] := hk
    clear hk
    obtain ⟨p1, r1, rfl, e1, k1⟩ := map_cons_ex k0
    obtain ⟨y1, rfl⟩ := kd_s e1
    obtain ⟨p2, r2, rfl, e2, k2⟩ := map_cons_ex k1
    obtain ⟨y2, rfl⟩ := kd_n e2
    obtain ⟨p3, r3, rfl, e3, k3⟩ := map_cons_ex k2
    obtain ⟨y3, rfl⟩ := kd_n e3
    obtain rfl := map_nil_ex k3
    obtain ⟨cs, rfl, hp⟩ := hv
    obtain ⟨a1, b1, rfl, g1, hp⟩ := hp
    obtain rfl := g1
    obtain ⟨a2, b2, rfl, g2, hp⟩ := hp
    obtain rfl := g2
    obtain ⟨a3, b3, rfl, g3, hp⟩ := hp
    obtain rfl := g3
    obtain rfl : _ = [] := hp
    exact msgTo_22 y1 y2 y3 w
end Go.Proofs.Ytofmkkcbfeadgaa
