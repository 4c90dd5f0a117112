/- Plain laws of der, no program: what is read is written as the same bytes, and may be. -/
import Derived.Test.YtdmjliehobgknaaPlain
import Derived.Test.YtdmjliehobgknaaDerWr
import Derived.Test.YtdmjliehobgknaaRef01
namespace Go.Proofs.Ytdmjliehobgknaa
set_option linter.unusedSimpArgs false
set_option linter.unusedVariables false

theorem shortR_get : ∀ (n : Nat) (bs : List UInt8) (f : Nat), bs.length = n → 0 < n → n ≤ f → (n = 1 ∨ bs.getD 0 0 ≠ 0) → shortR f (getN bs) = bs ∧ (bs.getD 0 0 ≠ 0 → 1 ≤ getN bs) := by
  intro n
  induction n with
  | zero => intro bs f _ h; omega
  | succ n ih =>
    intro bs f hl _ hf h0
    obtain ⟨init, c, rfl⟩ : ∃ init c, bs = init ++ [c] := by
      have hne : bs ≠ [] := by intro e; subst e; simp at hl
      exact ⟨bs.dropLast, bs.getLast hne, (List.dropLast_concat_getLast hne).symm⟩
    simp only [List.length_append, List.length_cons, List.length_nil] at hl
    obtain ⟨f, rfl⟩ : ∃ g, f = g + 1 := ⟨f - 1, by omega⟩
    rw [getN_snoc]
    have hc := c.toNat_lt
    by_cases hi : init = []
    · subst hi
      have h0' : getN [] = 0 := rfl
      rw [h0', Nat.zero_mul, Nat.zero_add]
      refine ⟨?_, fun h => ?_⟩
      · rw [shortR, if_pos hc]
        simp
      · simp at h
        have : c.toNat ≠ 0 := fun e => h (UInt8.toNat_inj.1 e)
        omega
    · have hip : 0 < init.length := List.length_pos_iff.2 hi
      have hg : (init ++ [c]).getD 0 0 = init.getD 0 0 := by
        rw [List.getD_eq_getElem?_getD, List.getD_eq_getElem?_getD, List.getElem?_append_left hip]
      rw [hg] at h0 ⊢
      have hne : init.getD 0 0 ≠ 0 := by rcases h0 with h | h; omega; exact h
      obtain ⟨h1, h2⟩ := ih init f (by omega) (by omega) (by omega) (.inr hne)
      have h3 := h2 hne
      refine ⟨?_, fun _ => by omega⟩
      rw [shortR, if_neg (by omega), show (getN init * 256 + c.toNat) / 256 = getN init by omega, show (getN init * 256 + c.toNat) % 256 = c.toNat by omega, h1]
      simp

/-- The fewest bytes of a number that bytes are: these, if the first is no nought. -/
theorem short_get (bs : List UInt8) (h0 : 0 < bs.length) (h8 : bs.length ≤ 8) (h : bs.length = 1 ∨ bs.getD 0 0 ≠ 0) : shortB (getN bs) = bs := by
  have hlt := getN_lt bs
  have h256 : getN bs < 256 ^ 8 := Nat.lt_of_lt_of_le hlt (Nat.pow_le_pow_right (by decide) h8)
  rw [shortB_eq _ h256]
  exact (shortR_get bs.length bs 8 rfl h0 h8 h).1

theorem take_two (b : List UInt8) (h : 2 ≤ b.length) : b.take 2 = [b.getD 0 0, b.getD 1 0] := by
  match b, h with
  | x :: y :: l, _ => rfl

theorem byte_eq (c : UInt8) : UInt8.ofNat ((((c.toNat / 64 : Nat) : Int) * 64 + ((c.toNat % 64 : Nat) : Int)).toNat) = c := by
  rw [show (((c.toNat / 64 : Nat) : Int) * 64 + ((c.toNat % 64 : Nat) : Int)).toNat = c.toNat by omega]
  simp

/-- A value's first bytes, read and written. -/
theorem head_of_size {b : List UInt8} {n a : Nat} (h : sizeS b = (n, a, 0)) : headS ((b.getD 0 0).toNat / 64 : Nat) ((b.getD 0 0).toNat % 64 : Nat) n = b.take a := by
  have hok := sizeS_ok h
  have hb2 : 2 ≤ b.length := by omega
  have ht2 := take_two b hb2
  unfold sizeS at h
  rw [if_neg (by omega)] at h
  have hc1 := (b.getD 1 0).toNat_lt
  split at h
  · rename_i hlt
    split at h
    · simp at h
    · simp only [Prod.mk.injEq] at h
      obtain ⟨rfl, rfl, _⟩ := h
      unfold headS
      rw [if_pos hlt, byte_eq, ht2]
      simp
  · rename_i hge
    split at h
    · simp at h
    · rename_i hbad
      split at h
      · simp at h
      · rename_i hlen
        split at h
        · simp at h
        · rename_i hmin
          split at h
          · simp at h
          · simp only [Prod.mk.injEq] at h
            obtain ⟨rfl, rfl, _⟩ := h
            generalize hc : (b.getD 1 0).toNat = c at *
            have hll : ((b.drop 2).take (c - 128)).length = c - 128 := by rw [List.length_take, List.length_drop]; omega
            have hn128 : ¬ getN ((b.drop 2).take (c - 128)) < 128 := fun hh => hmin (.inl hh)
            have hsh : shortB (getN ((b.drop 2).take (c - 128))) = (b.drop 2).take (c - 128) := by
              refine short_get _ (by omega) (by omega) ?_
              rw [hll]
              rcases (by omega : c = 129 ∨ c = 130) with rfl | rfl
              · exact .inl rfl
              · refine .inr fun e => hmin (.inr ⟨rfl, ?_⟩)
                match hm : (b.drop 2).take (130 - 128), hll with
                | [x, y], _ =>
                  rw [hm] at e
                  have hx : x = 0 := by simpa using e
                  subst hx
                  have hy := y.toNat_lt
                  simp [getN]
                  omega
            unfold headS
            have e1 : UInt8.ofNat c = b.getD 1 0 := by rw [← hc]; simp
            rw [if_neg hn128, byte_eq, hsh, hll, show 128 + (c - 128) = c by omega, e1, show c - 126 = 2 + (c - 128) by omega, List.take_add, ht2]
            simp only [List.cons_append, List.nil_append]

theorem rightS_num (d T n : Nat) (h : T ≤ 30) : rightS (d + 1) (.mk 0 (T : Nat) n [] []) = true := by
  simp [rightS]
  omega
theorem rightS_raw (d T : Nat) (b : List UInt8) (h : T ≤ 30) : rightS (d + 1) (.mk 1 (T : Nat) 0 b []) = true := by
  simp [rightS]
  omega
theorem rightS_seq (d T : Nat) (l : List Tv) (h : T ≤ 30) (hl : l.all (rightS d) = true) : rightS (d + 1) (.mk 2 (T : Nat) 0 [] l) = true := by
  rw [rightS, hl]
  simp
  omega

/-- What a reader of values owes to its writer. -/
def Back (d : Nat) (b : List UInt8) : Prop := ∀ x n, readS d b = (x, n, 0) → writeS x = b.take n ∧ rightS d x = true ∧ Nw x ∧ Lw x

theorem listS_back {d : Nat} (hd : ∀ b : List UInt8, b.length ≤ 1048576 → Back d b) : ∀ (f : Nat) (b : List UInt8) (l : List Tv), b.length ≤ f → b.length ≤ 1048576 → listS (readS d) f b = (l, 0) →
    writesS l = b ∧ (∀ x ∈ l, rightS d x = true ∧ Nw x ∧ Lw x) ∧ l.length ≤ b.length
  | f, [], l, _, _, h => by
    rw [listS_nil] at h
    simp only [Prod.mk.injEq, and_true] at h
    subst h
    exact ⟨rfl, by simp, by simp⟩
  | 0, c :: b, l, hf, _, _ => by simp at hf
  | f + 1, c :: b, l, hf, hb, h => by
    obtain ⟨x, k, e, hr⟩ : ∃ x k e, readS d (c :: b) = (x, k, e) := ⟨_, _, _, rfl⟩
    by_cases he : e = 0
    · subst he
      have hk := readS_takes d _ _ _ hr
      rw [listS_ok (by simp) hr] at h
      obtain ⟨l', e', hl'⟩ : ∃ l' e', listS (readS d) f ((c :: b).drop k) = (l', e') := ⟨_, _, rfl⟩
      rw [hl'] at h
      simp only [Prod.mk.injEq] at h
      obtain ⟨rfl, rfl⟩ := h
      obtain ⟨h1, h2, h3⟩ := listS_back hd f _ _ (by rw [List.length_drop]; simp at hf hk ⊢; omega) (by rw [List.length_drop]; omega) hl'
      obtain ⟨g1, g2⟩ := hd _ hb _ _ hr
      refine ⟨by rw [writesS, g1, h1, List.take_append_drop], fun y hy => ?_, by rw [List.length_drop] at h3; simp at hk h3 ⊢; omega⟩
      rcases List.mem_cons.1 hy with e | hy
      · rw [e]; exact g2
      · exact h2 y hy
    · rw [listS_bad (by simp) hr he] at h
      simp only [Prod.mk.injEq] at h
      exact absurd h.2 he

theorem readS_back : ∀ (d : Nat) (b : List UInt8), b.length ≤ 1048576 → Back d b
  | 0, b, _ => fun x n h => by simp [readS] at h
  | d + 1, b, hb => by
    intro x n h
    obtain ⟨m, a, e, hs⟩ : ∃ m a e, sizeS b = (m, a, e) := ⟨_, _, _, rfl⟩
    rw [readS, hs] at h
    simp only at h
    split at h
    · rename_i he
      simp only [Prod.mk.injEq] at h
      exact absurd h.2.2 he
    · rename_i he
      have he0 : e = 0 := by simpa using he
      subst he0
      have hok := sizeS_ok hs
      have hhead := head_of_size hs
      have hml : ((b.drop a).take m).length = m := by rw [List.length_take, List.length_drop]; omega
      have htake : b.take (a + m) = b.take a ++ (b.drop a).take m := List.take_add
      have hlt := (b.getD 0 0).toNat_lt
      split at h
      · simp at h
      · rename_i hkt
        split at h
        · rename_i hk0
          split at h
          · simp at h
          · rename_i hgood
            simp only [Prod.mk.injEq] at h
            obtain ⟨rfl, rfl, _⟩ := h
            rw [hk0] at hhead
            have hgb : ¬ (((b.drop a).take m).length = 0 ∨ 8 < ((b.drop a).take m).length) := by
              intro hg
              exact hgood (.inl (by unfold getB; rw [if_pos hg]))
            have hg : getB ((b.drop a).take m) = (getN ((b.drop a).take m), true) := by unfold getB; rw [if_neg hgb]
            have hsh : shortB (getN ((b.drop a).take m)) = (b.drop a).take m := by
              refine short_get _ (by omega) (by omega) ?_
              by_cases hm1 : m = 1
              · exact .inl (by omega)
              · refine .inr fun e => hgood (.inr ⟨by omega, ?_⟩)
                have e2 : ((b.drop a).take m).getD 0 0 = (b.drop a).getD 0 0 := by rw [List.getD_eq_getElem?_getD, List.getD_eq_getElem?_getD, List.getElem?_take, if_pos (by omega)]
                rw [e2] at e
                exact e
            have hlt8 : getN ((b.drop a).take m) < 18446744073709551616 := Nat.lt_of_lt_of_le (getN_lt _) (Nat.le_trans (Nat.pow_le_pow_right (by decide) (show ((b.drop a).take m).length ≤ 8 by omega)) (by decide))
            rw [hg]
            refine ⟨?_, ?_, ⟨hlt8, trivial⟩, ⟨by simp, trivial⟩⟩
            · rw [writeS, bodyOf, if_pos rfl, hsh, hml, htake]
              simp only [Int.natCast_zero] at hhead
              rw [hhead]
            · exact rightS_num d _ _ (by omega)
        · rename_i hk0
          split at h
          · rename_i hk1
            simp only [Prod.mk.injEq] at h
            obtain ⟨rfl, rfl, _⟩ := h
            rw [hk1] at hhead
            refine ⟨?_, ?_, ⟨by decide, trivial⟩, ⟨by simp, trivial⟩⟩
            · rw [writeS, bodyOf, if_neg (by decide), if_pos rfl, hml, htake]
              simp only [Int.natCast_one] at hhead
              rw [hhead]
            · exact rightS_raw d _ _ (by omega)
          · rename_i hk1
            obtain ⟨l, e, hl⟩ : ∃ l e, listS (readS d) m ((b.drop a).take m) = (l, e) := ⟨_, _, rfl⟩
            rw [hl] at h
            simp only at h
            split at h
            · rename_i he2
              subst he2
              simp only [Prod.mk.injEq] at h
              obtain ⟨rfl, rfl, _⟩ := h
              have hk2 : (b.getD 0 0).toNat / 64 = 2 := by omega
              rw [hk2] at hhead
              obtain ⟨g1, g2, g3⟩ := listS_back (fun b' hb' => readS_back d b' hb') m _ l (by omega) (by omega) hl
              refine ⟨?_, ?_, ⟨by decide, NsW.of (fun x hx => (g2 x hx).2.1)⟩, ⟨by omega, LsW.of (fun x hx => (g2 x hx).2.2)⟩⟩
              · rw [writeS, bodyOf, if_neg (by decide), if_neg (by decide), g1, hml, htake]
                have : ((2 : Nat) : Int) = 2 := rfl
                rw [this] at hhead
                rw [hhead]
              · exact rightS_seq d _ _ (by omega) (List.all_eq_true.2 (fun x hx => (g2 x hx).1))
            · rename_i he2
              simp only [Prod.mk.injEq] at h
              exact absurd h.2.2 he2

/-- What is read is written as the same bytes. -/
theorem wholeS_back {b : List UInt8} {x : Tv} (h : wholeS b = (x, 0)) : wrS x = (b, 0) ∧ Nw x ∧ Lw x ∧ rightS 8 x = true ∧ writeS x = b := by
  unfold wholeS at h
  split at h
  · simp at h
  · rename_i hl
    obtain ⟨v, n, e, hr⟩ : ∃ v n e, readS 8 b = (v, n, e) := ⟨_, _, _, rfl⟩
    rw [hr] at h
    simp only at h
    split at h
    · rename_i he
      simp only [Prod.mk.injEq] at h
      exact absurd h.2 he
    · rename_i he
      have he0 : e = 0 := by simpa using he
      subst he0
      split at h
      · simp at h
      · rename_i hn
        simp only [Prod.mk.injEq, and_true] at h
        subst h
        obtain ⟨h1, h2, h3, h4⟩ := readS_back 8 b (by omega) _ _ hr
        have hw : writeS v = b := by rw [h1, List.take_of_length_le (by omega)]
        refine ⟨?_, h3, h4, h2, hw⟩
        unfold wrS
        rw [if_neg (by rw [h2]; decide), hw, if_neg (by omega)]

theorem wholeS_bad {b : List UInt8} {x : Tv} {e : Int} (h : wholeS b = (x, e)) (he : e ≠ 0) : x = Tv.zero := by
  unfold wholeS at h
  split at h
  · simp only [Prod.mk.injEq] at h; exact h.1.symm
  · obtain ⟨v, n, e', hr⟩ : ∃ v n e, readS 8 b = (v, n, e) := ⟨_, _, _, rfl⟩
    rw [hr] at h
    simp only at h
    split at h
    · simp only [Prod.mk.injEq] at h; exact h.1.symm
    · split at h
      · simp only [Prod.mk.injEq] at h; exact h.1.symm
      · simp only [Prod.mk.injEq] at h; exact absurd h.2.symm he
end Go.Proofs.Ytdmjliehobgknaa
