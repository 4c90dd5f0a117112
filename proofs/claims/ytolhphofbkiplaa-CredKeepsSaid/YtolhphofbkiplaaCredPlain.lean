/- The store's slots and the law's own list, side by side: plain lists. -/
import Derived.Test.YtolhphofbkiplaaCredZ
namespace Go.Proofs.Ytolhphofbkiplaa
set_option linter.unusedSimpArgs false
set_option linter.unusedVariables false

/-- What the filled slots say, in order. -/
def datsL (L : List (Option Cr)) : List (ByteArray × List UInt8 × List UInt8 × Int × Int × Int) := L.filterMap fun o => o.map Cr.dat

theorem usedN_dats : ∀ L : List (Option Cr), usedN L = (datsL L).length
  | [] => rfl
  | none :: L => by
    have := usedN_dats L
    simp only [usedN, datsL, List.filter_cons, List.filterMap_cons, Option.isSome_none, Option.map_none] at this ⊢
    simpa using this
  | some c :: L => by
    have := usedN_dats L
    simp only [usedN, datsL, List.filter_cons, List.filterMap_cons, Option.isSome_some, Option.map_some] at this ⊢
    simpa using this

/-- The keys in the slots: the tickets', and noughts. -/
theorem keysB_perm : ∀ L : List (Option Cr), (keysB L).Perm ((datsL L).map (fun d => d.2.2.1) ++ List.replicate (L.length - usedN L) (List.replicate 16 0))
  | [] => .refl _
  | none :: L => by
    have h := keysB_perm L
    have hu : usedN (none :: L) = usedN L := by simp [usedN]
    have hd : datsL (none :: L) = datsL L := by simp [datsL]
    have hk : keysB (none :: L) = List.replicate 16 0 :: keysB L := rfl
    rw [hu, hd, hk, List.length_cons, show L.length + 1 - usedN L = (L.length - usedN L) + 1 by have := usedN_le L; omega, List.replicate_succ]
    exact (h.cons _).trans List.perm_middle.symm
  | some c :: L => by
    have h := keysB_perm L
    have hu : usedN (some c :: L) = usedN L + 1 := by simp [usedN]
    have hd : datsL (some c :: L) = c.dat :: datsL L := by simp [datsL]
    have hk : keysB (some c :: L) = c.key :: keysB L := rfl
    rw [hu, hd, hk, List.length_cons, Nat.add_sub_add_right, List.map_cons, List.cons_append]
    exact h.cons _

/-- A slot's ticket, taken out. -/
theorem datsL_out : ∀ (L : List (Option Cr)) (k : Nat) (o : Option Cr), L[k]? = some o → (datsL L).Perm ((o.map Cr.dat).toList ++ datsL (L.eraseIdx k))
  | [], k, o, h => by simp at h
  | x :: L, 0, o, h => by
    simp only [List.getElem?_cons_zero, Option.some.injEq] at h
    subst h
    cases x with
    | none => simp [datsL]
    | some c => simp [datsL]
  | x :: L, k + 1, o, h => by
    have ih := datsL_out L k o (by simpa using h)
    cases x with
    | none => simpa [datsL] using ih
    | some c =>
      have e1 : datsL (some c :: L) = c.dat :: datsL L := by simp [datsL]
      have e2 : datsL ((some c :: L).eraseIdx (k + 1)) = c.dat :: datsL (L.eraseIdx k) := by simp [datsL]
      rw [e1, e2]
      exact (ih.cons _).trans List.perm_middle.symm

theorem eraseIdx_set' {α : Type} (o : α) : ∀ (L : List α) (k : Nat), (L.set k o).eraseIdx k = L.eraseIdx k
  | [], _ => rfl
  | x :: L, 0 => rfl
  | x :: L, k + 1 => by simp only [List.set_cons_succ, List.eraseIdx_cons_succ, eraseIdx_set' o L k]

theorem datsL_set (L : List (Option Cr)) (k : Nat) (o : Option Cr) (hk : k < L.length) : (datsL (L.set k o)).Perm ((o.map Cr.dat).toList ++ datsL (L.eraseIdx k)) := by
  have h := datsL_out (L.set k o) k o (by simp [hk])
  rwa [eraseIdx_set'] at h

/-- Where a server's ticket goes: its own slot, a free one, or none. -/
theorem place_cases (L : List (Option Cr)) (s : ByteArray) :
    (∃ k c, k < L.length ∧ L[k]? = some (some c) ∧ c.srv = s ∧ placeI L s = (k : Int)) ∨
    ((∀ c, some c ∈ L → c.srv ≠ s) ∧ ((∃ k, k < L.length ∧ L[k]? = some none ∧ placeI L s = (k : Int)) ∨ ((∀ o ∈ L, o ≠ none) ∧ placeI L s = -1))) := by
  unfold placeI
  split
  · rename_i i hi
    rw [List.findIdx?_eq_some_iff_getElem] at hi
    obtain ⟨h1, h2, _⟩ := hi
    cases hL : L[i] with
    | none => rw [hL] at h2; simp [hasSrv] at h2
    | some c =>
      rw [hL] at h2
      exact .inl ⟨i, c, h1, by rw [List.getElem?_eq_getElem h1, hL], by simpa [hasSrv] using h2, rfl⟩
  · rename_i hi
    rw [List.findIdx?_eq_none_iff] at hi
    refine .inr ⟨fun c hc e => ?_, ?_⟩
    · have := hi _ hc
      simp [hasSrv, e] at this
    · unfold freeI
      split
      · rename_i i hj
        rw [List.findIdx?_eq_some_iff_getElem] at hj
        obtain ⟨h1, h2, _⟩ := hj
        refine .inl ⟨i, h1, ?_, rfl⟩
        rw [List.getElem?_eq_getElem h1]
        simpa using h2
      · rename_i hj
        rw [List.findIdx?_eq_none_iff] at hj
        refine .inr ⟨fun o ho e => ?_, rfl⟩
        have := hj _ ho
        simp [e] at this

theorem slotOf_cases (L : List (Option Cr)) (s : ByteArray) :
    (∃ k c, k < L.length ∧ L[k]? = some (some c) ∧ c.srv = s ∧ placeI L s = (k : Int) ∧ slotOf L s = some c) ∨ ((∀ c, some c ∈ L → c.srv ≠ s) ∧ slotOf L s = none) := by
  rcases place_cases L s with ⟨k, c, h1, h2, h3, h4⟩ | ⟨h0, ⟨k, h1, h2, h3⟩ | ⟨h1, h2⟩⟩
  · refine .inl ⟨k, c, h1, h2, h3, h4, ?_⟩
    rw [slotOf, h4, if_neg (by omega), Int.toNat_natCast, List.getD, h2]
    rfl
  · refine .inr ⟨h0, ?_⟩
    rw [slotOf, h3, if_neg (by omega), Int.toNat_natCast, List.getD, h2]
    rfl
  · refine .inr ⟨h0, ?_⟩
    rw [slotOf, h2, if_pos (by omega)]

/-- The slots and the list say the same, each server once. -/
def Mat (L : List (Option Cr)) (H : List (ByteArray × List UInt8 × List UInt8 × Int × Int × Int)) : Prop := L.length = 16 ∧ (datsL L).Perm H ∧ (H.map (·.1)).Nodup

theorem Mat.mem {L : List (Option Cr)} {H : List (ByteArray × List UInt8 × List UInt8 × Int × Int × Int)} (h : Mat L H) {c : Cr} (hc : some c ∈ L) : c.dat ∈ H :=
  h.2.1.mem_iff.1 (List.mem_filterMap.2 ⟨_, hc, rfl⟩)

theorem Mat.used {L : List (Option Cr)} {H : List (ByteArray × List UInt8 × List UInt8 × Int × Int × Int)} (h : Mat L H) : usedN L = H.length := by
  rw [usedN_dats, h.2.1.length_eq]

theorem usedN_full : ∀ L : List (Option Cr), (∀ o ∈ L, o ≠ none) → usedN L = L.length
  | [], _ => rfl
  | none :: L, h => absurd rfl (h none (by simp))
  | some c :: L, h => by
    have := usedN_full L (fun o ho => h o (by simp [ho]))
    simp only [usedN, List.filter_cons, Option.isSome_some, if_true, List.length_cons] at this ⊢
    rw [this]

theorem Mat.put_new {L : List (Option Cr)} {H : List (ByteArray × List UInt8 × List UInt8 × Int × Int × Int)} (h : Mat L H) (c : Cr) (hno : ∀ d ∈ H, d.1 ≠ c.srv) (hl : H.length ≠ 16) :
    (putI L c).2 = 0 ∧ Mat (putI L c).1 (H ++ [c.dat]) := by
  rcases place_cases L c.srv with ⟨k, x, h1, h2, h3, h4⟩ | ⟨h0, ⟨k, h1, h2, h3⟩ | ⟨h1, h2⟩⟩
  · exact absurd h3 (hno _ (h.mem (List.mem_of_getElem? h2)))
  · rw [putI, if_neg (by omega), h3, Int.toNat_natCast]
    refine ⟨rfl, by simpa using h.1, ?_, ?_⟩
    · have e1 := datsL_set L k (some c) h1
      have e2 := datsL_out L k none h2
      simp only [Option.map_some, Option.toList_some, List.singleton_append, Option.map_none, Option.toList_none, List.nil_append] at e1 e2
      exact (e1.trans ((e2.symm.trans h.2.1).cons _)).trans (List.perm_append_singleton _ _).symm
    · rw [List.map_append, List.nodup_append]
      refine ⟨h.2.2, by simp, fun a ha b hb => ?_⟩
      simp only [List.map_cons, List.map_nil, List.mem_singleton] at hb
      obtain ⟨d, hd, rfl⟩ := List.mem_map.1 ha
      rw [hb]
      exact hno d hd
  · have := usedN_full L h1
    rw [h.used, h.1] at this
    exact absurd this hl

theorem Mat.put_full {L : List (Option Cr)} {H : List (ByteArray × List UInt8 × List UInt8 × Int × Int × Int)} (h : Mat L H) (c : Cr) (hno : ∀ d ∈ H, d.1 ≠ c.srv) (hl : H.length = 16) :
    putI L c = (L, 8) := by
  rcases place_cases L c.srv with ⟨k, x, h1, h2, h3, h4⟩ | ⟨h0, ⟨k, h1, h2, h3⟩ | ⟨h1, h2⟩⟩
  · exact absurd h3 (hno _ (h.mem (List.mem_of_getElem? h2)))
  · exfalso
    have e2 := (datsL_out L k none h2).length_eq
    simp only [Option.map_none, Option.toList_none, List.nil_append] at e2
    have e3 := usedN_le (L.eraseIdx k)
    rw [usedN_dats, List.length_eraseIdx, if_pos h1, h.1] at e3
    have e4 := h.2.1.length_eq
    omega
  · rw [putI, if_pos (by omega)]

theorem Mat.none : Mat noneL [] := ⟨rfl, .refl _, by simp⟩

theorem nodup_key {H : List (ByteArray × List UInt8 × List UInt8 × Int × Int × Int)} (h : (H.map (·.1)).Nodup) {a b : ByteArray × List UInt8 × List UInt8 × Int × Int × Int} (ha : a ∈ H) (hb : b ∈ H) (e : a.1 = b.1) : a = b := by
  induction H with
  | nil => simp at ha
  | cons x H ih =>
    simp only [List.map_cons, List.nodup_cons] at h
    rcases List.mem_cons.1 ha with h1 | h1
    · rcases List.mem_cons.1 hb with h2 | h2
      · rw [h1, h2]
      · exact absurd (List.mem_map.2 ⟨b, h2, by rw [← e, h1]⟩) h.1
    · rcases List.mem_cons.1 hb with h2 | h2
      · exact absurd (List.mem_map.2 ⟨a, h1, by rw [e, h2]⟩) h.1
      · exact ih h.2 h1 h2

/-- What stands for a server. -/
theorem Mat.slot {L : List (Option Cr)} {H : List (ByteArray × List UInt8 × List UInt8 × Int × Int × Int)} (h : Mat L H) {d : ByteArray × List UInt8 × List UInt8 × Int × Int × Int} (hd : d ∈ H) :
    ∃ c, slotOf L d.1 = some c ∧ c.dat = d := by
  rcases slotOf_cases L d.1 with ⟨k, c, h1, h2, h3, h4, h5⟩ | ⟨h1, h2⟩
  · exact ⟨c, h5, nodup_key h.2.2 (h.mem (List.mem_of_getElem? h2)) hd h3⟩
  · obtain ⟨o, ho, he⟩ := List.mem_filterMap.1 (h.2.1.mem_iff.2 hd)
    obtain ⟨c, rfl, hcd⟩ := Option.map_eq_some_iff.1 he
    exact absurd (show c.dat.1 = d.1 by rw [hcd]) (h1 c ho)

theorem Mat.noslot {L : List (Option Cr)} {H : List (ByteArray × List UInt8 × List UInt8 × Int × Int × Int)} (h : Mat L H) (s : ByteArray) (hno : ∀ d ∈ H, d.1 ≠ s) : slotOf L s = Option.none := by
  rcases slotOf_cases L s with ⟨k, c, h1, h2, h3, h4, h5⟩ | ⟨h1, h2⟩
  · exact absurd h3 (hno _ (h.mem (List.mem_of_getElem? h2)))
  · exact h2

theorem Mat.put_at {L : List (Option Cr)} {A B : List (ByteArray × List UInt8 × List UInt8 × Int × Int × Int)} {d : ByteArray × List UInt8 × List UInt8 × Int × Int × Int} (h : Mat L (A ++ d :: B)) (c : Cr) (hd : d.1 = c.srv) :
    (putI L c).2 = 0 ∧ Mat (putI L c).1 (A ++ c.dat :: B) := by
  rcases place_cases L c.srv with ⟨k, x, h1, h2, h3, h4⟩ | ⟨h0, _⟩
  · have hx : x.dat = d := nodup_key h.2.2 (h.mem (List.mem_of_getElem? h2)) (by simp) (h3.trans hd.symm)
    rw [putI, if_neg (by omega), h4, Int.toNat_natCast]
    have e1 := datsL_set L k (some c) h1
    have e2 := datsL_out L k (some x) h2
    simp only [Option.map_some, Option.toList_some, List.singleton_append] at e1 e2
    rw [hx] at e2
    have e3 := ((e2.symm.trans h.2.1).trans List.perm_middle).cons_inv
    refine ⟨rfl, by simpa using h.1, (e1.trans (e3.cons _)).trans List.perm_middle.symm, ?_⟩
    have hn := h.2.2
    rw [List.map_append, List.map_cons, hd] at hn
    rw [List.map_append, List.map_cons]
    exact hn
  · obtain ⟨x, hs, hx⟩ := h.slot (d := d) (by simp)
    rw [hd] at hs
    rcases slotOf_cases L c.srv with ⟨k, y, h1, h2, h3, _⟩ | ⟨_, h2⟩
    · exact absurd h3 (h0 y (List.mem_of_getElem? h2))
    · rw [h2] at hs
      simp at hs

theorem Mat.drop_at {L : List (Option Cr)} {A B : List (ByteArray × List UInt8 × List UInt8 × Int × Int × Int)} {d : ByteArray × List UInt8 × List UInt8 × Int × Int × Int} (h : Mat L (A ++ d :: B)) :
    (dropI L d.1).2 = 0 ∧ Mat (dropI L d.1).1 (A ++ B) := by
  rcases place_cases L d.1 with ⟨k, x, h1, h2, h3, h4⟩ | ⟨h0, _⟩
  · have hx : x.dat = d := nodup_key h.2.2 (h.mem (List.mem_of_getElem? h2)) (by simp) h3
    have hg : L.getD k Option.none = some x := by rw [List.getD, h2]; rfl
    rw [dropI, h4, Int.toNat_natCast, if_neg (by rw [hg]; simp)]
    have e1 := datsL_set L k Option.none h1
    have e2 := datsL_out L k (some x) h2
    simp only [Option.map_some, Option.toList_some, List.singleton_append, Option.map_none, Option.toList_none, List.nil_append] at e1 e2
    rw [hx] at e2
    have e3 := ((e2.symm.trans h.2.1).trans List.perm_middle).cons_inv
    refine ⟨rfl, by simpa using h.1, e1.trans e3, ?_⟩
    have hn := (List.perm_middle (a := d) (l₁ := A) (l₂ := B)).map (·.1) |>.nodup_iff.1 h.2.2
    rw [List.map_cons, List.nodup_cons] at hn
    exact hn.2
  · obtain ⟨x, hs, hx⟩ := h.slot (d := d) (by simp)
    rcases slotOf_cases L d.1 with ⟨k, y, h1, h2, h3, _⟩ | ⟨_, h2⟩
    · exact absurd h3 (h0 y (List.mem_of_getElem? h2))
    · rw [h2] at hs
      simp at hs

theorem Mat.drop_no {L : List (Option Cr)} {H : List (ByteArray × List UInt8 × List UInt8 × Int × Int × Int)} (h : Mat L H) (s : ByteArray) (hno : ∀ d ∈ H, d.1 ≠ s) : dropI L s = (L, 9) := by
  rcases place_cases L s with ⟨k, x, h1, h2, h3, h4⟩ | ⟨h0, ⟨k, h1, h2, h3⟩ | ⟨h1, h2⟩⟩
  · exact absurd h3 (hno _ (h.mem (List.mem_of_getElem? h2)))
  · rw [dropI, h3, Int.toNat_natCast, if_pos (.inr (by rw [List.getD, h2]; rfl))]
  · rw [dropI, if_pos (.inl (by omega))]

end Go.Proofs.Ytolhphofbkiplaa
