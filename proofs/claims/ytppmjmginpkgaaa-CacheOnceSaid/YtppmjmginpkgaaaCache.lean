/- Contracts of package cache: what each of its functions computes, in any world. -/
import Derived.Test.YtppmjmginpkgaaaProg
import Derived.Test.YtppmjmginpkgaaaBase
namespace Go.Proofs.Ytppmjmginpkgaaa
open Go.RowKit

/-- Something that was shown: client, time, number. -/
abbrev Sh := ByteArray × Int × Int
def Sh.cells (x : Sh) : List Value := [.string x.1, .int .i64 x.2.1, .int .i64 x.2.2]
def shCells (l : List Sh) : List Value := l.flatMap Sh.cells

def nearB (now t : Int) : Bool := decide (0 ≤ t ∧ t ≤ 1099511627776 ∧ 0 ≤ now ∧ now ≤ 1099511627776 ∧ now - t ≤ 30 ∧ t - now ≤ 30)

theorem near_any (now t : Int) (w : World) :
    Calls Try.prog 18 #[.int .i64 now, .int .i64 t] w fun e w' => e = .returned (.bool (nearB now t)) ∧ w = w' := by
  by_cases h1 : t < 0
  · go_enter Try.func18, Try.ntmps18
    go_wp2
    go_ret
    exact ⟨by simp [nearB]; omega, rfl⟩
  by_cases h2 : 1099511627776 < t
  · go_enter Try.func18, Try.ntmps18
    go_wp2
    go_ret
    exact ⟨by simp [nearB]; omega, rfl⟩
  by_cases h3 : now < 0
  · go_enter Try.func18, Try.ntmps18
    go_wp2
    go_ret
    exact ⟨by simp [nearB]; omega, rfl⟩
  by_cases h4 : 1099511627776 < now
  · go_enter Try.func18, Try.ntmps18
    go_wp2
    go_ret
    exact ⟨by simp [nearB]; omega, rfl⟩
  by_cases h5 : now - t ≤ 30
  · by_cases h6 : t - now ≤ 30
    · go_enter Try.func18, Try.ntmps18
      go_wp2
      go_ret
      exact ⟨by simp [nearB]; omega, rfl⟩
    · go_enter Try.func18, Try.ntmps18
      go_wp2
      go_ret
      exact ⟨by simp [nearB]; omega, rfl⟩
  · go_enter Try.func18, Try.ntmps18
    go_wp2
    go_ret
    exact ⟨by simp [nearB]; omega, rfl⟩

/-- A cache at block p: what it keeps, and how many things at most. -/
def CacheAt (w : World) (F : Nat → Prop) (p : Nat) (l : List Sh) (m : Int) : Prop :=
  F p ∧ ∃ va, Blk w p [va, .int .i64 m] 87 ∧ Sl w 3 va l.length (shCells l) ∧ va.ownBlock ≠ some p ∧ ∀ b, va.ownBlock = some b → F b

theorem CacheAt.below {w w' : World} {F : Nat → Prop} {p : Nat} {l : List Sh} {m : Int} (h : CacheAt w F p l m) (hb : Below w.heap.size w w') : CacheAt w' F p l m := by
  obtain ⟨h1, va, h2, h3, h4⟩ := h
  exact ⟨h1, va, h2.below hb h2.lt, h3.below hb, h4⟩

def cacheMost (m : Int) : Int := max 1 (min m 64)

theorem cacheNew_any (m : Int) (w : World) :
    Calls Try.prog 16 #[.int .i64 m] w fun e w' => e = .returned (.pointer (some ⟨w.heap.size, 0, none⟩)) ∧ CacheAt w' (fun k => w.heap.size ≤ k) w.heap.size [] (cacheMost m) ∧ Below w.heap.size w w' := by
  have fin : ∀ x : Int, x = cacheMost m → CacheAt (w.alloc (.cells #[.slice none 0 0, .int .i64 x] 87)) (fun k => w.heap.size ≤ k) w.heap.size [] (cacheMost m) := by
    rintro x rfl
    exact ⟨Nat.le_refl _, _, Blk.new w [.slice none 0 0, .int .i64 (cacheMost m)] _, Sl.nil _ _ _, by simp [Value.ownBlock], by simp [Value.ownBlock]⟩
  go_enter Try.func16, Try.ntmps16
  go_wp2
  all_goals go_ret
  all_goals refine ⟨rfl, fin _ ?_, (Below.refl _ _).alloc (Nat.le_refl _) _⟩
  all_goals (unfold cacheMost; omega)

theorem cacheLen_any (F : Nat → Prop) (p : Nat) (l : List Sh) (m : Int) (w : World) (h : CacheAt w F p l m) :
    Calls Try.prog 19 #[.pointer (some ⟨p, 0, none⟩)] w fun e w' => e = .returned (.int .i64 l.length) ∧ w = w' := by
  obtain ⟨_, va, hb, hs, _⟩ := h
  obtain ⟨a, cap, rfl, _⟩ := hs.form
  have h0 := hb.cell 0
  simp only [List.getElem?_cons_zero] at h0
  clear hb hs
  go_enter Try.func19, Try.ntmps19
  go_wp2
  go_ret
  exact ⟨rfl, rfl⟩

theorem cacheClear_any (F : Nat → Prop) (p : Nat) (l : List Sh) (m : Int) (w : World) (h : CacheAt w F p l m) :
    Calls Try.prog 22 #[.pointer (some ⟨p, 0, none⟩)] w fun e w' => e = .returned (.tuple #[]) ∧ CacheAt w' F p [] m ∧ Keeps (fun k => k = p) w w' := by
  obtain ⟨hF, va, hb, hs, _⟩ := h
  have h0 := hb.cell 0
  have hf := hb.frozen 0
  simp only [List.getElem?_cons_zero] at h0
  have fin : CacheAt (w.setCell ⟨p, 0, none⟩ (.slice none 0 0)) F p [] m ∧ Keeps (fun k => k = p) w (w.setCell ⟨p, 0, none⟩ (.slice none 0 0)) :=
    ⟨⟨hF, _, hb.set 0 _, Sl.nil _ _ _, by simp [Value.ownBlock], by simp [Value.ownBlock]⟩, Keeps.one _ _ _ _⟩
  clear hb hs
  go_enter Try.func22, Try.ntmps22
  go_wp2
  go_end0
  exact ⟨rfl, fin⟩

theorem cacheShow_far (p : Nat) (now : Int) (x : Sh) (w : World) (hn : nearB now x.2.1 = false) :
    Calls Try.prog 17 #[.pointer (some ⟨p, 0, none⟩), .int .i64 now, .string x.1, .int .i64 x.2.1, .int .i64 x.2.2] w fun e w' => e = .returned (.int .i64 11) ∧ w = w' := by
  go_enter Try.func17, Try.ntmps17
  go_wp2_with (go_at_call 18; refine (near_any _ _ _).mono ?_; rintro e w' ⟨rfl, rfl⟩)
  go_ret
  exact ⟨rfl, rfl⟩

theorem elShown : Elem Try.prog 85 89 3 32 (.agg #[.string ⟨#[]⟩, .int .i64 0, .int .i64 0]) := by
  refine Elem.mk Try.underlying85 ?_ rfl (by decide)
  kernel_rfl

/-- What is kept of what was shown, now. -/
def shKept (now : Int) (l : List Sh) : List Sh := l.filter fun y => decide (wrap64 (now - y.2.1) ≤ 30)

theorem shCells_length (l : List Sh) : (shCells l).length = l.length * 3 := by
  induction l with
  | nil => rfl
  | cons x l ih => simp only [shCells, List.flatMap_cons, List.length_append, List.length_cons] at ih ⊢; simp only [ih, Sh.cells, List.length_cons, List.length_nil]; omega

theorem shCells_one (l : List Sh) : ∀ u ∈ shCells l, u.oneCell' = true := by
  intro u hu
  simp only [shCells, List.mem_flatMap, Sh.cells] at hu
  obtain ⟨x, _, hx⟩ := hu
  simp only [List.mem_cons, List.not_mem_nil, or_false] at hx
  rcases hx with rfl | rfl | rfl <;> rfl

theorem shCells_append (l r : List Sh) : shCells (l ++ r) = shCells l ++ shCells r := by simp [shCells]

theorem shCells_at : ∀ (l : List Sh) (k : Nat) (h : k < l.length), (shCells l)[k * 3]? = some (.string l[k].1) ∧ (shCells l)[k * 3 + 1]? = some (.int .i64 l[k].2.1) ∧ (shCells l)[k * 3 + 2]? = some (.int .i64 l[k].2.2)
  | [], k, h => by simp at h
  | x :: l, 0, h => by simp [shCells, Sh.cells]
  | x :: l, k + 1, h => by
    have := shCells_at l k (by simpa using h)
    have e : shCells (x :: l) = x.cells ++ shCells l := by simp [shCells]
    rw [e]
    have hx : x.cells.length = 3 := rfl
    refine ⟨?_, ?_, ?_⟩
    · rw [List.getElem?_append_right (by rw [hx]; omega), hx, show (k + 1) * 3 - 3 = k * 3 by omega]; simpa using this.1
    · rw [List.getElem?_append_right (by rw [hx]; omega), hx, show (k + 1) * 3 + 1 - 3 = k * 3 + 1 by omega]; simpa using this.2.1
    · rw [List.getElem?_append_right (by rw [hx]; omega), hx, show (k + 1) * 3 + 2 - 3 = k * 3 + 2 by omega]; simpa using this.2.2

theorem shKept_le (now : Int) (l : List Sh) : (shKept now l).length ≤ l.length := List.length_filter_le _ _

theorem shKept_snoc (now : Int) (l : List Sh) (k : Nat) (h : k < l.length) : shKept now (l.take (k + 1)) = shKept now (l.take k) ++ if wrap64 (now - l[k].2.1) ≤ 30 then [l[k]] else [] := by
  rw [List.take_succ_eq_append_getElem h, shKept, List.filter_append]
  congr 1
  by_cases hc : wrap64 (now - l[k].2.1) ≤ 30 <;> simp [hc]

def shEqB (c1 : ByteArray) (t1 s1 : Int) (c2 : ByteArray) (t2 s2 : Int) : Bool := decide ((c1, t1, s1) = (c2, t2, s2))

theorem shEqB_iff (x y : Sh) : shEqB x.1 x.2.1 x.2.2 y.1 y.2.1 y.2.2 = true ↔ x = y := by
  unfold shEqB
  exact decide_eq_true_iff

set_option maxRecDepth 20000 in
theorem run_eql_shown (w : World) (c1 : ByteArray) (t1 s1 : Int) (c2 : ByteArray) (t2 s2 : Int) :
    (binOp .eql 89 (.agg #[.string c1, .int .i64 t1, .int .i64 s1]) (.agg #[.string c2, .int .i64 t2, .int .i64 s2])).run Try.prog w = .ok (.bool (shEqB c1 t1 s1 c2 t2 s2)) w := by
  have h1 := Try.stoodInHeld89
  unfold binOp shEqB
  simp only [Prod.mk.injEq, ← bytes_toList_inj]
  simp [go_sem, Op.equal, Op.maxDepth, run_equalIn_struct _ _ 89 _ _ Try.underlying89 h1]
  by_cases a : c1.toList = c2.toList <;> by_cases b : t1 = t2 <;> by_cases c : s1 = s2 <;> simp [a, b, c]

theorem shKept_keep (now : Int) (l : List Sh) (k : Nat) (h : k < l.length) (hc : wrap64 (now - l[k].2.1) ≤ 30) : shKept now (l.take (k + 1)) = shKept now (l.take k) ++ [l[k]] := by rw [shKept_snoc now l k h, if_pos hc]
theorem shKept_drop (now : Int) (l : List Sh) (k : Nat) (h : k < l.length) (hc : ¬ wrap64 (now - l[k].2.1) ≤ 30) : shKept now (l.take (k + 1)) = shKept now (l.take k) := by rw [shKept_snoc now l k h, if_neg hc, List.append_nil]

def shHas (l : List Sh) (x : Sh) : Bool := l.any fun y => decide (y = x)
theorem shHas_iff (l : List Sh) (x : Sh) : shHas l x = true ↔ x ∈ l := by simp [shHas]

/-- The cache, and the error's number, behind something that is shown. -/
def shShow (l : List Sh) (m now : Int) (x : Sh) : List Sh × Int :=
  if nearB now x.2.1 = false then (l, 11) else if shHas l x = true then (l, 14) else if m ≤ (shKept now l).length then (shKept now l, 8) else (shKept now l ++ [x], 0)

set_option maxHeartbeats 1000000 in
set_option maxRecDepth 100000 in
theorem cacheShow_near (F : Nat → Prop) (p : Nat) (l : List Sh) (m now : Int) (x : Sh) (w : World) (h : CacheAt w F p l m) (hn : nearB now x.2.1 = true) (hl : l.length ≤ 64) :
    Calls Try.prog 17 #[.pointer (some ⟨p, 0, none⟩), .int .i64 now, .string x.1, .int .i64 x.2.1, .int .i64 x.2.2] w fun e w' =>
      e = .returned (.int .i64 (shShow l m now x).2) ∧ CacheAt w' (fun k => F k ∨ w.heap.size ≤ k) p (shShow l m now x).1 m ∧ Keeps (fun k => k = p ∨ w.heap.size ≤ k) w w' := by
  obtain ⟨hF, va, hb, hs, hne, hFa⟩ := h
  obtain ⟨a, cap, rfl, hcap, hcm⟩ := hs.form
  have h0 := hb.cell 0
  have h1 := hb.cell 1
  have hfz := hb.frozen
  have hpl := hb.lt
  have heq := run_eql_shown
  simp only [List.getElem?_cons_zero, List.getElem?_cons_succ] at h0 h1
  go_enter Try.func17, Try.ntmps17
  go_wp2_with (go_at_call 18; refine (near_any _ _ _).mono ?_; rintro e w' ⟨rfl, rfl⟩)
  go_loopw [12, 33] (fun v i wr => ∃ k : Nat, k ≤ l.length ∧ i = .int .i64 k ∧ Own wr (w.heap.size + 1) 89 3 v (shKept now (l.take k)).length (shCells (shKept now (l.take k))) ∧ x ∉ l.take k ∧
      Below w.heap.size w wr ∧ wr.heap[w.heap.size]? = some (.cells #[.string x.1, .int .i64 x.2.1, .int .i64 x.2.2] 89 (0, 0)) ∧ (∀ b, v.ownBlock = some b → b ≠ p ∧ (F b ∨ w.heap.size ≤ b))) (fun _ i _ => l.length - (intOf i).toNat)
  case atStart => exact ⟨0, Nat.zero_le _, rfl, by simpa [shKept, shCells] using Own.nil _ _ _ _ _, by simp, (Below.refl _ _).alloc (Nat.le_refl _) _, heap_alloc_new _ _, fun b h => ⟨fun e => hne ((ownBlock_eq a _ _ _ _).trans (e ▸ h)), .inl (hFa b ((ownBlock_eq a _ _ _ _).trans h))⟩⟩
  case round =>
    obtain ⟨k, hk, rfl, hown, hnot, hbel, hx, hvb⟩ := hrel
    have hsz := hbel.size
    have hxl := block_lt hx
    have hx0 : wr.cell? ⟨w.heap.size, 0, none⟩ = some (.string x.1) := by simp [World.cell?, hx]
    have hx1 : wr.cell? ⟨w.heap.size, 1, none⟩ = some (.int .i64 x.2.1) := by simp [World.cell?, hx]
    have hx2 : wr.cell? ⟨w.heap.size, 2, none⟩ = some (.int .i64 x.2.2) := by simp [World.cell?, hx]
    have HX := Lib.hid hx
    have HN := Lib.hid hnot
    clear hx hnot
    by_cases hlt : k < l.length
    · obtain ⟨b, off, rfl, hc⟩ := hs.addr (by rw [shCells_length]; omega)
      obtain ⟨e0, e1, e2⟩ := shCells_at l k hlt
      have c0 := below_cell hbel (hc _ _ e0)
      have c1 : wr.cell? ⟨b, off + k * 3 + 1, none⟩ = _ := below_cell hbel (hc _ _ e1)
      have c2 : wr.cell? ⟨b, off + k * 3 + 2, none⟩ = _ := below_cell hbel (hc _ _ e2)
      have HS := Lib.hid hs
      have HB := Lib.hid hb
      clear hc e0 e1 e2 hs hb
      cases hE : shEqB l[k].1 l[k].2.1 l[k].2.2 x.1 x.2.1 x.2.2 with
      | true =>
        have HM : Hid (shShow l m now x = (l, 14)) := by
          have : x ∈ l := (shEqB_iff l[k] x).1 hE ▸ List.getElem_mem hlt
          exact Lib.hid (by rw [shShow, if_neg (by simp [hn]), if_pos ((shHas_iff l x).2 this)])
        go_wp2_with fail
        go_ret
        rw [HM.out]
        exact ⟨rfl, ⟨.inl hF, _, (HB.out.below hbel hpl).alloc _, (HS.out.below hbel).alloc _, hne, fun b h => .inl (hFa b h)⟩, (Keeps.of_below (hbel.alloc (by omega) _)).mono (fun k hk => .inr hk)⟩
      | false =>
        have HK1 := Lib.hid (shKept_keep now l k hlt)
        have HK2 := Lib.hid (shKept_drop now l k hlt)
        have HNE : x ∉ l.take (k + 1) := not_mem_take_succ x l k hlt HN.out (fun e => by have := (shEqB_iff l[k] x).2 e; rw [hE] at this; exact absurd this (by simp))
        have hkl := shKept_le now (l.take k)
        have hkt : (l.take k).length ≤ k := List.length_take_le _ _
        have HN1 := Lib.hid HNE
        clear HNE
        by_cases hK : wrap64 (now - l[k].2.1) ≤ 30
        · go_wp2_with (at_builtin; go_loud (refine wpList_app rfl (.tmp 45) (.tmp 47) elShown rfl (w.heap.size + 1) ((hown.alloc _).alloc _) (Sl.lit ?c0 ?c1 ?c2 ?c3) ?c4 ?c5 ?c6 ?_))
          case c2 => exact ⟨rfl, rfl, rfl⟩
          case c3 => decide
          case c4 => unfold maxLen; omega
          case c5 => omega
          case c6 => omega
          intro v' w' hown' hk' hvb'
          have HV : Hid (∀ b, v'.ownBlock = some b → b ≠ p ∧ (F b ∨ w.heap.size ≤ b)) := Lib.hid (by
            intro b' hb'
            rcases hvb' b' hb' with h | h
            · exact hvb b' h
            · exact ⟨by omega, .inr (by omega)⟩)
          clear hvb hvb'
          have HR : Hid (Own w' (w.heap.size + 1) 89 3 v' (shKept now (l.take (k + 1))).length (shCells (shKept now (l.take (k + 1))))) := by
            refine Lib.hid ?_
            rw [HK1.out hK, shCells_append]
            simpa [shCells, Sh.cells] using hown'
          have hb2 : Below w.heap.size w w' := by
            refine ((hbel.alloc (by omega) _).alloc (by simp; omega) _).trans (hk'.below ?_)
            intro k' hk2
            rcases hk2 with ⟨_, h⟩ | h
            · omega
            · omega
          have hx' : Hid (w'.heap[w.heap.size]? = some (.cells #[.string x.1, .int .i64 x.2.1, .int .i64 x.2.2] 89 (0, 0))) := by
            have q : Blk wr w.heap.size [.string x.1, .int .i64 x.2.1, .int .i64 x.2.2] 89 := HX.out
            exact ((q.alloc _).alloc _).keep hk' (by rintro (⟨_, h⟩ | h) <;> omega)
          clear hown' hk' hown hbel hsz hxl hx0 hx1 hx2 c0 c1 c2
          go_wp2
          go_roundw
          case rel => exact ⟨k + 1, by omega, by go_num, HR.out, HN1.out, hb2, hx'.out, HV.out⟩
          case measure => simp [intOf]; omega
        · go_wp2_with fail
          go_roundw
          case rel => exact ⟨k + 1, by omega, by go_num, by rw [HK2.out hK]; exact hown.alloc _, HN1.out, hbel.alloc (by omega) _, by rw [Below.heap_alloc _ _ _ (by omega)]; exact HX.out, hvb⟩
          case measure => simp [intOf]; omega
    · obtain rfl : k = l.length := by omega
      have hnot : x ∉ l := by simpa using HN.out
      have hown' : Own wr (w.heap.size + 1) 89 3 u12 (shKept now l).length (shCells (shKept now l)) := by simpa using hown
      obtain ⟨a', cap', rfl, _, _⟩ := hown'.sl.form
      have key : ∀ nq, Blk ((wr.setCell ⟨p, 0, none⟩ (.slice a' (shKept now l).length cap')).drewN nq) p [.slice a' (shKept now l).length cap', .int .i64 m] 87 ∧
          Own ((wr.setCell ⟨p, 0, none⟩ (.slice a' (shKept now l).length cap')).drewN nq) (w.heap.size + 1) 89 3 (.slice a' (shKept now l).length cap') (shKept now l).length (shCells (shKept now l)) ∧
          Keeps (fun k => k = p ∨ w.heap.size ≤ k) w ((wr.setCell ⟨p, 0, none⟩ (.slice a' (shKept now l).length cap')).drewN nq) ∧
          Blk ((wr.setCell ⟨p, 0, none⟩ (.slice a' (shKept now l).length cap')).drewN nq) w.heap.size [.string x.1, .int .i64 x.2.1, .int .i64 x.2.2] 89 := by
        intro nq
        refine ⟨(hb.below hbel hpl).set 0 _, ?_, ?_, Blk.set_other (p := ⟨p, 0, none⟩) HX.out (by simp; omega) _⟩
        · refine hown'.keep (S := fun k => k = p) ((Keeps.one wr p 0 _).drewN nq) ?_
          intro b hb' e
          exact (hvb b hb').1 e
        · exact ((Keeps.of_below hbel).mono (fun k h => .inr h)).trans (((Keeps.one wr p 0 _).mono (fun k h => .inl h)).drewN nq)
      have p0 : wr.cell? ⟨p, 0, none⟩ = _ := below_cell hbel h0
      have p1 : wr.cell? ⟨p, 1, none⟩ = _ := below_cell hbel h1
      have pf : ∀ o, wr.frozen? ⟨p, o, none⟩ = false := fun o => (hbel.frozen (p := ⟨p, o, none⟩) hpl).trans (hfz o)
      go_wp2_with fail
      go_quiet (fail)
      obtain ⟨q1, q2, q3, q4⟩ := key nq
      clear key p0 p1 pf hown hown' hx0 hx1 hx2
      generalize (wr.setCell ⟨p, 0, none⟩ (.slice a' (shKept now l).length cap')).drewN nq = w2 at q1 q2 q3 q4 ⊢
      have Q1 := Lib.hid q1
      have hpl2 := q1.lt
      have p0 := q1.cell 0
      have p1 := q1.cell 1
      have pf := q1.frozen
      have x0 := q4.cell 0
      have x1 := q4.cell 1
      have x2 := q4.cell 2
      have hxl2 := q4.lt
      simp only [List.getElem?_cons_zero, List.getElem?_cons_succ] at p0 p1 x0 x1 x2
      clear q1 q4 hb h0 h1 HX
      by_cases hfull : m ≤ ((shKept now l).length : Int)
      · have HM : Hid (shShow l m now x = (shKept now l, 8)) := Lib.hid (by rw [shShow, if_neg (by simp [hn]), if_neg (fun e => hnot ((shHas_iff l x).1 e)), if_pos hfull])
        go_wp2_with fail
        go_ret
        rw [HM.out]
        refine ⟨rfl, ⟨.inl hF, _, Q1.out, q2.sl, ?_, ?_⟩, q3⟩
        · exact fun e => (hvb p e).1 rfl
        · exact fun b hb => (hvb b hb).2
      · have HM : Hid (shShow l m now x = (shKept now l ++ [x], 0)) := Lib.hid (by rw [shShow, if_neg (by simp [hn]), if_neg (fun e => hnot ((shHas_iff l x).1 e)), if_neg hfull])
        have hkl := shKept_le now l
        go_wp2_with fail
        have fin : ∀ (wq : World) (va' : Value), Own wq (w.heap.size + 1) 89 3 va' ((shKept now l).length + 1) (shCells (shKept now l) ++ x.cells) →
            Keeps (fun k => (Value.slice a' (shKept now l).length cap').ownBlock = some k ∧ w.heap.size + 1 ≤ k ∨ w2.heap.size ≤ k) w2 wq → (∀ b, va'.ownBlock = some b → (Value.slice a' (shKept now l).length cap').ownBlock = some b ∨ w2.heap.size ≤ b) →
            CacheAt (wq.setCell ⟨p, 0, none⟩ va') (fun k => F k ∨ w.heap.size ≤ k) p (shKept now l ++ [x]) m ∧ Keeps (fun k => k = p ∨ w.heap.size ≤ k) w (wq.setCell ⟨p, 0, none⟩ va') ∧
            wq.cell? ⟨p, 0, none⟩ = some (.slice a' (shKept now l).length cap') ∧ wq.frozen? ⟨p, 0, none⟩ = false ∧ ∃ a2 c2, va' = .slice a2 ((shKept now l).length + 1) c2 := by
          intro wq va' o1 o2 o3
          have hsz2 := q3.size
          have hbp : Blk wq p _ _ := Q1.out.keep o2 (by rintro (⟨h, _⟩ | h); exact (hvb p h).1 rfl; omega)
          have hvq : ∀ b, va'.ownBlock = some b → b ≠ p ∧ (F b ∨ w.heap.size ≤ b) := by
            intro b hb
            rcases o3 b hb with h | h
            · exact hvb b h
            · exact ⟨by omega, .inr (by omega)⟩
          have hk1 : Keeps (fun k => k = p ∨ w.heap.size ≤ k) w wq := q3.trans (o2.mono (by rintro k (⟨_, h⟩ | h) <;> exact .inr (by omega)))
          obtain ⟨a2, c2, rfl, _⟩ := o1.sl.form
          refine ⟨⟨.inl hF, _, hbp.set 0 _, ?_, fun e => (hvq p e).1 rfl, fun b hb => (hvq b hb).2⟩, hk1.trans ((Keeps.one wq p 0 _).mono (fun k h => .inl h)), hbp.cell 0, hbp.frozen 0, a2, c2, rfl⟩
          have := o1.sl.setCell (p := ⟨p, 0, none⟩) (fun e => (hvq p e).1 rfl) (.slice a2 ((shKept now l).length + 1) c2)
          simpa [shCells] using this
        have FIN := Lib.hid fin
        clear fin
        go_region_law ((refine step_app rfl (.tmp 68) (.tmp 70) elShown rfl (w.heap.size + 1) rfl ((q2.drew).alloc _) rfl (Sl.lit (by simp) rfl (by simp [Value.oneCell']) (by decide)) (by unfold maxLen; omega) (by omega) (by simp; omega) ?_; intro v' w' hown' hk' hvb'; obtain ⟨f1, f2, f3, f4, a2, c2, rfl⟩ := FIN.out w' v' hown' (Keeps.trans ((Keeps.alloc (Keeps.drew (Keeps.refl _ _)) _ (.inr (Nat.le_refl _)))) (hk'.mono (by rintro k (h | h); exact .inl h; exact .inr (by simp at h; omega)))) (by intro b hb; rcases hvb' b hb with h | h; exact .inl h; exact .inr (by simp at h; omega))))
        all_goals
          go_wp2_with fail
          go_ret
          rw [HM.out]
          exact ⟨rfl, by assumption, by assumption⟩

theorem shShow_len (l : List Sh) (m now : Int) (x : Sh) (h : (l.length : Int) ≤ m) : ((shShow l m now x).1.length : Int) ≤ m := by
  have := shKept_le now l
  unfold shShow
  repeat' split
  all_goals simp
  all_goals omega

/-- Show: what is kept, and the error's number, are as shShow says. -/
theorem cacheShow_any (F : Nat → Prop) (p : Nat) (l : List Sh) (m now : Int) (x : Sh) (w : World) (h : CacheAt w F p l m) (hl : l.length ≤ 64) :
    Calls Try.prog 17 #[.pointer (some ⟨p, 0, none⟩), .int .i64 now, .string x.1, .int .i64 x.2.1, .int .i64 x.2.2] w fun e w' =>
      e = .returned (.int .i64 (shShow l m now x).2) ∧ CacheAt w' (fun k => F k ∨ w.heap.size ≤ k) p (shShow l m now x).1 m ∧ Keeps (fun k => k = p ∨ w.heap.size ≤ k) w w' := by
  cases hn : nearB now x.2.1 with
  | true => exact cacheShow_near F p l m now x w h hn hl
  | false =>
    refine (cacheShow_far p now x w hn).mono ?_
    rintro e w' ⟨rfl, rfl⟩
    obtain ⟨h1, va, h2, h3, h4, h5⟩ := h
    have e : shShow l m now x = (l, 11) := by rw [shShow, if_pos hn]
    rw [e]
    exact ⟨rfl, ⟨.inl h1, va, h2, h3, h4, fun b hb => .inl (h5 b hb)⟩, Keeps.refl _ _⟩
end Go.Proofs.Ytppmjmginpkgaaa
