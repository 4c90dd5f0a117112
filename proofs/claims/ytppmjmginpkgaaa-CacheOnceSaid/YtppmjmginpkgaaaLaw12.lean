/- The statements of the cache: the examples hold, and what the program answers is what the document says. -/
import Derived.Test.YtppmjmginpkgaaaRef12
namespace Go.Proofs.Ytppmjmginpkgaaa
open Go.RowKit

def shA (t s : Int) : Sh := (⟨#[97]⟩, t, s)

theorem al1 : shShow [] (cacheMost 1) 100 (shA 100 1) = ([shA 100 1], 0) := by decide +kernel
theorem al2 : shShow [shA 100 1] (cacheMost 1) 101 (shA 100 1) = ([shA 100 1], 14) := by decide +kernel
theorem al3 : shShow [shA 100 1] (cacheMost 1) 101 (shA 100 2) = ([shA 100 1], 8) := by decide +kernel
theorem al4 : shShow [shA 100 1] (cacheMost 1) 131 (shA 100 2) = ([shA 100 1], 11) := by decide +kernel
theorem al5 : shShow [shA 100 1] (cacheMost 1) 131 (shA 130 2) = ([shA 130 2], 0) := by decide +kernel

set_option maxRecDepth 100000 in
theorem alive12_any (w : World) : Calls Try.prog 15 #[] w fun e w' => e = .returned (.bool true) ∧ Below w.heap.size w w' := by
  go_enter Try.func15, Try.ntmps15
  go_wp2_with fail
  refine (cacheNew_any 1 w).mono ?_
  rintro e w1 ⟨rfl, hc1, hb1⟩
  go_wp2_with fail
  refine (cacheShow_any _ _ _ _ 100 (shA 100 1) _ hc1 (by simp)).mono ?_
  rw [al1]
  rintro e w2 ⟨rfl, hc2, hk2⟩
  go_wp2_with fail
  refine (cacheShow_any _ _ _ _ 101 (shA 100 1) _ hc2 (by simp)).mono ?_
  rw [al2]
  rintro e w3 ⟨rfl, hc3, hk3⟩
  go_wp2_with fail
  refine (cacheShow_any _ _ _ _ 101 (shA 100 2) _ hc3 (by simp)).mono ?_
  rw [al3]
  rintro e w4 ⟨rfl, hc4, hk4⟩
  go_wp2_with fail
  refine (cacheShow_any _ _ _ _ 131 (shA 100 2) _ hc4 (by simp)).mono ?_
  rw [al4]
  rintro e w5 ⟨rfl, hc5, hk5⟩
  go_wp2_with fail
  refine (cacheShow_any _ _ _ _ 131 (shA 130 2) _ hc5 (by simp)).mono ?_
  rw [al5]
  rintro e w6 ⟨rfl, hc6, hk6⟩
  go_wp2_with fail
  refine (cacheLen_any _ _ _ _ _ hc6).mono ?_
  rintro e w7 ⟨rfl, rfl⟩
  have fin : Below w.heap.size w w6 := by
    have hs1 := hb1.size
    have hs2 := hk2.size
    have hs3 := hk3.size
    have hs4 := hk4.size
    have hs5 := hk5.size
    exact ((((hb1.trans (hk2.below (by omega))).trans (hk3.below (by omega))).trans (hk4.below (by omega))).trans (hk5.below (by omega))).trans (hk6.below (by omega))
  clear hc1 hc2 hc3 hc4 hc5 hc6 hk2 hk3 hk4 hk5 hk6 hb1
  go_wp2_with fail
  go_ret
  exact ⟨rfl, fin⟩

set_option maxRecDepth 100000 in
theorem cacheNear_walk (now t : Int) (w : World) : Calls Try.prog 4 #[.int .i64 now, .int .i64 t] w fun e w' => e = .returned (.bool true) ∧ Below w.heap.size w w' := by
  have hsym : nearB t now = nearB now t := by unfold nearB; congr 1; simp only [eq_iff_iff]; omega
  have hb : ∀ b : Bool, (b == b) = true := by simp
  go_enter Try.func4, Try.ntmps4
  go_wp2_with fail
  refine (alive12_any w).mono ?_
  rintro e w1 ⟨rfl, hb1⟩
  go_wp2_with fail
  refine (near_any _ _ _).mono ?_
  rintro e w2 ⟨rfl, rfl⟩
  go_wp2_with fail
  refine (ref12Near_any _ _ _).mono ?_
  rintro e w2 ⟨rfl, rfl⟩
  go_wp2_with fail
  refine (near_any _ _ _).mono ?_
  rintro e w2 ⟨rfl, rfl⟩
  go_wp2_with fail
  refine (near_any _ _ _).mono ?_
  rintro e w2 ⟨rfl, rfl⟩
  go_wp2_with fail
  go_ret
  exact ⟨rfl, hb1⟩

/-- A step of the statement: so much later, client, time, number. -/
abbrev St := Int × Sh
def St.cells (x : St) : List Value := [.int .i64 x.1, .string x.2.1, .int .i64 x.2.2.1, .int .i64 x.2.2.2]
def stCells (l : List St) : List Value := (l.map St.cells).flatten

theorem flat_at {α : Type} {n : Nat} (f : α → List Value) (hf : ∀ x, (f x).length = n) : ∀ (l : List α) (k j : Nat) (h : k < l.length), j < n → ((l.map f).flatten)[k * n + j]? = (f l[k])[j]?
  | [], k, j, h, _ => by simp at h
  | x :: l, 0, j, h, hj => by
    simp only [List.map_cons, List.flatten_cons, Nat.zero_mul, Nat.zero_add, List.getElem_cons_zero]
    rw [List.getElem?_append_left (by rw [hf]; exact hj)]
  | x :: l, k + 1, j, h, hj => by
    simp only [List.map_cons, List.flatten_cons, List.getElem_cons_succ]
    rw [List.getElem?_append_right (by rw [hf, Nat.add_mul]; omega), hf, show (k + 1) * n + j - n = k * n + j by rw [Nat.add_mul]; omega]
    exact flat_at f hf l k j (by simpa using h) hj

set_option maxHeartbeats 1000000 in
set_option maxRecDepth 100000 in
theorem cacheShows_walk (m : Int) (v : Value) (l : List St) (w : World) (hs : Sl w 4 v l.length (stCells l)) :
    Calls Try.prog 5 #[.int .i64 m, v] w fun e w' => e = .returned (.bool true) ∧ Below w.heap.size w w' := by
  obtain ⟨a, cap, rfl, hcap, hcm⟩ := hs.form
  by_cases hl : 200 < l.length
  · have hl' : (200 : Int) < (l.length : Int) := by omega
    unfold maxLen at hcm
    go_enter Try.func5, Try.ntmps5
    go_wp2_with fail
    refine (alive12_any w).mono ?_
    rintro e w1 ⟨rfl, hb1⟩
    go_wp2_with fail
    go_ret
    exact ⟨rfl, hb1⟩
  · have hl' : ¬ (200 : Int) < (l.length : Int) := by omega
    unfold maxLen at hcm
    go_enter Try.func5, Try.ntmps5
    go_wp2_with fail
    refine (alive12_any w).mono ?_
    rintro e w1 ⟨rfl, hb1⟩
    go_wp2_with fail
    refine (cacheNew_any m w1).mono ?_
    rintro e w2 ⟨rfl, hc2, hb2⟩
    have HST := Lib.hid hs
    have hsz1 := hb1.size
    have hsz2 := hb2.size
    have hcm64 : cacheMost m ≤ 64 ∧ 1 ≤ cacheMost m := by unfold cacheMost; omega
    have hB2 : Below w.heap.size w w2 := hb1.trans (hb2.mono hsz1)
    obtain ⟨p, hp⟩ : ∃ p, p = w1.heap.size := ⟨_, rfl⟩
    have hc2' : CacheAt w2 (fun k => w1.heap.size ≤ k) p [] (cacheMost m) := by rw [hp]; exact hc2
    have hpl2 : p < w2.heap.size := by obtain ⟨_, va, h2, _⟩ := hc2'; exact h2.lt
    have hpw : w.heap.size ≤ p := by omega
    rw [← hp]
    clear hc2 hb1 hb2 hs hp
    go_wp2_with fail
    go_loopw [6, 7, 22] (fun v nw i wr => ∃ (k : Nat) (now : Int) (ls : List Sh) (F : Nat → Prop), k ≤ l.length ∧ i = .int .i64 k ∧ nw = .int .i64 now ∧ CacheAt wr F p ls (cacheMost m) ∧ Sl wr 3 v ls.length (shCells ls) ∧ (ls.length : Int) ≤ cacheMost m ∧
        v.ownBlock ≠ some p  ∧ Below w.heap.size w wr) (fun _ _ i _ => l.length - (intOf i).toNat)
    case atStart => exact ⟨0, 0, [], _, Nat.zero_le _, rfl, rfl, hc2'.below ((Below.refl _ _).alloc (Nat.le_refl _) _), Sl.nil _ _ _, by simp; omega, by simp [Value.ownBlock]; omega, hB2.alloc (by omega) _⟩
    case round =>
      obtain ⟨k, now, ls, F, hk, rfl, rfl, hc, hv, hls, hvp, hB⟩ := hrel
      have HC := Lib.hid hc
      have HV := Lib.hid hv
      have HVP := Lib.hid hvp
      have hszr := hB.size
      have hls64 : ls.length ≤ 64 := by omega
      clear hc hv hvp hc2'
      by_cases hlt : k < l.length
      · obtain ⟨b, off, rfl, hcell⟩ := HST.out.addr (by rw [HST.out.1]; omega)
        have e0 := flat_at (n := 4) St.cells (fun _ => rfl) l k 0 hlt (by omega)
        have e1 := flat_at (n := 4) St.cells (fun _ => rfl) l k 1 hlt (by omega)
        have e2 := flat_at (n := 4) St.cells (fun _ => rfl) l k 2 hlt (by omega)
        have e3 := flat_at (n := 4) St.cells (fun _ => rfl) l k 3 hlt (by omega)
        have c0 : wr.cell? ⟨b, off + k * 4, none⟩ = some (.int .i64 l[k].1) := below_cell hB (hcell _ _ e0)
        have c1 : wr.cell? ⟨b, off + k * 4 + 1, none⟩ = some (.string l[k].2.1) := below_cell hB (hcell _ _ e1)
        have c2 : wr.cell? ⟨b, off + k * 4 + 2, none⟩ = some (.int .i64 l[k].2.2.1) := below_cell hB (hcell _ _ e2)
        have c3 : wr.cell? ⟨b, off + k * 4 + 3, none⟩ = some (.int .i64 l[k].2.2.2) := below_cell hB (hcell _ _ e3)
        clear hcell e0 e1 e2 e3
        go_wp2_with fail
        generalize wrap64 (now + bits BinOp.and IntKind.i64 l[k].1 63) = now2
        refine (ref12Show_any _ ls m now2 l[k].2 _ (HV.out.alloc _) hls64).mono ?_
        have hlen := shShow_len ls (cacheMost m) now2 l[k].2 hls
        generalize hR : shShow ls (cacheMost m) now2 l[k].2 = R at hlen
        have HR := Lib.hid hR
        clear hR
        rintro e w3 ⟨v', rfl, hs3, hb3, hv3⟩
        obtain ⟨a3, cap3, rfl, _⟩ := hs3.form
        have hwr : wr.heap.size < w3.heap.size := by have := hb3.size; simp at this; omega
        have d1 : w3.cell? ⟨wr.heap.size, 1, none⟩ = some (.string l[k].2.1) := (hb3.cell (p := ⟨wr.heap.size, 1, none⟩) (by simp)).trans (by rw [cell_of_row _ _ _ _ _ _ (heap_alloc_new wr _)]; rfl)
        have d2 : w3.cell? ⟨wr.heap.size, 2, none⟩ = some (.int .i64 l[k].2.2.1) := (hb3.cell (p := ⟨wr.heap.size, 2, none⟩) (by simp)).trans (by rw [cell_of_row _ _ _ _ _ _ (heap_alloc_new wr _)]; rfl)
        have d3 : w3.cell? ⟨wr.heap.size, 3, none⟩ = some (.int .i64 l[k].2.2.2) := (hb3.cell (p := ⟨wr.heap.size, 3, none⟩) (by simp)).trans (by rw [cell_of_row _ _ _ _ _ _ (heap_alloc_new wr _)]; rfl)
        have HC3 := Lib.hid ((HC.out.below ((Below.refl _ _).alloc (Nat.le_refl _) _)).below hb3)
        have HB3 : Hid (Below w.heap.size w w3) := Lib.hid ((hB.alloc hszr _).trans (hb3.mono (by simp; omega)))
        have HS3 := Lib.hid hs3
        have HV3 := Lib.hid hv3
        clear hs3 hv3 hb3
        go_wp2_with fail
        refine (cacheShow_any F p ls (cacheMost m) now2 l[k].2 w3 HC3.out hls64).mono ?_
        rw [HR.out]
        rintro e w4 ⟨rfl, hc4, hk4⟩
        go_wp2_with fail
        refine (cacheLen_any _ _ _ _ _ hc4).mono ?_
        rintro e w5 ⟨rfl, rfl⟩
        have hpw3 : p < w3.heap.size := by obtain ⟨_, va, h2, _⟩ := HC3.out; exact h2.lt
        have hne3 : (Value.slice a3 R.1.length cap3).ownBlock ≠ some p := by
          rcases HV3.out with h | h
          · rw [h]; exact HVP.out
          · intro e
            have := h p e
            simp at this
            have hh : p < wr.heap.size := by obtain ⟨_, va, h2, _⟩ := HC.out; exact h2.lt
            omega
        have HS4 := Lib.hid (HS3.out.keep' hk4 (by rintro b e hlt (h | h); exact hne3 (h ▸ e); omega))
        have HB4 : Hid (Below w.heap.size w w4) := Lib.hid (HB3.out.trans (hk4.below (by rintro k (h | h); omega; exact Nat.le_trans HB3.out.size h)))
        have HC4 := Lib.hid hc4
        have HN4 := Lib.hid hne3
        clear hc4 hk4 hne3 d1 d2 d3 c0 c1 c2 c3
        go_wp2_with fail
        go_roundw
        case rel => exact ⟨k + 1, now2, R.1, _, by omega, by go_num, rfl, HC4.out, HS4.out, hlen, HN4.out, HB4.out⟩
        case measure => simp [intOf]; omega
      · go_wp2_with fail
        refine (cacheClear_any _ _ _ _ _ HC.out).mono ?_
        rintro e w6 ⟨rfl, hc6, hk6⟩
        go_wp2_with fail
        refine (cacheLen_any _ _ _ _ _ hc6).mono ?_
        rintro e w7 ⟨rfl, rfl⟩
        have fin : Below w.heap.size w w6 := hB.trans (hk6.below (by omega))
        go_wp2_with fail
        go_ret
        exact ⟨rfl, fin⟩
end Go.Proofs.Ytppmjmginpkgaaa
