/- The law MsgWrites returns true for all parts of messages and all picks: no conditions. -/
import Derived.Test.YtpjkidcfidmfaaaMwB18
import Derived.Deep.DeepCutAuto
import Derived.OpenShut
import Derived.Deep.Slices
import Derived.ChangeArms
import Derived.WideShapes
import Derived.SizedLaws
import Derived.Test.YtpjkidcfidmfaaaRows
namespace Go.Proofs.Ytpjkidcfidmfaaa
set_option linter.unusedSimpArgs false
set_option linter.unusedVariables false
open Go.RowKit
theorem i64_and15 (n : Int) : bits .and .i64 n 15 = n % 16 := by
  have h127 : (BitVec.ofInt 64 15).toNat = 2 ^ 4 - 1 := by decide
  have key : (BitVec.ofInt 64 n &&& BitVec.ofInt 64 15).toNat = (n % ((2 ^ 64 : Nat) : Int)).toNat % 2 ^ 4 := by
    rw [BitVec.toNat_and, BitVec.toNat_ofInt, h127, Nat.and_two_pow_sub_one_eq_mod]
  show IntKind.i64.wrap ((BitVec.ofInt 64 n &&& BitVec.ofInt 64 15).toNat : Nat) = n % 16
  rw [key, IntKind.wrap_i64]
  omega
set_option maxHeartbeats 16000000 in
set_option maxRecDepth 100000 in
theorem msgWrites_walk (pick n m l : Int) (la lb lts lx ly lt : List UInt8) (ex : List (List UInt8 × List UInt8)) (xv yv tv ev : Value) (set1 mesh : Bool) (w : World)
    (hx : Bs w xv lx) (hy : Bs w yv ly) (ht : Bs w tv lt) (he : TksV w (fun _ => True) ex ev) (hn : -9223372036854775808 ≤ n ∧ n ≤ 9223372036854775807) (hm : -9223372036854775808 ≤ m ∧ m ≤ 9223372036854775807) (hl : -9223372036854775808 ≤ l ∧ l ≤ 9223372036854775807)
    (ma : la.length ≤ 140737488351232) (mb : lb.length ≤ 140737488351232) (ms : lts.length ≤ 140737488351232) (mx : lx.length ≤ 140737488351232) (mt : lt.length ≤ 140737488351232) (me : ∀ t ∈ ex, t.1.length ≤ 140737488351232 ∧ t.2.length ≤ 140737488351232) (me2 : ex.length ≤ 140737488351232) : Calls Try.prog 4 #[.agg #[.int .i64 pick, .string (tx la), .string (tx lb), .int .i64 n, .int .i64 m, .int .i64 l, xv, yv, .string (tx lts), tv, ev, .bool set1, .bool mesh]] w fun e w' => e = .returned (.bool true) ∧ Below w.heap.size w w' := by
  obtain ⟨ax, cx, rfl, hcx, hmx⟩ := hx.form
  obtain ⟨ay, cy, rfl, hcy, hmy⟩ := hy.form
  obtain ⟨at1, ct, rfl, hct, hmt⟩ := ht.form
  obtain ⟨ae, ce, rfl, hce, hme⟩ : ∃ a c, ev = .slice a ex.length c ∧ ex.length ≤ c ∧ c ≤ maxLen := by obtain ⟨rows, h1, _⟩ := he; exact h1.form
  obtain ⟨q, hq⟩ : ∃ q, q = w.heap.size := ⟨_, rfl⟩
  obtain ⟨w0, hw0⟩ : ∃ w0, w0 = w.alloc (.cells #[.int .i64 pick, .string (tx la), .string (tx lb), .int .i64 n, .int .i64 m, .int .i64 l, .slice ax lx.length cx, .slice ay ly.length cy, .string (tx lts), .slice at1 lt.length ct, .slice ae ex.length ce, .bool set1, .bool mesh] 51) := ⟨_, rfl⟩
  have hb0 : Below w.heap.size w w0 := by rw [hw0]; exact (Below.refl _ _).alloc (Nat.le_refl _) _
  have HQ0 : Hid (Blk w0 q [.int .i64 pick, .string (tx la), .string (tx lb), .int .i64 n, .int .i64 m, .int .i64 l, .slice ax lx.length cx, .slice ay ly.length cy, .string (tx lts), .slice at1 lt.length ct, .slice ae ex.length ce, .bool set1, .bool mesh] 51) := hqZ (by rw [hw0, hq]; exact Blk.new _ _ _)
  have HB0 := hqZ hb0
  have HX0 := hqZ (hx.below hb0)
  have HT0 := hqZ (ht.below hb0)
  have HE0 : Hid (TksV w0 (fun _ => True) ex (.slice ae ex.length ce)) := hqZ (by obtain ⟨rows, h1, h2⟩ := he; exact ⟨rows, h1.below hb0, h2.below hb0⟩)
  have HAL := hqZ (alive11_any w0)
  obtain ⟨k, hk⟩ : ∃ k : Nat, k < 16 ∧ bits .and .i64 pick 15 = (k : Int) := ⟨(pick % 16).toNat, by omega, by rw [i64_and15]; omega⟩
  have HK := hqZ hk
  clear hk
  have HN := hqZ hn
  have HM := hqZ hm
  have HLL := hqZ hl
  have HMA := hqZ ma
  have HMB := hqZ mb
  have HMS := hqZ ms
  have HMX := hqZ mx
  have HMT := hqZ mt
  have HME := hqZ me
  have HME2 := hqZ me2
  have hsa : (tx la).size = la.length := tx_size _
  have hsb : (tx lb).size = lb.length := tx_size _
  have hss : (tx lts).size = lts.length := tx_size _
  clear hx hy ht he hn hm hl hb0 me
  go_enter Try.func4, Try.ntmps4
  go_upto_region 1 with fail
  show Code.wp _ _ _ _ (w.alloc (.cells #[.int .i64 pick, .string (tx la), .string (tx lb), .int .i64 n, .int .i64 m, .int .i64 l, .slice ax lx.length cx, .slice ay ly.length cy, .string (tx lts), .slice at1 lt.length ct, .slice ae ex.length ce, .bool set1, .bool mesh] 51))
  rw [← hw0, ← hq]
  clear hw0
  have HQW := hqZ hq
  clear hq
  go_wp2_with fail
  refine HAL.out.mono ?_
  rintro e w1 ⟨rfl, hb1⟩
  have HB1 : Hid (Below w.heap.size w w1) := hqZ (HB0.out.trans (hb1.mono HB0.out.size))
  have HQ1 := hqZ (HQ0.out.below hb1 HQ0.out.lt)
  have HX1 := hqZ (HX0.out.below hb1)
  have HT1 := hqZ (HT0.out.below hb1)
  have HE1 : Hid (TksV w1 (fun _ => True) ex (.slice ae ex.length ce)) := hqZ (by obtain ⟨rows, h1, h2⟩ := HE0.out; exact ⟨rows, h1.below hb1, h2.below hb1⟩)
  have q0 : w1.cell? ⟨q, 0, none⟩ = some (.int .i64 pick) := HQ1.out.cell 0
  have q1 : w1.cell? ⟨q, 1, none⟩ = some (.string (tx la)) := HQ1.out.cell 1
  have q2 : w1.cell? ⟨q, 2, none⟩ = some (.string (tx lb)) := HQ1.out.cell 2
  have q3 : w1.cell? ⟨q, 3, none⟩ = some (.int .i64 n) := HQ1.out.cell 3
  have q4 : w1.cell? ⟨q, 4, none⟩ = some (.int .i64 m) := HQ1.out.cell 4
  have q5 : w1.cell? ⟨q, 5, none⟩ = some (.int .i64 l) := HQ1.out.cell 5
  have q6 : w1.cell? ⟨q, 6, none⟩ = some (.slice ax lx.length cx) := HQ1.out.cell 6
  have q7 : w1.cell? ⟨q, 7, none⟩ = some (.slice ay ly.length cy) := HQ1.out.cell 7
  have q8 : w1.cell? ⟨q, 8, none⟩ = some (.string (tx lts)) := HQ1.out.cell 8
  have q9 : w1.cell? ⟨q, 9, none⟩ = some (.slice at1 lt.length ct) := HQ1.out.cell 9
  have q10 : w1.cell? ⟨q, 10, none⟩ = some (.slice ae ex.length ce) := HQ1.out.cell 10
  have q11 : w1.cell? ⟨q, 11, none⟩ = some (.bool set1) := HQ1.out.cell 11
  have q12 : w1.cell? ⟨q, 12, none⟩ = some (.bool mesh) := HQ1.out.cell 12
  clear hb1 HAL HB0 HQ0 HX0 HT0 HE0
  go_upto_region 3 with fail
  rename_i Q1 K1 hK1 K2 hK2
  have HK1 : Hid (∀ a w, Code.wp Try.prog mwRest Q1 a w → K1 a w) := hqZ hK1
  clear hK1
  by_cases hc0 : 100 < la.length
  · have hd0 : (100 : Int) < (la.length : Int) := by omega
    go_wp2_with fail
    go_ret
    exact ⟨rfl, HB1.out⟩
  have hd0 : ¬ (100 : Int) < (la.length : Int) := by omega
  have HC0 := hqZ hc0
  clear hc0
  by_cases hc1 : 100 < lb.length
  · have hd1 : (100 : Int) < (lb.length : Int) := by omega
    go_wp2_with fail
    go_ret
    exact ⟨rfl, HB1.out⟩
  have hd1 : ¬ (100 : Int) < (lb.length : Int) := by omega
  have HC1 := hqZ hc1
  clear hc1
  by_cases hc2 : 5000 < lx.length
  · have hd2 : (5000 : Int) < (lx.length : Int) := by omega
    go_wp2_with fail
    go_ret
    exact ⟨rfl, HB1.out⟩
  have hd2 : ¬ (5000 : Int) < (lx.length : Int) := by omega
  have HC2 := hqZ hc2
  clear hc2
  by_cases hc3 : 100 < lts.length
  · have hd3 : (100 : Int) < (lts.length : Int) := by omega
    go_wp2_with fail
    go_ret
    exact ⟨rfl, HB1.out⟩
  have hd3 : ¬ (100 : Int) < (lts.length : Int) := by omega
  have HC3 := hqZ hc3
  clear hc3
  by_cases hc4 : 5000 < lt.length
  · have hd4 : (5000 : Int) < (lt.length : Int) := by omega
    go_wp2_with fail
    go_ret
    exact ⟨rfl, HB1.out⟩
  have hd4 : ¬ (5000 : Int) < (lt.length : Int) := by omega
  have HC4 := hqZ hc4
  clear hc4
  by_cases hc5 : 3 < ex.length
  · have hd5 : (3 : Int) < (ex.length : Int) := by omega
    go_wp2_with fail
    go_ret
    exact ⟨rfl, HB1.out⟩
  have hd5 : ¬ (3 : Int) < (ex.length : Int) := by omega
  have HC5 := hqZ hc5
  clear hc5
  go_wp2_with fail
  refine HK1.out _ _ ?_
  obtain ⟨hk, hp⟩ := HK.out
  have HH : MwH pick n m l la lb lts lx ly lt ex ax ay at1 ae cx cy ct ce set1 mesh w w1 q := ⟨HB1, HQ1, HX1, HT1, HE1, HN, HM, HLL, hqZ (by have := HC0.out; omega), hqZ (by have := HC1.out; omega), hqZ (by have := HC3.out; omega), hqZ (by have := HC2.out; omega), hqZ (by have := HC4.out; omega), HME, hqZ (by have := HC5.out; omega)⟩
  match k, hk, hp with
  | 0, _, hp => exact msgW_0 pick n m l la lb lts lx ly lt ex ax ay at1 ae cx cy ct ce set1 mesh w w1 q _ _ _ _ _ _ _ _ _ _ _ _ _ _ _ _ _ _ _ _ _ _ _ _ _ _ _ _ _ _ _ _ _ _ _ _ _ _ HH hp
  | 1, _, hp => exact msgW_1 pick n m l la lb lts lx ly lt ex ax ay at1 ae cx cy ct ce set1 mesh w w1 q _ _ _ _ _ _ _ _ _ _ _ _ _ _ _ _ _ _ _ _ _ _ _ _ _ _ _ _ _ _ _ _ _ _ _ _ _ _ HH hp
  | 2, _, hp => exact msgW_2 pick n m l la lb lts lx ly lt ex ax ay at1 ae cx cy ct ce set1 mesh w w1 q _ _ _ _ _ _ _ _ _ _ _ _ _ _ _ _ _ _ _ _ _ _ _ _ _ _ _ _ _ _ _ _ _ _ _ _ _ _ HH hp
  | 3, _, hp => exact msgW_3 pick n m l la lb lts lx ly lt ex ax ay at1 ae cx cy ct ce set1 mesh w w1 q _ _ _ _ _ _ _ _ _ _ _ _ _ _ _ _ _ _ _ _ _ _ _ _ _ _ _ _ _ _ _ _ _ _ _ _ _ _ HH hp
  | 4, _, hp => exact msgW_4 pick n m l la lb lts lx ly lt ex ax ay at1 ae cx cy ct ce set1 mesh w w1 q _ _ _ _ _ _ _ _ _ _ _ _ _ _ _ _ _ _ _ _ _ _ _ _ _ _ _ _ _ _ _ _ _ _ _ _ _ _ HH hp
  | 5, _, hp => exact msgW_5 pick n m l la lb lts lx ly lt ex ax ay at1 ae cx cy ct ce set1 mesh w w1 q _ _ _ _ _ _ _ _ _ _ _ _ _ _ _ _ _ _ _ _ _ _ _ _ _ _ _ _ _ _ _ _ _ _ _ _ _ _ HH hp
  | 6, _, hp => exact msgW_6 pick n m l la lb lts lx ly lt ex ax ay at1 ae cx cy ct ce set1 mesh w w1 q _ _ _ _ _ _ _ _ _ _ _ _ _ _ _ _ _ _ _ _ _ _ _ _ _ _ _ _ _ _ _ _ _ _ _ _ _ _ HH hp
  | 7, _, hp => exact msgW_7 pick n m l la lb lts lx ly lt ex ax ay at1 ae cx cy ct ce set1 mesh w w1 q _ _ _ _ _ _ _ _ _ _ _ _ _ _ _ _ _ _ _ _ _ _ _ _ _ _ _ _ _ _ _ _ _ _ _ _ _ _ HH hp
  | 8, _, hp => exact msgW_8 pick n m l la lb lts lx ly lt ex ax ay at1 ae cx cy ct ce set1 mesh w w1 q _ _ _ _ _ _ _ _ _ _ _ _ _ _ _ _ _ _ _ _ _ _ _ _ _ _ _ _ _ _ _ _ _ _ _ _ _ _ HH hp
  | 9, _, hp => exact msgW_9 pick n m l la lb lts lx ly lt ex ax ay at1 ae cx cy ct ce set1 mesh w w1 q _ _ _ _ _ _ _ _ _ _ _ _ _ _ _ _ _ _ _ _ _ _ _ _ _ _ _ _ _ _ _ _ _ _ _ _ _ _ HH hp
  | 10, _, hp => exact msgW_10 pick n m l la lb lts lx ly lt ex ax ay at1 ae cx cy ct ce set1 mesh w w1 q _ _ _ _ _ _ _ _ _ _ _ _ _ _ _ _ _ _ _ _ _ _ _ _ _ _ _ _ _ _ _ _ _ _ _ _ _ _ HH hp
  | 11, _, hp => exact msgW_11 pick n m l la lb lts lx ly lt ex ax ay at1 ae cx cy ct ce set1 mesh w w1 q _ _ _ _ _ _ _ _ _ _ _ _ _ _ _ _ _ _ _ _ _ _ _ _ _ _ _ _ _ _ _ _ _ _ _ _ _ _ HH hp
  | 12, _, hp => exact msgW_12 pick n m l la lb lts lx ly lt ex ax ay at1 ae cx cy ct ce set1 mesh w w1 q _ _ _ _ _ _ _ _ _ _ _ _ _ _ _ _ _ _ _ _ _ _ _ _ _ _ _ _ _ _ _ _ _ _ _ _ _ _ HH hp
  | 13, _, hp => exact msgW_13 pick n m l la lb lts lx ly lt ex ax ay at1 ae cx cy ct ce set1 mesh w w1 q _ _ _ _ _ _ _ _ _ _ _ _ _ _ _ _ _ _ _ _ _ _ _ _ _ _ _ _ _ _ _ _ _ _ _ _ _ _ HH hp
  | 14, _, hp => exact msgW_14 pick n m l la lb lts lx ly lt ex ax ay at1 ae cx cy ct ce set1 mesh w w1 q _ _ _ _ _ _ _ _ _ _ _ _ _ _ _ _ _ _ _ _ _ _ _ _ _ _ _ _ _ _ _ _ _ _ _ _ _ _ HH hp
  | 15, _, hp => exact msgW_15 pick n m l la lb lts lx ly lt ex ax ay at1 ae cx cy ct ce set1 mesh w w1 q _ _ _ _ _ _ _ _ _ _ _ _ _ _ _ _ _ _ _ _ _ _ _ _ _ _ _ _ _ _ _ _ _ _ _ _ _ _ HH hp
  | k + 16, hk, _ => omega
section
def flatFs (rec : TypeId → Option (List TypeId)) (cells : TypeId → Nat) : List Field → Nat → Option (List TypeId × Nat)
  | [], o => some ([], o)
  | f :: fs, o =>
    match rec f.type with
    | some l => if f.offset = o ∧ l.length = cells f.type then (flatFs rec cells fs (o + l.length)).map fun x => (l ++ x.1, x.2) else none
    | none => none
def flatTy (P : Program) : Nat → TypeId → Option (List TypeId)
  | 0, _ => none
  | fuel + 1, t =>
    match P.underlying t with
    | some (.struct fs) => match flatFs (flatTy P fuel) P.cellsOf fs.toList 0 with
      | some (l, o) => if o = P.cellsOf t then some l else none
      | none => none
    | some (.array n e) => match flatTy P fuel e with
      | some l => if l.length = P.cellsOf e ∧ n * l.length = P.cellsOf t then some ((List.range n).flatMap fun _ => l) else none
      | none => none
    | some _ => some [t]
    | none => none
theorem flatFs_ok {rec : TypeId → Option (List TypeId)} {cells : TypeId → Nat} : ∀ {fs : List Field} {o : Nat} {L : List TypeId} {o' : Nat}, flatFs rec cells fs o = some (L, o') →
    o' = o + L.length ∧ ∀ j t', L[j]? = some t' → ∃ f ∈ fs, ∃ l k, rec f.type = some l ∧ l[k]? = some t' ∧ f.offset + k = o + j ∧ l.length = cells f.type ∧ f.offset + l.length ≤ o'
  | [], o, L, o', h => by
    simp only [flatFs, Option.some.injEq, Prod.mk.injEq] at h
    obtain ⟨rfl, rfl⟩ := h
    exact ⟨rfl, fun j t' h => by simp at h⟩
  | f :: fs, o, L, o', h => by
    simp only [flatFs] at h
    split at h
    · rename_i l hl
      split at h
      · rename_i hc
        obtain ⟨⟨L1, o1⟩, h1, h2⟩ := Option.map_eq_some_iff.1 h
        simp only [Prod.mk.injEq] at h2
        obtain ⟨rfl, rfl⟩ := h2
        obtain ⟨e1, e2⟩ := flatFs_ok h1
        refine ⟨by simp; omega, fun j t' hj => ?_⟩
        by_cases hjl : j < l.length
        · rw [List.getElem?_append_left hjl] at hj
          exact ⟨f, by simp, l, j, hl, hj, by omega, hc.2, by omega⟩
        · rw [List.getElem?_append_right (by omega)] at hj
          obtain ⟨f', hf', l', k, q1, q2, q3, q4, q5⟩ := e2 _ _ hj
          exact ⟨f', by simp [hf'], l', k, q1, q2, by omega, q4, by omega⟩
      · simp at h
    · simp at h
section
variable {H : Type} {enc : TypeId × Value → H} {P : Program} {w : World} {base : Nat} {spare : Nat → Bool} {held : Bool}
def Leaf (enc : TypeId × Value → H) (P : Program) (w : World) (base : Nat) (spare : Nat → Bool) (held : Bool) (t : TypeId) (c : Value) : Prop :=
  (∃ d, P.underlying t = some d ∧ (∀ fs, d ≠ .struct fs) ∧ ∀ n e, d ≠ .array n e) ∧ ∃ n y, DataW.trod enc P w base spare held n t [c] = some y
def Leaves (enc : TypeId × Value → H) (P : Program) (w : World) (base : Nat) (spare : Nat → Bool) (held : Bool) (ts : List TypeId) (cs : List Value) : Prop :=
  cs.length = ts.length ∧ ∀ (j : Nat) t' c, ts[j]? = some t' → cs[j]? = some c → Leaf enc P w base spare held t' c
theorem getElem?_slice {α : Type} (l : List α) (o n k : Nat) (hk : k < n) : ((l.drop o).take n)[k]? = l[o + k]? := by
  rw [List.getElem?_take, if_pos hk, List.getElem?_drop]
theorem length_flatMap_const {α : Type} (l : List α) : ∀ n : Nat, ((List.range n).flatMap fun _ => l).length = n * l.length := by
  intro n
  induction n with
  | zero => simp
  | succ n ih =>
    rw [List.range_succ, List.flatMap_append, List.length_append, ih, Nat.add_mul]
    simp
theorem flatMap_const_get {α : Type} (l : List α) : ∀ (n j : Nat) (x : α), ((List.range n).flatMap fun _ => l)[j]? = some x → ∃ i k, i < n ∧ k < l.length ∧ j = i * l.length + k ∧ l[k]? = some x := by
  intro n
  induction n with
  | zero => intro j x h; simp at h
  | succ n ih =>
    intro j x h
    rw [List.range_succ, List.flatMap_append] at h
    simp only [List.flatMap_cons, List.flatMap_nil, List.append_nil] at h
    have hlen := length_flatMap_const l n
    by_cases hj : j < n * l.length
    · rw [List.getElem?_append_left (by omega)] at h
      obtain ⟨i, k, h1, h2, h3, h4⟩ := ih j x h
      exact ⟨i, k, by omega, h2, h3, h4⟩
    · rw [List.getElem?_append_right (by omega), hlen] at h
      exact ⟨n, j - n * l.length, by omega, (List.getElem?_eq_some_iff.1 h).1, by omega, h⟩
theorem trod_leaves : ∀ (m : Nat) (t : TypeId) (ts : List TypeId) (n : Nat) (cs : List Value) (x : DataW H × List MemPlace), flatTy P m t = some ts → P.cellsOf t = ts.length → cs.length = P.cellsOf t →
    DataW.trod enc P w base spare held n t cs = some x → Leaves enc P w base spare held ts cs := by
  intro m
  induction m with
  | zero => intro t ts n cs x h; simp [flatTy] at h
  | succ m ih =>
    intro t ts n cs x hf hts hcs h
    refine ⟨by omega, fun j t' c hj hc => ?_⟩
    rw [flatTy] at hf
    split at hf
    · rename_i fs hu
      split at hf
      · rename_i l o hfl
        split at hf
        · rename_i ho
          obtain rfl : l = ts := by simpa using hf
          obtain ⟨e1, e2⟩ := flatFs_ok hfl
          obtain ⟨f, hfm, l', k, q1, q2, q3, q4, q5⟩ := e2 j t' hj
          obtain ⟨xs, n', rfl, _, _, hxl, hfield⟩ := DataW.trod_struct hu h
          obtain ⟨i, hi⟩ := List.mem_iff_getElem?.1 hfm
          have hi' : fs[i]? = some f := by simpa using hi
          have hlt : i < xs.length := by
            have := (Array.getElem?_eq_some_iff.1 hi').1
            omega
          have ht := hfield i f hi'
          rw [List.getElem?_eq_getElem hlt] at ht
          have hk : k < l'.length := (List.getElem?_eq_some_iff.1 q2).1
          have hjl : j < cs.length := (List.getElem?_eq_some_iff.1 hc).1
          have hlen : ((cs.drop f.offset).take (P.cellsOf f.type)).length = P.cellsOf f.type := by
            rw [List.length_take, List.length_drop]
            omega
          have r := ih f.type l' n' _ _ q1 (by omega) hlen ht
          exact r.2 k t' c q2 (by rw [getElem?_slice _ _ _ _ (by omega), q3]; simpa using hc)
        · simp at hf
      · simp at hf
    · rename_i nn e hu
      split at hf
      · rename_i l hl
        split at hf
        · rename_i ho
          obtain rfl : ((List.range nn).flatMap fun _ => l) = ts := by simpa using hf
          obtain ⟨i, k, q1, q2, q3, q4⟩ := flatMap_const_get l nn j t' hj
          obtain ⟨xs, n', rfl, _, _, hxl, hel⟩ := DataW.trod_array hu h
          have hlt : i < xs.length := by omega
          have ht := hel i q1
          rw [List.getElem?_eq_getElem hlt] at ht
          have hmul : i * P.cellsOf e + P.cellsOf e ≤ P.cellsOf t := by
            rw [← ho.2, ← ho.1, ← Nat.succ_mul]
            exact Nat.mul_le_mul_right _ q1
          have hlen : ((cs.drop (i * P.cellsOf e)).take (P.cellsOf e)).length = P.cellsOf e := by
            rw [List.length_take, List.length_drop]
            omega
          have r := ih e l n' _ _ hl (by omega) hlen ht
          exact r.2 k t' c q4 (by rw [getElem?_slice _ _ _ _ (by omega), ← ho.1, ← q3]; exact hc)
        · simp at hf
      · simp at hf
    · rename_i d hd1 hd2 hu
      obtain rfl : [t] = ts := by simpa using hf
      have h1 : cs.length = 1 := by simpa [hts] using hcs
      match cs, h1 with
      | [c0], _ =>
        cases j with
        | zero =>
          simp only [List.getElem?_cons_zero, Option.some.injEq] at hj hc
          subst hj hc
          exact ⟨⟨d, hu, fun fs e => hd1 fs e, fun n e he => hd2 n e he⟩, n, x, h⟩
        | succ j => simp at hj
    · simp at hf
theorem Leaf.int {k : IntKind} {t : TypeId} {c : Value} (ht : P.underlying t = some (.int k)) (h : Leaf enc P w base spare held t c) : ∃ n, c = .int k n ∧ (Lit.int k n).wf = true := by
  obtain ⟨_, n, y, hy⟩ := h
  obtain ⟨m, e, _, hw⟩ := DataW.trod_int ht hy
  exact ⟨m, by simpa using e, hw⟩
theorem Leaf.bool {t : TypeId} {c : Value} (ht : P.underlying t = some .bool) (h : Leaf enc P w base spare held t c) : ∃ b, c = .bool b := by
  obtain ⟨_, n, y, hy⟩ := h
  obtain ⟨m, e, _⟩ := DataW.trod_bool ht hy
  exact ⟨m, by simpa using e⟩
theorem Leaf.string {t : TypeId} {c : Value} (ht : P.underlying t = some .string) (h : Leaf enc P w base spare held t c) : ∃ s : ByteArray, c = .string s ∧ s.size ≤ maxLen := by
  obtain ⟨_, n, y, hy⟩ := h
  obtain ⟨m, e, _, hw⟩ := DataW.trod_string ht hy
  exact ⟨m, by simpa using e, hw⟩
theorem Leaf.one {t : TypeId} {c : Value} (h : Leaf enc P w base spare held t c) : c.oneCell' = true := by
  obtain ⟨⟨d, hu, h1, h2⟩, n, y, hy⟩ := h
  cases n with
  | zero => simp [DataW.trod] at hy
  | succ n =>
    cases c with
    | agg cs => 
      unfold DataW.trod at hy
      rw [hu] at hy
      split at hy <;> simp_all
    | tuple vs =>
      unfold DataW.trod at hy
      rw [hu] at hy
      split at hy <;> simp_all
    | _ => rfl
theorem Leaves.one {ts : List TypeId} {cs : List Value} (h : Leaves enc P w base spare held ts cs) : ∀ u ∈ cs, u.oneCell' = true := by
  intro u hu
  obtain ⟨j, hj⟩ := List.mem_iff_getElem?.1 hu
  have hl : j < cs.length := (List.getElem?_eq_some_iff.1 hj).1
  have : j < ts.length := by have := h.1; omega
  exact (h.2 j ts[j] u (List.getElem?_eq_getElem this) hj).one
theorem Leaves.cons {t : TypeId} {ts : List TypeId} {cs : List Value} (h : Leaves enc P w base spare held (t :: ts) cs) : ∃ c cs', cs = c :: cs' ∧ Leaf enc P w base spare held t c ∧ Leaves enc P w base spare held ts cs' := by
  obtain ⟨h1, h2⟩ := h
  cases cs with
  | nil => simp at h1
  | cons c cs' => exact ⟨c, cs', rfl, h2 0 t c rfl rfl, by simpa using h1, fun j t' c' hj hc => h2 (j + 1) t' c' (by simpa using hj) (by simpa using hc)⟩
theorem Leaves.nil {cs : List Value} (h : Leaves enc P w base spare held [] cs) : cs = [] := by simpa using h.1
theorem addr_of_cell {a : Addr} {u : Value} (h : w.cell? a = some u) : a = ⟨a.block, a.off, none⟩ := by
  obtain ⟨b, o, s⟩ := a
  cases s with
  | none => rfl
  | some n => simp [World.cell?] at h; split at h <;> simp at h
theorem open_elems {t e : TypeId} {v : Value} {d : DataW H} {ps : List MemPlace} {m : Nat} {ts : List TypeId} (ht : P.underlying t = some (.slice e)) (hf : flatTy P m e = some ts) (hc : P.cellsOf e = ts.length) (hpos : 0 < ts.length)
    (hv : ∃ a len cap, v = .slice a len cap) (h : DataW.Trod enc P w base spare held t v d ps) :
    ∃ (n : Nat) (xs : List (List Value)), xs.length = n ∧ (∀ x ∈ xs, Leaves enc P w base spare held ts x) ∧ Sl w ts.length v n xs.flatten := by
  obtain ⟨a, len, cap, rfl⟩ := hv
  obtain ⟨fuel, hy⟩ := h
  rcases Deep.open_slice ht hy with ⟨h1, _⟩ | ⟨a', len', cap', m', n', D, Pl, h1, hb, hl, hm, hm', hx, hel⟩
  · simp only [Value.cells, List.cons.injEq, and_true, Value.slice.injEq] at h1
    obtain ⟨rfl, rfl, rfl⟩ := h1
    exact ⟨0, [], rfl, by simp, Sl.nil _ _ _⟩
  · simp only [Value.cells, List.cons.injEq, and_true, Value.slice.injEq] at h1
    obtain ⟨rfl, rfl, rfl⟩ := h1
    have hlm : len ≤ m' := by rw [hm']; split <;> omega
    have key : ∀ i, ∃ cs', i < len → cs'.length = ts.length ∧ Leaves enc P w base spare held ts cs' ∧ ∀ j u, cs'[j]? = some u → w.cell? (a'.add (i * ts.length + j)) = some u := by
      intro i
      by_cases hi : i < len
      · obtain ⟨cs', h2, h3⟩ := hel i (by omega)
        obtain ⟨_, h4, h5⟩ := World.cells?_some h2
        rw [hc] at h4
        refine ⟨cs', fun _ => ⟨h4, trod_leaves m e ts n' cs' _ hf hc (by omega) h3, fun j u hj => ?_⟩⟩
        have hjl := (List.getElem?_eq_some_iff.1 hj).1
        have := h5 j (by omega)
        rw [Deep.add_add, hc] at this
        rw [this, hj]
      · exact ⟨[], fun h => absurd h hi⟩
    obtain ⟨f, hf'⟩ : ∃ f : Nat → List Value, ∀ i, i < len → (f i).length = ts.length ∧ Leaves enc P w base spare held ts (f i) ∧ ∀ j u, (f i)[j]? = some u → w.cell? (a'.add (i * ts.length + j)) = some u :=
      ⟨fun i => (key i).choose, fun i hi => (key i).choose_spec hi⟩
    refine ⟨len, (List.range len).map f, by simp, ?_, ?_⟩
    · intro x hx
      obtain ⟨i, hi, rfl⟩ := List.mem_map.1 hx
      exact (hf' i (List.mem_range.1 hi)).2.1
    · have hlen : ∀ k, k ≤ len → (((List.range k).map f).flatten).length = k * ts.length := by
        intro k
        induction k with
        | zero => simp
        | succ k ih =>
          intro hk
          rw [List.range_succ, List.map_append, List.flatten_append, List.length_append, ih (by omega)]
          simp only [List.map_cons, List.map_nil, List.flatten_cons, List.flatten_nil, List.append_nil, (hf' k (by omega)).1, Nat.add_mul, Nat.one_mul]
      have hget : ∀ k, k ≤ len → ∀ j u, (((List.range k).map f).flatten)[j]? = some u → w.cell? (a'.add j) = some u := by
        intro k
        induction k with
        | zero => intro _ j u h; simp at h
        | succ k ih =>
          intro hk j u h
          rw [List.range_succ, List.map_append, List.flatten_append] at h
          simp only [List.map_cons, List.map_nil, List.flatten_cons, List.flatten_nil, List.append_nil] at h
          by_cases hj : j < k * ts.length
          · rw [List.getElem?_append_left (by rw [hlen k (by omega)]; exact hj)] at h
            exact ih (by omega) j u h
          · rw [List.getElem?_append_right (by rw [hlen k (by omega)]; omega), hlen k (by omega)] at h
            have := (hf' k (by omega)).2.2 _ u h
            rwa [show k * ts.length + (j - k * ts.length) = j by omega] at this
      refine ⟨hlen len (Nat.le_refl _), ?_, some a', cap, rfl, hl, hm, fun h => by simp at h, ?_⟩
      · intro u hu
        obtain ⟨x, hx, hu⟩ := List.mem_flatten.1 hu
        obtain ⟨i, hi, rfl⟩ := List.mem_map.1 hx
        exact (hf' i (List.mem_range.1 hi)).2.1.one u hu
      · by_cases h0 : len = 0
        · subst h0; exact .inl rfl
        · have hpos' : 0 < ((List.range len).map f).flatten.length := by rw [hlen len (Nat.le_refl _)]; exact Nat.mul_pos (by omega) hpos
          have hc0 := hget len (Nat.le_refl _) 0 _ (List.getElem?_eq_getElem hpos')
          have ea : a' = ⟨a'.block, a'.off, none⟩ := by
            have := addr_of_cell hc0
            simpa [Addr.add] using this
          refine .inr ⟨a'.block, a'.off, by rw [← ea], fun j u hj => ?_⟩
          have := hget len (Nat.le_refl _) j u hj
          rw [ea, Addr.add_lit] at this
          exact this
theorem exists_map {α β : Type} (f : α → β) : ∀ (xs : List β), (∀ x ∈ xs, ∃ a, x = f a) → ∃ l : List α, xs = l.map f
  | [], _ => ⟨[], rfl⟩
  | x :: xs, h => by
    obtain ⟨a, rfl⟩ := h x (by simp)
    obtain ⟨l, rfl⟩ := exists_map f xs (fun y hy => h y (by simp [hy]))
    exact ⟨a :: l, rfl⟩
end
end
end Go.Proofs.Ytpjkidcfidmfaaa
namespace Go.Proofs.Ytpjkidcfidmfaaa
set_option linter.unusedSimpArgs false
set_option linter.unusedVariables false
open Go.ChangeShapes Go.WideShapes Go.RowKit Go.OpenShut
section
variable {H : Type} {enc : TypeId × Value → H} {w : World} {base : Nat} {spare : Nat → Bool} {held : Bool}
theorem byte_of_wf {n : Int} (h : (Lit.int .u8 n).wf = true) : ∃ x : UInt8, (Value.int .u8 n) = bV x := by
  have h := bounds_u8 h
  refine ⟨UInt8.ofNat n.toNat, ?_⟩
  rw [bV, UInt8.toNat_ofNat']
  congr 1
  omega
theorem flat_bV : ∀ l : List UInt8, (l.map fun x => [bV x]).flatten = bCells l
  | [] => rfl
  | x :: l => by rw [List.map_cons, List.flatten_cons, flat_bV l]; rfl
end
end Go.Proofs.Ytpjkidcfidmfaaa
namespace Go.Proofs.Ytpjkidcfidmfaaa
set_option linter.unusedSimpArgs false
set_option linter.unusedVariables false
open Go.RowKit
section
section
variable {H : Type} {enc : TypeId × Value → H} {P : Program} {w : World} {base : Nat} {spare : Nat → Bool} {held : Bool}
theorem weightsAll_mem {e : TypeId} : ∀ {ds : List (DataW H)} {d : DataW H}, d ∈ ds → ∀ {n : Nat}, n ∈ d.weights P e → n ∈ DataW.weightsAll P e ds
  | [], _, h, _, _ => by simp at h
  | d0 :: ds, d, h, n, hn => by
    simp only [DataW.weightsAll, List.mem_append]
    rcases List.mem_cons.1 h with rfl | h
    · exact .inl hn
    · exact .inr (weightsAll_mem h hn)
def LeafW (S : Nat → Prop) (enc : TypeId × Value → H) (P : Program) (w : World) (base : Nat) (spare : Nat → Bool) (held : Bool) (t : TypeId) (c : Value) : Prop :=
  Leaf enc P w base spare held t c ∧ ∃ n y, DataW.trod enc P w base spare held n t [c] = some y ∧ ∀ m ∈ y.1.weights P t, S m
def LeavesW (S : Nat → Prop) (enc : TypeId × Value → H) (P : Program) (w : World) (base : Nat) (spare : Nat → Bool) (held : Bool) (ts : List TypeId) (cs : List Value) : Prop :=
  cs.length = ts.length ∧ ∀ (j : Nat) t' c, ts[j]? = some t' → cs[j]? = some c → LeafW S enc P w base spare held t' c
theorem LeavesW.leaves {S : Nat → Prop} {ts : List TypeId} {cs : List Value} (h : LeavesW S enc P w base spare held ts cs) : Leaves enc P w base spare held ts cs :=
  ⟨h.1, fun j t' c hj hc => (h.2 j t' c hj hc).1⟩
theorem LeavesW.cons {S : Nat → Prop} {t : TypeId} {ts : List TypeId} {cs : List Value} (h : LeavesW S enc P w base spare held (t :: ts) cs) : ∃ c cs', cs = c :: cs' ∧ LeafW S enc P w base spare held t c ∧ LeavesW S enc P w base spare held ts cs' := by
  obtain ⟨h1, h2⟩ := h
  cases cs with
  | nil => simp at h1
  | cons c cs' => exact ⟨c, cs', rfl, h2 0 t c rfl rfl, by simpa using h1, fun j t' c' hj hc => h2 (j + 1) t' c' (by simpa using hj) (by simpa using hc)⟩
theorem trod_leavesW {S : Nat → Prop} : ∀ (m : Nat) (t : TypeId) (ts : List TypeId) (n : Nat) (cs : List Value) (x : DataW H × List MemPlace), flatTy P m t = some ts → P.cellsOf t = ts.length → cs.length = P.cellsOf t →
    DataW.trod enc P w base spare held n t cs = some x → (∀ m ∈ x.1.weights P t, S m) → LeavesW S enc P w base spare held ts cs := by
  intro m
  induction m with
  | zero => intro t ts n cs x h; simp [flatTy] at h
  | succ m ih =>
    intro t ts n cs x hf hts hcs h hS
    refine ⟨by omega, fun j t' c hj hc => ?_⟩
    rw [flatTy] at hf
    split at hf
    · rename_i fs hu
      split at hf
      · rename_i l o hfl
        split at hf
        · rename_i ho
          obtain rfl : l = ts := by simpa using hf
          obtain ⟨e1, e2⟩ := flatFs_ok hfl
          obtain ⟨f, hfm, l', k, q1, q2, q3, q4, q5⟩ := e2 j t' hj
          obtain ⟨xs, n', rfl, rfl, _, hxl, hfield⟩ := DataW.trod_struct hu h
          obtain ⟨i, hi⟩ := List.mem_iff_getElem?.1 hfm
          have hi' : fs[i]? = some f := by simpa using hi
          have hlt : i < xs.length := by
            have := (Array.getElem?_eq_some_iff.1 hi').1
            omega
          have ht := hfield i f hi'
          rw [List.getElem?_eq_getElem hlt] at ht
          have hk : k < l'.length := (List.getElem?_eq_some_iff.1 q2).1
          have hjl : j < cs.length := (List.getElem?_eq_some_iff.1 hc).1
          have hlen : ((cs.drop f.offset).take (P.cellsOf f.type)).length = P.cellsOf f.type := by
            rw [List.length_take, List.length_drop]
            omega
          have r := ih f.type l' n' _ _ q1 (by omega) hlen ht (fun m hm => hS m (by
            show m ∈ DataW.weights P t (.agg (xs.map (·.1)))
            simp only [DataW.weights, hu]
            exact DataW.weights_mem_each (j := i) (by simp [hi]) (by simp [List.getElem?_eq_getElem hlt]) m hm))
          exact r.2 k t' c q2 (by rw [getElem?_slice _ _ _ _ (by omega), q3]; simpa using hc)
        · simp at hf
      · simp at hf
    · rename_i nn e hu
      split at hf
      · rename_i l hl
        split at hf
        · rename_i ho
          obtain rfl : ((List.range nn).flatMap fun _ => l) = ts := by simpa using hf
          obtain ⟨i, k, q1, q2, q3, q4⟩ := flatMap_const_get l nn j t' hj
          obtain ⟨xs, n', rfl, rfl, _, hxl, hel⟩ := DataW.trod_array hu h
          have hlt : i < xs.length := by omega
          have ht := hel i q1
          rw [List.getElem?_eq_getElem hlt] at ht
          have hmul : i * P.cellsOf e + P.cellsOf e ≤ P.cellsOf t := by
            rw [← ho.2, ← ho.1, ← Nat.succ_mul]
            exact Nat.mul_le_mul_right _ q1
          have hlen : ((cs.drop (i * P.cellsOf e)).take (P.cellsOf e)).length = P.cellsOf e := by
            rw [List.length_take, List.length_drop]
            omega
          have r := ih e l n' _ _ hl (by omega) hlen ht (fun m hm => hS m (by
            show m ∈ DataW.weights P t (.agg (xs.map (·.1)))
            simp only [DataW.weights, hu]
            exact weightsAll_mem (List.mem_map.2 ⟨_, List.getElem_mem hlt, rfl⟩) hm))
          exact r.2 k t' c q4 (by rw [getElem?_slice _ _ _ _ (by omega), ← ho.1, ← q3]; exact hc)
        · simp at hf
      · simp at hf
    · rename_i d hd1 hd2 hu
      obtain rfl : [t] = ts := by simpa using hf
      have h1 : cs.length = 1 := by simpa [hts] using hcs
      match cs, h1 with
      | [c0], _ =>
        cases j with
        | zero =>
          simp only [List.getElem?_cons_zero, Option.some.injEq] at hj hc
          subst hj hc
          exact ⟨⟨⟨d, hu, fun fs e => hd1 fs e, fun n e he => hd2 n e he⟩, n, x, h⟩, n, x, h, hS⟩
        | succ j => simp at hj
    · simp at hf
theorem open_elemsW {S : Nat → Prop} {t e : TypeId} {v : Value} {d : DataW H} {ps : List MemPlace} {m : Nat} {ts : List TypeId} (ht : P.underlying t = some (.slice e)) (hf : flatTy P m e = some ts) (hc : P.cellsOf e = ts.length) (hpos : 0 < ts.length)
    (hv : ∃ a len cap, v = .slice a len cap) (h : DataW.Trod enc P w base spare held t v d ps) (hS : ∀ m ∈ d.weights P t, S m) :
    ∃ (n : Nat) (xs : List (List Value)), xs.length = n ∧ (∀ x ∈ xs, LeavesW S enc P w base spare held ts x) ∧ Sl w ts.length v n xs.flatten := by
  obtain ⟨a, len, cap, rfl⟩ := hv
  obtain ⟨fuel, hy⟩ := h
  rcases Deep.open_slice ht hy with ⟨h1, hdn⟩ | ⟨a', len', cap', m', n', D, Pl, h1, hb, hl, hm, hm', hx, hel⟩
  · simp only [Value.cells, List.cons.injEq, and_true, Value.slice.injEq] at h1
    obtain ⟨rfl, rfl, rfl⟩ := h1
    exact ⟨0, [], rfl, by simp, Sl.nil _ _ _⟩
  · simp only [Value.cells, List.cons.injEq, and_true, Value.slice.injEq] at h1
    obtain ⟨rfl, rfl, rfl⟩ := h1
    have hlm : len ≤ m' := by rw [hm']; split <;> omega
    have hSD : ∀ i, i < len → ∀ m ∈ (D i).weights P e, S m := by
      intro i hi m hm
      have hd : d = .slice ((List.range len).map D) ((List.range (m' - len)).map fun j => D (len + j)) := congrArg Prod.fst hx
      refine hS m ?_
      rw [hd]
      simp only [DataW.weights, ht, List.mem_cons, List.mem_append]
      exact .inr (.inl (weightsAll_mem (List.mem_map.2 ⟨i, List.mem_range.2 hi, rfl⟩) hm))
    have key : ∀ i, ∃ cs', i < len → cs'.length = ts.length ∧ LeavesW S enc P w base spare held ts cs' ∧ ∀ j u, cs'[j]? = some u → w.cell? (a'.add (i * ts.length + j)) = some u := by
      intro i
      by_cases hi : i < len
      · obtain ⟨cs', h2, h3⟩ := hel i (by omega)
        obtain ⟨_, h4, h5⟩ := World.cells?_some h2
        rw [hc] at h4
        refine ⟨cs', fun _ => ⟨h4, trod_leavesW m e ts n' cs' _ hf hc (by omega) h3 (hSD i hi), fun j u hj => ?_⟩⟩
        have hjl := (List.getElem?_eq_some_iff.1 hj).1
        have := h5 j (by omega)
        rw [Deep.add_add, hc] at this
        rw [this, hj]
      · exact ⟨[], fun h => absurd h hi⟩
    obtain ⟨f, hf'⟩ : ∃ f : Nat → List Value, ∀ i, i < len → (f i).length = ts.length ∧ LeavesW S enc P w base spare held ts (f i) ∧ ∀ j u, (f i)[j]? = some u → w.cell? (a'.add (i * ts.length + j)) = some u :=
      ⟨fun i => (key i).choose, fun i hi => (key i).choose_spec hi⟩
    refine ⟨len, (List.range len).map f, by simp, ?_, ?_⟩
    · intro x hx
      obtain ⟨i, hi, rfl⟩ := List.mem_map.1 hx
      exact (hf' i (List.mem_range.1 hi)).2.1
    · have hlen : ∀ k, k ≤ len → (((List.range k).map f).flatten).length = k * ts.length := by
        intro k
        induction k with
        | zero => simp
        | succ k ih =>
          intro hk
          rw [List.range_succ, List.map_append, List.flatten_append, List.length_append, ih (by omega)]
          simp only [List.map_cons, List.map_nil, List.flatten_cons, List.flatten_nil, List.append_nil, (hf' k (by omega)).1, Nat.add_mul, Nat.one_mul]
      have hget : ∀ k, k ≤ len → ∀ j u, (((List.range k).map f).flatten)[j]? = some u → w.cell? (a'.add j) = some u := by
        intro k
        induction k with
        | zero => intro _ j u h; simp at h
        | succ k ih =>
          intro hk j u h
          rw [List.range_succ, List.map_append, List.flatten_append] at h
          simp only [List.map_cons, List.map_nil, List.flatten_cons, List.flatten_nil, List.append_nil] at h
          by_cases hj : j < k * ts.length
          · rw [List.getElem?_append_left (by rw [hlen k (by omega)]; exact hj)] at h
            exact ih (by omega) j u h
          · rw [List.getElem?_append_right (by rw [hlen k (by omega)]; omega), hlen k (by omega)] at h
            have := (hf' k (by omega)).2.2 _ u h
            rwa [show k * ts.length + (j - k * ts.length) = j by omega] at this
      refine ⟨hlen len (Nat.le_refl _), ?_, some a', cap, rfl, hl, hm, fun h => by simp at h, ?_⟩
      · intro u hu
        obtain ⟨x, hx, hu⟩ := List.mem_flatten.1 hu
        obtain ⟨i, hi, rfl⟩ := List.mem_map.1 hx
        exact (hf' i (List.mem_range.1 hi)).2.1.leaves.one u hu
      · by_cases h0 : len = 0
        · subst h0; exact .inl rfl
        · have hpos' : 0 < ((List.range len).map f).flatten.length := by rw [hlen len (Nat.le_refl _)]; exact Nat.mul_pos (by omega) hpos
          have hc0 := hget len (Nat.le_refl _) 0 _ (List.getElem?_eq_getElem hpos')
          have ea : a' = ⟨a'.block, a'.off, none⟩ := by
            have := addr_of_cell hc0
            simpa [Addr.add] using this
          refine .inr ⟨a'.block, a'.off, by rw [← ea], fun j u hj => ?_⟩
          have := hget len (Nat.le_refl _) j u hj
          rw [ea, Addr.add_lit] at this
          exact this
end
end
end Go.Proofs.Ytpjkidcfidmfaaa
namespace Go.Proofs.Ytpjkidcfidmfaaa
set_option linter.unusedSimpArgs false
set_option linter.unusedVariables false
open Go.ChangeShapes Go.WideShapes Go.RowKit Go.OpenShut
section
variable {H : Type} {enc : TypeId × Value → H} {w : World} {base : Nat} {spare : Nat → Bool} {held : Bool}
set_option maxRecDepth 100000 in
theorem leaf_box {c : Value} (h : Leaf enc Try.prog w base spare held 22 c) : ∃ l : List UInt8, Bs w c l := by
  obtain ⟨_, fuel, y, hy⟩ := h
  have hf : flatTy Try.prog 4 5 = some [5] := by kernel_rfl
  rcases Deep.open_slice Try.underlying22 hy with ⟨h1, _⟩ | ⟨a', len, cap, m', n', D, Pl, h1, _, hl, hm, hm', hx, hel⟩
  · simp only [List.cons.injEq, and_true] at h1
    subst h1
    exact ⟨[], Sl.nil _ _ _⟩
  · simp only [List.cons.injEq, and_true] at h1
    subst h1
    obtain ⟨n, xs, hn, hxs, hs⟩ := open_elems (v := .slice (some a') len cap) (d := y.1) (ps := y.2) Try.underlying22 hf (by kernel_rfl) (by decide) ⟨_, _, _, rfl⟩ ⟨fuel, hy⟩
    obtain ⟨l, rfl⟩ := exists_map (fun x : UInt8 => [bV x]) xs (fun x hxm => by
      obtain ⟨c0, x, rfl, k0, hL⟩ := (hxs x hxm).cons
      obtain rfl := hL.nil
      obtain ⟨y0, rfl, hw⟩ := k0.int Try.underlying5
      obtain ⟨z, hz⟩ := byte_of_wf hw
      exact ⟨z, by rw [hz]⟩)
    rw [flat_bV] at hs
    rw [List.length_map] at hn
    subst hn
    exact ⟨l, hs⟩
end
section
variable {H : Type} {enc : TypeId × Value → H} {w : World} {base : Nat} {spare : Nat → Bool} {held : Bool}
def RchW (m : Nat) : Prop := m ≤ reachBytes
theorem leafW_tx {t : TypeId} {c : Value} (ht : Try.prog.underlying t = some .string) (h : LeafW RchW enc Try.prog w base spare held t c) : ∃ l : List UInt8, c = .string (tx l) ∧ l.length ≤ 140737488351232 := by
  obtain ⟨_, n, y, hy, hq⟩ := h
  obtain ⟨s, e, hd, _⟩ := DataW.trod_string ht hy
  rw [congrArg Prod.fst hd] at hq
  have := hq _ (by simp [DataW.weights]; rfl)
  unfold RchW reachBytes at this
  exact ⟨s.data.toList, by simpa [tx] using e, this⟩
set_option maxRecDepth 100000 in
theorem leafW_box {c : Value} (h : LeafW RchW enc Try.prog w base spare held 22 c) : ∃ l : List UInt8, Bs w c l ∧ l.length ≤ 140737488351232 := by
  obtain ⟨l, hb⟩ := leaf_box h.1
  refine ⟨l, hb, ?_⟩
  obtain ⟨_, n, y, hy, hq⟩ := h
  obtain ⟨a, cp, rfl, _⟩ := hb.form
  rcases Deep.open_slice Try.underlying22 hy with ⟨h1, _⟩ | ⟨a', len, cap, m', n', D, Pl, h1, _, hl, hm, hm', hx, hel⟩
  · simp only [List.cons.injEq, Value.slice.injEq, and_true] at h1
    omega
  · simp only [List.cons.injEq, Value.slice.injEq, and_true] at h1
    rw [congrArg Prod.fst hx] at hq
    have := hq ((((List.range len).map D).length + ((List.range (m' - len)).map fun j => D (len + j)).length) * Try.prog.bytesOf 5) (by simp [DataW.weights, Try.underlying22])
    have hby : Try.prog.bytesOf 5 = 1 := by kernel_rfl
    rw [hby, List.length_map, List.length_range] at this
    unfold RchW reachBytes at this
    omega
theorem tkRows_of : ∀ xs : List (List Value), (∀ x ∈ xs, LeavesW RchW enc Try.prog w base spare held [9, 22] x) →
    ∃ l : List (List UInt8 × List UInt8), l.length = xs.length ∧ TkRows w (fun _ => True) l xs.flatten ∧ ∀ t ∈ l, t.1.length ≤ 140737488351232 ∧ t.2.length ≤ 140737488351232
  | [], _ => ⟨[], rfl, rfl, by simp⟩
  | x :: xs, h => by
    obtain ⟨l, h1, h2, h3⟩ := tkRows_of xs (fun y hy => h y (by simp [hy]))
    obtain ⟨c0, x0, rfl, k0, hL⟩ := (h x (by simp)).cons
    obtain ⟨c1, x1, rfl, k1, hL⟩ := hL.cons
    obtain rfl := hL.leaves.nil
    obtain ⟨s, rfl, hs⟩ := leafW_tx Try.underlying9 k0
    obtain ⟨b, hb, hbl⟩ := leafW_box k1
    refine ⟨(s, b) :: l, by simp [h1], ⟨c1, xs.flatten, by simp, hb, fun _ _ _ => trivial, h2⟩, ?_⟩
    intro t ht
    rcases List.mem_cons.1 ht with rfl | ht
    · exact ⟨hs, hbl⟩
    · exact h3 t ht
set_option maxRecDepth 100000 in
theorem leafW_tks {c : Value} (h : LeafW RchW enc Try.prog w base spare held 49 c) :
    ∃ l : List (List UInt8 × List UInt8), TksV w (fun _ => True) l c ∧ l.length ≤ 140737488351232 ∧ ∀ t ∈ l, t.1.length ≤ 140737488351232 ∧ t.2.length ≤ 140737488351232 := by
  obtain ⟨⟨_, _, _, _⟩, n, y, hy, hq⟩ := h
  have hf : flatTy Try.prog 4 48 = some [9, 22] := by kernel_rfl
  have hsl : ∃ a len cap, c = .slice a len cap := by
    rcases Deep.open_slice Try.underlying49 hy with ⟨h1, _⟩ | ⟨a', len, cap, m', n', D, Pl, h1, _⟩
    · exact ⟨_, _, _, by simpa using h1⟩
    · exact ⟨_, _, _, by simpa using h1⟩
  obtain ⟨a, len, cap, rfl⟩ := hsl
  obtain ⟨n1, xs, hn, hx, hs⟩ := open_elemsW (S := RchW) (v := .slice a len cap) (d := y.1) (ps := y.2) Try.underlying49 hf (by kernel_rfl) (by decide) ⟨_, _, _, rfl⟩ ⟨n, hy⟩ hq
  obtain ⟨l, h1, h2, h3⟩ := tkRows_of xs hx
  subst hn
  refine ⟨l, ⟨_, by rw [h1]; exact hs, h2⟩, ?_, h3⟩
  obtain ⟨a2, c2, e2, _⟩ := hs.form
  simp only [Value.slice.injEq] at e2
  rcases Deep.open_slice Try.underlying49 hy with ⟨g1, _⟩ | ⟨a', len', cap', m', n', D, Pl, g1, _, hl, hm, hm', gx, hel⟩
  · simp only [List.cons.injEq, Value.slice.injEq, and_true] at g1
    omega
  · simp only [List.cons.injEq, Value.slice.injEq, and_true] at g1
    rw [congrArg Prod.fst gx] at hq
    have := hq ((((List.range len').map D).length + ((List.range (m' - len')).map fun j => D (len' + j)).length) * Try.prog.bytesOf 48) (by simp [DataW.weights, Try.underlying49])
    have hby : Try.prog.bytesOf 48 = 40 := by kernel_rfl
    rw [hby, List.length_map, List.length_range] at this
    unfold RchW reachBytes at this
    omega
set_option maxRecDepth 100000 in
theorem open_in {v : Value} {d : DataW H} {ps : List MemPlace} {r : Reach} {b0 : Nat} (hval : Value.okWide Try.prog w r b0 51 v)
    (h : DataW.Trod enc Try.prog w base spare held 51 v d ps) (hS : ∀ m ∈ d.weights Try.prog 51, RchW m) :
    ∃ (pick n m l : Int) (la lb lts lx ly lt : List UInt8) (ex : List (List UInt8 × List UInt8)) (xv yv tv ev : Value) (set1 mesh : Bool),
      v = .agg #[.int .i64 pick, .string (tx la), .string (tx lb), .int .i64 n, .int .i64 m, .int .i64 l, xv, yv, .string (tx lts), tv, ev, .bool set1, .bool mesh] ∧
      Bs w xv lx ∧ Bs w yv ly ∧ Bs w tv lt ∧ TksV w (fun _ => True) ex ev ∧ (-9223372036854775808 ≤ n ∧ n ≤ 9223372036854775807) ∧ (-9223372036854775808 ≤ m ∧ m ≤ 9223372036854775807) ∧ (-9223372036854775808 ≤ l ∧ l ≤ 9223372036854775807) ∧
      la.length ≤ 140737488351232 ∧ lb.length ≤ 140737488351232 ∧ lts.length ≤ 140737488351232 ∧ lx.length ≤ 140737488351232 ∧ lt.length ≤ 140737488351232 ∧ (∀ t ∈ ex, t.1.length ≤ 140737488351232 ∧ t.2.length ≤ 140737488351232) ∧ ex.length ≤ 140737488351232 := by
  obtain ⟨cs, rfl, hcs⟩ := okWide_struct Try.underlying51 hval
  obtain ⟨fuel, hy⟩ := h
  have hf : flatTy Try.prog 8 51 = some [3, 9, 9, 2, 2, 2, 22, 22, 9, 22, 49, 4, 4] := by kernel_rfl
  have hc13 : Try.prog.cellsOf 51 = 13 := by kernel_rfl
  have hL := trod_leavesW (S := RchW) 8 _ _ fuel cs.toList _ hf (by kernel_rfl) (by rw [hc13]; simpa [hc13] using hcs) hy hS
  obtain ⟨c0, x0, hcs0, k0, hL⟩ := hL.cons
  obtain ⟨c1, x1, rfl, k1, hL⟩ := hL.cons
  obtain ⟨c2, x2, rfl, k2, hL⟩ := hL.cons
  obtain ⟨c3, x3, rfl, k3, hL⟩ := hL.cons
  obtain ⟨c4, x4, rfl, k4, hL⟩ := hL.cons
  obtain ⟨c5, x5, rfl, k5, hL⟩ := hL.cons
  obtain ⟨c6, x6, rfl, k6, hL⟩ := hL.cons
  obtain ⟨c7, x7, rfl, k7, hL⟩ := hL.cons
  obtain ⟨c8, x8, rfl, k8, hL⟩ := hL.cons
  obtain ⟨c9, x9, rfl, k9, hL⟩ := hL.cons
  obtain ⟨c10, x10, rfl, k10, hL⟩ := hL.cons
  obtain ⟨c11, x11, rfl, k11, hL⟩ := hL.cons
  obtain ⟨c12, x12, rfl, k12, hL⟩ := hL.cons
  obtain rfl := hL.leaves.nil
  obtain ⟨pick, rfl, _⟩ := k0.1.int Try.underlying3
  obtain ⟨la, rfl, ha⟩ := leafW_tx Try.underlying9 k1
  obtain ⟨lb, rfl, hb⟩ := leafW_tx Try.underlying9 k2
  obtain ⟨n, rfl, w3⟩ := k3.1.int Try.underlying2
  obtain ⟨m, rfl, w4⟩ := k4.1.int Try.underlying2
  obtain ⟨l, rfl, w5⟩ := k5.1.int Try.underlying2
  obtain ⟨lx, hx, hxl⟩ := leafW_box k6
  obtain ⟨ly, hy1, _⟩ := leafW_box k7
  obtain ⟨lts, rfl, hs⟩ := leafW_tx Try.underlying9 k8
  obtain ⟨lt, ht, htl⟩ := leafW_box k9
  obtain ⟨ex, he, hel, hem⟩ := leafW_tks k10
  obtain ⟨b1, rfl⟩ := k11.1.bool Try.underlying4
  obtain ⟨b2, rfl⟩ := k12.1.bool Try.underlying4
  have e : cs = cs.toList.toArray := by simp
  rw [hcs0] at e
  refine ⟨pick, n, m, l, la, lb, lts, lx, ly, lt, ex, c6, c7, c9, c10, b1, b2, by rw [e], hx, hy1, ht, he, bounds_i64 w3, bounds_i64 w4, bounds_i64 w5, ha, hb, hs, hxl, htl, hem, hel⟩
end
end Go.Proofs.Ytpjkidcfidmfaaa
namespace Go.Proofs.Ytpjkidcfidmfaaa.msgWrites
open Go.ChangeShapes Go.WideShapes Go.ChangeAt Go.RowKit
open Go.ChangeMaps (open_string shut_string)
set_option linter.unusedVariables false
set_option maxRecDepth 100000 in
theorem contract (H : Type) (enc : TypeId × Value → H) (W : World) (base : Nat) (args : Array Value) (ds gs : List (DataW H)) (before : List MemPlace)
    (hval0 : ∀ (j : Nat) t v, Try.f4.params[j]? = some t → args[j]? = some v → Value.okWide Try.prog W .any base t v)
    (hW : DataW.Whole enc Try.prog Try.f4.params.toList Rows.msgWritesSpec.vars false W args.toList ds gs before)
    (hS : (DataW.weightsEach Try.prog (Try.f4.params.toList ++ Rows.msgWritesSpec.plain.varTypes Try.prog) (ds ++ gs)).all (· ≤ reachBytes) = true) :
    Calls Try.prog 4 args W fun e W' => ∃ v, e = .returned v ∧ Rows.msgWritesSpec.post enc Try.prog Try.f4 false true false false W args v W' := by
  have hval := hval0
  have hW' := hW
  obtain ⟨p, q, hA0, hV, rfl, hfz, hnd⟩ := hW
  have hA : DataW.TrodAll enc Try.prog W 0 (fun _ => true) true Try.f4.params.toList args.toList ds p := hA0
  rw [Try.params4] at hA hval
  obtain ⟨v0, vs0, d0, ds0, p0, q0, hargs, rfl, rfl, h0, r0⟩ := trodAll_cons hA
  obtain ⟨rfl, rfl, rfl⟩ := trodAll_nil r0
  obtain rfl : args = #[v0] := by cases args; simp_all
  obtain ⟨rfl, rfl⟩ := trodVars_none hV
  have hcall : Calls Try.prog 4 #[v0] W fun e W' => e = .returned (.bool true) ∧ Below W.heap.size W W' := by
    have hS' : ∀ m ∈ d0.weights Try.prog 51, RchW m := fun m hm => by
      have := List.all_eq_true.1 hS m (DataW.weights_mem_each (j := 0) (t := 51) (d := d0) rfl rfl m hm)
      simpa [RchW] using this
    obtain ⟨pick, n, m, l, la, lb, lts, lx, ly, lt, ex, xv, yv, tv, ev, b1, b2, rfl, hx, hy, ht, he, hn, hm, hl, ma, mb, ms, mx, mt, me, me2⟩ := open_in (hval 0 _ v0 rfl rfl) h0 hS'
    exact msgWrites_walk pick n m l la lb lts lx ly lt ex xv yv tv ev b1 b2 W hx hy ht he hn hm hl ma mb ms mx mt me me2
  refine hcall.mono fun e W' ⟨he, bel⟩ => ?_
  subst he
  exact ⟨_, rfl, _, _, _, [], _, [], hW', trodAll_mk1 (shut_bool Try.underlying4 _), trodAll_below rowLaidOut bel (by kernel_rfl) hA0, rfl, bel.frame _, fun h => by cases h⟩
set_option maxRecDepth 100000 in
theorem lifted (os : Os) (started : os.Started) (H : Type) (enc : TypeId × Value → H) :
    ReturnsInHanded {} Try.checked os 4 .any (Rows.msgWritesSpec.pre6 enc Try.prog Try.f4 Rows.msgWritesRow.domain false) (Rows.msgWritesSpec.post enc Try.prog Try.f4 false true false false) := by
  refine returnsInHanded_of_change_sized (C := Try.checked) rowOwn started (by kernel_rfl) Try.func4
    (ChangeSpec.witness6 (enc := enc) (C := Try.checked) false ⟨#[], #[.agg #[.int .i64 0, .string .empty, .string .empty, .int .i64 0, .int .i64 0, .int .i64 0, .slice none 0 0, .slice none 0 0, .string .empty, .slice none 0 0, .slice none 0 0, .bool false, .bool false]], []⟩ 8 (by kernel_rfl) (by kernel_rfl) (by kernel_rfl) (by kernel_rfl)) ?_
  intro W base args ds gs before hval hW _ hS _
  exact contract H enc W base args ds gs before hval hW hS
theorem over : Rows.msgWritesRow.holds Try.pinned (OpenSpec.ofChange Rows.msgWritesSpec) :=
  OpenClaim.holds_of_wide 4 Try.f4 rfl rfl rfl rfl rfl rfl rfl ⟨rfl, rfl, rfl, rfl, rfl⟩ rfl rfl rfl rfl rfl (by kernel_rfl) Try.func4 (by kernel_rfl)
    (of_decide_eq_true (by kernel_rfl)) (by unfold Func.isWrapper; first | (rw [if_pos (by decide +kernel)]; kernel_rfl) | (rw [if_neg (by decide +kernel)]; exact ⟨rfl, rfl⟩))
    (fun os started H enc _ => lifted os started H enc)
theorem proved : Rows.MsgWritesSaid := over
end Go.Proofs.Ytpjkidcfidmfaaa.msgWrites
