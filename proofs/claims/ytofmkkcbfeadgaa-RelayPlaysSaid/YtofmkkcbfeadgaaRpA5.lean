/- Texts of this proof, one behind the other: DerHead, DerWrite, DerWr, DerLaw, DerMk, MTk, Name, Name2, MTk2, Conv. -/
import Derived.Test.YtofmkkcbfeadgaaRpA4
import Derived.Test.YtofmkkcbfeadgaaProg
import Derived.Lib.OthersKept
import Derived.Lib.RuneCount
import Derived.Lib.BufferRead
import Derived.Lib.ConvBytes
import Derived.ArgAppend
namespace Go.Proofs.Ytofmkkcbfeadgaa
set_option linter.unusedSimpArgs false
set_option linter.unusedVariables false
open Go.RowKit
/-- A value's first bytes. -/
def headS (k t : Int) (n : Nat) : List UInt8 :=
  if n < 128 then [UInt8.ofNat (k * 64 + t).toNat, UInt8.ofNat n] else UInt8.ofNat (k * 64 + t).toNat :: UInt8.ofNat (128 + (shortB n).length) :: shortB n
def bodyOf (k : Int) (n : Nat) (b ws : List UInt8) : List UInt8 := if k = 0 then shortB n else if k = 1 then b else ws
mutual
/-- A value's bytes. -/
def writeS : Tv → List UInt8
  | .mk k t n b l => headS k t (bodyOf k n b (writesS l)).length ++ bodyOf k n b (writesS l)
def writesS : List Tv → List UInt8
  | [] => []
  | x :: l => writeS x ++ writesS l
end
def bodyS (x : Tv) : List UInt8 := bodyOf x.kind x.n x.b (writesS x.l)
theorem writeS_eq (x : Tv) : writeS x = headS x.kind x.tag (bodyS x).length ++ bodyS x := by cases x; rfl
theorem writesS_snoc : ∀ (l : List Tv) (x : Tv), writesS (l ++ [x]) = writesS l ++ writeS x
  | [], x => by simp [writesS]
  | y :: l, x => by simp [writesS, writesS_snoc l x]
theorem writesS_take (l : List Tv) (k : Nat) (h : k < l.length) : writesS (l.take (k + 1)) = writesS (l.take k) ++ writeS l[k] := by
  rw [List.take_succ_eq_append_getElem h, writesS_snoc]
theorem writesS_append : ∀ (a b : List Tv), writesS (a ++ b) = writesS a ++ writesS b
  | [], b => rfl
  | x :: a, b => by simp [writesS, writesS_append a b]
theorem writesS_take_le (l : List Tv) (k : Nat) : (writesS (l.take k)).length ≤ (writesS l).length := by
  conv => rhs; rw [← List.take_append_drop k l, writesS_append]
  rw [List.length_append]
  omega
theorem writeS_mem_le (l : List Tv) (k : Nat) (h : k < l.length) : (writesS (l.take k)).length + (writeS l[k]).length ≤ (writesS l).length := by
  have := writesS_take_le l (k + 1)
  rw [writesS_take l k h, List.length_append] at this
  exact this
mutual
/-- Values that may be written: of the three kinds, tags to 30, numbers of 64 bits. -/
def OkW : Tv → Prop
  | .mk k t n b l => (k = 0 ∨ k = 1 ∨ k = 2) ∧ 0 ≤ t ∧ t ≤ 30 ∧ n < 18446744073709551616 ∧ OksW l
def OksW : List Tv → Prop
  | [] => True
  | x :: l => OkW x ∧ OksW l
end
theorem OksW.mem : ∀ {l : List Tv}, OksW l → ∀ x ∈ l, OkW x
  | [], _, x, hx => by simp at hx
  | y :: l, h, x, hx => by
    rcases List.mem_cons.1 hx with e | hx
    · rw [e]; exact h.1
    · exact h.2.mem x hx
theorem OksW.of : ∀ {l : List Tv}, (∀ x ∈ l, OkW x) → OksW l
  | [], _ => trivial
  | y :: l, h => ⟨h y (by simp), OksW.of (fun x hx => h x (by simp [hx]))⟩
theorem or64 : ∀ (k : Fin 3) (t : Fin 31), bits BinOp.or IntKind.i64 ((k.val : Int) * 64) (t.val : Int) = (k.val : Int) * 64 + t.val := by decide +kernel
theorem or_tag (k t : Int) (hk : k = 0 ∨ k = 1 ∨ k = 2) (h0 : 0 ≤ t) (h1 : t ≤ 30) : bits BinOp.or IntKind.i64 (k * 64) t = ((k * 64 + t).toNat : Int) := by
  have h := or64 ⟨k.toNat, by omega⟩ ⟨t.toNat, by omega⟩
  simp only [show (k.toNat : Int) = k by omega, show (t.toNat : Int) = t by omega] at h
  rw [h]
  omega
theorem shortB_few (n : Nat) : (shortB n).length ≤ 8 ∧ 0 < (shortB n).length := by
  have hs : ∀ l : List UInt8, 0 < l.length → (stripZ l).length ≤ l.length ∧ 0 < (stripZ l).length := by
    intro l
    induction l with
    | nil => intro h; simp at h
    | cons x l ih =>
      intro _
      cases l with
      | nil => simp [stripZ]
      | cons y l =>
        unfold stripZ
        split
        · have := ih (by simp)
          simp at this ⊢
          omega
        · simp
  have := hs (putB n) (by rw [putB_length]; decide)
  rw [putB_length] at this
  exact this
theorem Rs.two {W : World} {v1 v2 : Value} {r1 r2 : List UInt8} {T : TypeId} {g : Nat} (hg : W.heap.size = g) (h1 : Bs W v1 r1) (h2 : Bs W v2 r2) : Rs (W.alloc (.cells #[v1, v2] T)) (.slice (some ⟨g, 0, none⟩) 2 2) [r1, r2] := by
  subst hg
  obtain ⟨a1, c1, rfl, _⟩ := h1.form
  obtain ⟨a2, c2, rfl, _⟩ := h2.form
  refine ⟨[.slice a1 r1.length c1, .slice a2 r2.length c2], rfl, Sl.lit (n := 2) rfl rfl (by intro u hu; simp at hu; rcases hu with rfl | rfl <;> rfl) (by unfold maxLen; decide), fun j u r hu hr => ?_⟩
  match j with
  | 0 =>
    simp only [List.getElem?_cons_zero, Option.some.injEq] at hu hr
    subst hu hr
    exact h1.alloc _
  | 1 =>
    simp only [List.getElem?_cons_succ, List.getElem?_cons_zero, Option.some.injEq] at hu hr
    subst hu hr
    exact h2.alloc _
  | j + 2 => simp at hu
set_option maxRecDepth 100000 in
theorem derHead_any (k t : Int) (n : Nat) (w : World) (hk : k = 0 ∨ k = 1 ∨ k = 2) (h0 : 0 ≤ t) (h1 : t ≤ 30) (hn : n ≤ 1099511627776) :
    Calls Try.prog 64 #[.int .i64 k, .int .i64 t, .int .i64 n] w fun e w' => ∃ v, e = .returned v ∧ Bs w' v (headS k t n) ∧ Below w.heap.size w w' := by
  have hor := or_tag k t hk h0 h1
  obtain ⟨f, hf⟩ : ∃ f, f = (k * 64 + t).toNat := ⟨_, rfl⟩
  have hf3 : f < 256 := by omega
  rw [← hf] at hor
  have hk0 : 0 ≤ k := by omega
  have hk2 : k ≤ 2 := by omega
  by_cases hs : n < 128
  · have hs' : (n : Int) < 128 := by omega
    have HR : Hid (headS k t n = [UInt8.ofNat f, UInt8.ofNat n]) := hI (by unfold headS; rw [if_pos hs, ← hf])
    have hbs : ∀ W : World, Bs (W.alloc (.cells #[.int .u8 f, .int .u8 n] 5)) (.slice (some ⟨W.heap.size, 0, none⟩) 2 2) [UInt8.ofNat f, UInt8.ofNat n] := fun W =>
      Bs.lit [UInt8.ofNat f, UInt8.ofNat n] rfl (by simp [bCells, bV_ofNat _ hf3, bV_ofNat n (by omega)]) (by simp [maxLen])
    have HBS := hI hbs
    clear hs hf hbs hk
    go_enter Try.func64, Try.ntmps64
    go_wp2_with fail
    go_ret
    rw [HR.out]
    exact ⟨_, rfl, HBS.out _, (Below.refl _ _).alloc (Nat.le_refl _) _⟩
  · have hs' : ¬ (n : Int) < 128 := by omega
    have hsf := shortB_few n
    have HR : Hid (headS k t n = [UInt8.ofNat f, UInt8.ofNat (128 + (shortB n).length)] ++ shortB n) := hI (by unfold headS; rw [if_neg hs, ← hf]; rfl)
    have hlen : (128 : Int) + (shortB n).length = ((128 + (shortB n).length : Nat) : Int) := by omega
    have hbs : ∀ W : World, Bs (W.alloc (.cells #[.int .u8 f, .int .u8 (128 + ((shortB n).length : Int))] 5)) (.slice (some ⟨W.heap.size, 0, none⟩) 2 2) [UInt8.ofNat f, UInt8.ofNat (128 + (shortB n).length)] := fun W =>
      Bs.lit [UInt8.ofNat f, UInt8.ofNat (128 + (shortB n).length)] rfl (by rw [hlen]; simp only [bCells, List.map_cons, List.map_nil, bV_ofNat _ hf3, bV_ofNat (128 + (shortB n).length) (by omega)]) (by simp [maxLen])
    have HBS := hI hbs
    clear hs hf hbs hk hlen
    go_enter Try.func64, Try.ntmps64
    go_wp2_with fail
    refine (short_any n w).mono ?_
    rintro e w1 ⟨v1, rfl, hb1, hB1, _⟩
    obtain ⟨a1, c1, rfl, hc1, hm1⟩ := hb1.form
    have HB1 := hI hb1
    have HBW := hI hB1
    have hz1 := hB1.size
    have HRS := hI (Rs.two (T := 27) (g := w1.heap.size + 1) (by simp) (HBS.out w1) (hb1.alloc (.cells #[.int .u8 f, .int .u8 (128 + ((shortB n).length : Int))] 5)))
    unfold maxLen at hm1
    generalize hsb : shortB n = sb at *
    clear hb1 hB1 hsb
    go_wp2_with fail
    refine (joined_any _ _ _ HRS.out (by simp; omega)).mono ?_
    rintro e w2 ⟨v2, rfl, ho2, hb2⟩
    have HO := hI ho2
    have HB2 : Hid (Below w.heap.size w w2) := hI (((HBW.out.alloc hz1 _).alloc (by simp; omega) _).trans (hb2.mono (by simp; omega)))
    clear ho2 hb2
    go_wp2_with fail
    go_ret
    rw [HR.out]
    refine ⟨_, rfl, ?_, HB2.out⟩
    have := HO.out.bs
    simpa using this
def WrRes (w : World) (bs : List UInt8) (e : Ending) (w' : World) : Prop := ∃ v, e = .returned v ∧ OwnBs w' w.heap.size v bs ∧ Below w.heap.size w w'
def BdRes (w : World) (bs : List UInt8) (e : Ending) (w' : World) : Prop := ∃ v, e = .returned v ∧ Bs w' v bs ∧ Below w.heap.size w w'
/-- What is asked of the write of a value. -/
def WrP (x : Tv) : Prop := ∀ (F : Nat → Prop) (cs : List Value) (w : World), TvF w F x cs → OkW x → (writeS x).length ≤ 1073741824 →
  Calls Try.prog 41 #[.agg cs.toArray] w (WrRes w (writeS x))
set_option maxHeartbeats 4000000 in
set_option maxRecDepth 100000 in
theorem derBody_any (x : Tv) (ih : ∀ y ∈ x.l, WrP y) (F : Nat → Prop) (cs : List Value) (w : World) (h : TvF w F x cs) (ok : OkW x) (hlen : (bodyS x).length ≤ 1073741824) :
    Calls Try.prog 62 #[.agg cs.toArray] w (BdRes w (bodyS x)) := by
  obtain ⟨bv, lv, rows, rfl, hb, _, hl, _, hls⟩ := h.open_
  obtain ⟨k, t, n, b, l⟩ := x
  simp only [bodyS, Tv.kind, Tv.tag, Tv.n, Tv.b, Tv.l] at *
  obtain ⟨hk, ht0, ht1, hn, hol⟩ := ok
  obtain ⟨ab, cb, rfl, hcb, hmb⟩ := hb.form
  obtain ⟨al, cl, rfl, hcl, hml⟩ := hl.form
  unfold maxLen at hmb hml
  have HL := hI hl
  have HLS := hI hls
  have HBS := hI hb
  have HIH := hI ih
  have HOL := hI hol
  have HLEN := hI hlen
  clear h hb hl hls ih hol hlen
  rcases hk with rfl | rfl | rfl
  · have HR : Hid (bodyOf 0 n b (writesS l) = shortB n) := hI rfl
    go_enter Try.func62, Try.ntmps62
    go_wp2_with fail
    refine (short_any n _).mono ?_
    rintro e w1 ⟨v1, rfl, hb1, hB1, _⟩
    have HB1 := hI hb1
    have HBW : Hid (Below w.heap.size w w1) := hI (((Below.refl _ _).alloc (Nat.le_refl _) _).trans (hB1.mono (by simp)))
    clear hb1 hB1
    go_wp2_with fail
    go_ret
    rw [HR.out]
    exact ⟨_, rfl, HB1.out, HBW.out⟩
  · have HR : Hid (bodyOf 1 n b (writesS l) = b) := hI rfl
    go_enter Try.func62, Try.ntmps62
    go_wp2_with fail
    go_ret
    rw [HR.out]
    exact ⟨_, rfl, HBS.out.alloc _, (Below.refl _ _).alloc (Nat.le_refl _) _⟩
  · have HR : Hid (bodyOf 2 n b (writesS l) = writesS l) := hI rfl
    have hlen := HLEN.out
    rw [HR.out] at hlen
    have HLEN := hI hlen
    have HBB : Hid (Below w.heap.size w (w.alloc (.cells #[.int .i64 2, .int .i64 t, .int .u64 n, .slice ab b.length cb, .slice al l.length cl] 70))) := hI ((Below.refl _ _).alloc (Nat.le_refl _) _)
    clear hlen
    go_enter Try.func62, Try.ntmps62
    go_wp2_with fail
    go_loopw [3, 20] (fun o i wr => ∃ k : Nat, k ≤ l.length ∧ i = .int .i64 k ∧ OwnBs wr w.heap.size o (writesS (l.take k)) ∧ Below w.heap.size w wr) (fun _ i _ => l.length - (intOf i).toNat)
    case atStart => exact ⟨0, Nat.zero_le _, rfl, Own.nil _ _ _ _ _, HBB.out⟩
    case round =>
      obtain ⟨j, hj, rfl, hown, hB⟩ := hrel
      have HB := hI hB
      have HO := hI hown
      have hzr := hB.size
      by_cases hlt : j < l.length
      · obtain ⟨bl, ol, rfl, _⟩ := HL.out.addr (by rw [HL.out.1]; omega)
        obtain ⟨r, hr, hrc⟩ := HLS.out.cells HL.out j hlt
        have hcr : CellsAt wr bl (ol + j * 5) r := fun i u hi => below_cell hB (hrc i u hi)
        have hst := writesS_take l j hlt
        have hle := writeS_mem_le l j hlt
        have hji : (j : Int) < l.length := by omega
        have hih := HIH.out l[j] (List.getElem_mem hlt)
        have hok := HOL.out.mem l[j] (List.getElem_mem hlt)
        generalize l[j] = y at hr hst hle hih hok
        have hrl := hr.length
        have HR1 := hI hr.one
        have HRL := hI hrl
        have HCR := hI hcr
        have HRT := hI (hr.below hB)
        have HST := hI hst
        have HLE := hI hle
        have HIHy := hI hih
        have HOKy := hI hok
        have HN := hI (Blk.new wr zs5 70)
        clear hr hrc hcr hst hle hrl hB hown hih hok
        go_wp2_with (first | ((with_reducible show wpList _ _ _ (⟨some 23, _, _, _, _, _⟩ :: _) _ _); refine wpList_ldAgg rfl (.tmp 22) aggDer rfl rfl (cs := r) HRL.out HCR.out ?_) | ((with_reducible show wpList _ _ _ (⟨none, .store _ (.tmp 5) (.tmp 23), _, _, _, _⟩ :: _) _ _); refine wpList_stAgg rfl (.tmp 5) (.tmp 23) aggDer rfl rfl (vs := r) rfl HRL.out HN.out (Nat.le_refl _) HR1.out ?_))
        intro w3 h3 k3
        have h3' : Blk w3 wr.heap.size r 70 := by
          rw [List.drop_of_length_le (by decide), List.append_nil] at h3
          exact h3
        have hz3 := k3.size
        simp at hz3
        have hb3 : Below wr.heap.size wr w3 := ((Below.refl _ _).alloc (Nat.le_refl _) _).trans (k3.below (by omega))
        have H3 := hI h3'
        have HB3 : Hid (Below w.heap.size w w3) := hI (HB.out.trans (hb3.mono hzr))
        have HO3 := hI (Own.below HO.out hb3)
        have HCALL := hI (HIHy.out F r w3 (HRT.out.below hb3) HOKy.out (by have := HLEN.out; have := HLE.out; omega))
        clear h3 h3' k3 hb3 HN HRT HCR HO HB
        go_wp2_with ((with_reducible show wpList _ _ _ (⟨some 25, _, _, _, _, _⟩ :: _) _ _); refine wpList_ldAgg rfl (.tmp 5) aggDer rfl rfl (cs := r) HRL.out H3.out.cellsAll ?_)
        refine HCALL.out.mono ?_
        rintro e w4 ⟨v4, rfl, ho4, hb4⟩
        have hz4 := hb4.size
        have HB4 : Hid (Below w.heap.size w w4) := hI (HB3.out.trans (hb4.mono (by omega)))
        have HO4 := hI (Own.below HO3.out hb4)
        have HS4 := hI ho4.sl
        have hl1 := HLE.out
        have hl2 := HLEN.out
        have hle' : (writesS (l.take j)).length + (writeS y).length ≤ 1073741824 := by omega
        clear ho4 hb4 HCALL HO3 HB3 H3 hl1 hl2
        go_wp2_with ((with_reducible show wpList _ _ _ (⟨some 27, _, _, _, _, _⟩ :: _) _ _); refine wpList_app rfl (.tmp 24) (.tmp 26) elBytes rfl w.heap.size HO4.out HS4.out (by unfold maxLen; omega) (by omega) (by omega) ?_)
        intro v5 w5 ho5 hk5 hv5
        have HB5 : Hid (Below w.heap.size w w5) := hI (HB4.out.trans (hk5.below (by rintro b (h | h); exact h.2; omega)))
        have HO5 : Hid (OwnBs w5 w.heap.size v5 (writesS (l.take (j + 1)))) := hI (by
          rw [HST.out]
          unfold OwnBs
          rw [bCells_append, List.length_append]
          exact ho5)
        clear ho5 hk5 hv5 HO4 HS4 HB4
        go_wp2_with fail
        go_roundw
        case rel => exact ⟨j + 1, by omega, by go_num, HO5.out, HB5.out⟩
        case measure => simp [intOf]; omega
      · obtain rfl : j = l.length := by omega
        rw [List.take_length] at hown
        have HO := hI hown
        clear hown
        go_wp2_with fail
        go_ret
        rw [HR.out]
        exact ⟨_, rfl, HO.out.bs, HB.out⟩
set_option maxHeartbeats 4000000 in
set_option maxRecDepth 100000 in
theorem derWrite_any : ∀ x : Tv, WrP x := by
  refine tv_ind (fun k t n b l ih => ?_)
  intro F cs w h ok hlen
  have hw := writeS_eq (.mk k t n b l)
  have hbl : (bodyS (.mk k t n b l)).length ≤ 1073741824 := by rw [hw, List.length_append] at hlen; omega
  have HBODY := hI (derBody_any (.mk k t n b l) ih F cs (w.alloc (.cells cs.toArray 70)) (h.below ((Below.refl _ _).alloc (Nat.le_refl _) _)) ok hbl)
  have hcl := h.length
  have HCL := hI hcl
  have HN := hI (Blk.new w cs 70)
  obtain ⟨bv, lv, rows, hcs, _⟩ := h.open_
  obtain ⟨hk, ht0, ht1, hn, hol⟩ := ok
  have x0 : ∀ W : World, Blk W w.heap.size cs 70 → W.cell? ⟨w.heap.size, 0, none⟩ = some (.int .i64 k) ∧ W.cell? ⟨w.heap.size, 1, none⟩ = some (.int .i64 t) := fun W hW => by
    rw [hW.cell, hW.cell, hcs]
    exact ⟨rfl, rfl⟩
  have HX0 := hI x0
  have HW := hI hw
  have HLEN := hI hlen
  simp only [Tv.kind, Tv.tag] at HW
  generalize bodyS (.mk k t n b l) = bd at HBODY hbl HW
  clear h hol x0 hw hlen ih hcl hcs
  go_enter Try.func41, Try.ntmps41
  go_wp2_with ((with_reducible show wpList _ _ _ (⟨some 4, _, _, _, _, _⟩ :: _) _ _); refine wpList_ldAgg rfl (.tmp 1) aggDer rfl rfl (cs := cs) HCL.out HN.out.cellsAll ?_)
  refine HBODY.out.mono ?_
  rintro e w1 ⟨v1, rfl, hb1, hB1⟩
  have hz1 := hB1.size
  simp at hz1
  obtain ⟨a1, c1, rfl, hc1, hm1⟩ := hb1.form
  obtain ⟨y0, y1⟩ := HX0.out w1 (HN.out.below hB1 (by simp))
  have HB1 := hI hb1
  have HBW : Hid (Below w.heap.size w w1) := hI (((Below.refl _ _).alloc (Nat.le_refl _) _).trans (hB1.mono (by simp)))
  unfold maxLen at hm1
  clear hb1 hB1 HBODY
  go_wp2_with fail
  refine (derHead_any k t bd.length w1 hk ht0 ht1 (by omega)).mono ?_
  rintro e w2 ⟨v2, rfl, hb2, hB2⟩
  have hz2 := hB2.size
  obtain ⟨a2, c2, rfl, hc2, hm2⟩ := hb2.form
  have HRS := hI (Rs.two (T := 27) (g := w2.heap.size) rfl hb2 (HB1.out.below hB2))
  have HBW2 : Hid (Below w.heap.size w w2) := hI (HBW.out.trans (hB2.mono (by omega)))
  have hlen := HLEN.out
  rw [HW.out, List.length_append] at hlen
  generalize headS k t bd.length = hd at *
  clear hb2 hB2 HB1 HBW y0 y1
  go_wp2_with fail
  refine (joined_any _ _ _ HRS.out (by simp; omega)).mono ?_
  rintro e w3 ⟨v3, rfl, ho3, hb3⟩
  have HO : Hid (OwnBs w3 w.heap.size v3 (hd ++ bd)) := hI (by
    have := ho3.base (B' := w.heap.size) (by simp; omega)
    simpa [OwnBs] using this)
  have HB3 : Hid (Below w.heap.size w w3) := hI ((HBW2.out.alloc (by omega) _).trans (hb3.mono (by simp; omega)))
  clear ho3 hb3
  go_wp2_with fail
  go_ret
  rw [HW.out]
  exact ⟨_, rfl, HO.out, HB3.out⟩
mutual
/-- Every number has 64 bits. -/
def Nw : Tv → Prop
  | .mk _ _ n _ l => n < 18446744073709551616 ∧ NsW l
def NsW : List Tv → Prop
  | [] => True
  | x :: l => Nw x ∧ NsW l
end
theorem NsW.mem : ∀ {l : List Tv}, NsW l → ∀ x ∈ l, Nw x
  | [], _, x, hx => by simp at hx
  | y :: l, h, x, hx => by
    rcases List.mem_cons.1 hx with e | hx
    · rw [e]; exact h.1
    · exact h.2.mem x hx
theorem NsW.of : ∀ {l : List Tv}, (∀ x ∈ l, Nw x) → NsW l
  | [], _ => trivial
  | y :: l, h => ⟨h y (by simp), NsW.of (fun x hx => h x (by simp [hx]))⟩
theorem rightS_ok : ∀ (d : Nat) (x : Tv), rightS d x = true → Nw x → OkW x
  | 0, x, h, _ => by simp [rightS] at h
  | d + 1, .mk k t n b l, h, hn => by
    unfold rightS at h
    simp only [Bool.and_eq_true, decide_eq_true_eq] at h
    obtain ⟨⟨h1, h2⟩, h3⟩ := h
    split at h3
    · rename_i hk
      simp only [Bool.and_eq_true, decide_eq_true_eq] at h3
      refine ⟨.inl hk, h1, h2, hn.1, ?_⟩
      rw [List.eq_nil_of_length_eq_zero h3.2]
      trivial
    · split at h3
      · rename_i hk
        simp only [Bool.and_eq_true, decide_eq_true_eq] at h3
        refine ⟨.inr (.inl hk), h1, h2, hn.1, ?_⟩
        rw [List.eq_nil_of_length_eq_zero h3.2]
        trivial
      · split at h3
        · rename_i hk
          simp only [Bool.and_eq_true, decide_eq_true_eq] at h3
          exact ⟨.inr (.inr hk), h1, h2, hn.1, OksW.of (fun x hx => rightS_ok d x (List.all_eq_true.1 h3.1.1 x hx) (hn.2.mem x hx))⟩
        · simp at h3
/-- A value's bytes, and the error's number. -/
def wrS (x : Tv) : List UInt8 × Int := if rightS 8 x = false then ([], 7) else if 4096 < (writeS x).length then ([], 20) else (writeS x, 0)
end Go.Proofs.Ytofmkkcbfeadgaa
namespace Go.Proofs.Ytofmkkcbfeadgaa
set_option linter.unusedSimpArgs false
set_option linter.unusedVariables false
theorem shortR_get : ∀ (n : Nat) (bs : List UInt8) (f : Nat), bs.length = n → 0 < n → n ≤ f → (n = 1 ∨ bs.getD 0 0 ≠ 0) → shortR f (getN bs) = bs ∧ (bs.getD 0 0 ≠ 0 → 1 ≤ getN bs) := by
  intro n
  induction n with
  | zero => intro bs f _ h; omega
  | succ n ih =>
    intro bs f hl _ hf h0
    obtain ⟨init, c, rfl⟩ : ∃ init c, bs = init ++ [c] := by
      have hne : bs ≠ [] := by intro e; subst e; simp at hl
      exact ⟨bs.dropLast, bs.getLast hne, (List.dropLast_concat_getLast hne).symm⟩
    simp only [List.length_append, List.length_cons, List.length_nil] at hl
    obtain ⟨f, rfl⟩ : ∃ g, f = g + 1 := ⟨f - 1, by omega⟩
    rw [getN_snoc]
    have hc := c.toNat_lt
    by_cases hi : init = []
    · subst hi
      have h0' : getN [] = 0 := rfl
      rw [h0', Nat.zero_mul, Nat.zero_add]
      refine ⟨?_, fun h => ?_⟩
      · rw [shortR, if_pos hc]
        simp
      · simp at h
        have : c.toNat ≠ 0 := fun e => h (UInt8.toNat_inj.1 e)
        omega
    · have hip : 0 < init.length := List.length_pos_iff.2 hi
      have hg : (init ++ [c]).getD 0 0 = init.getD 0 0 := by
        rw [List.getD_eq_getElem?_getD, List.getD_eq_getElem?_getD, List.getElem?_append_left hip]
      rw [hg] at h0 ⊢
      have hne : init.getD 0 0 ≠ 0 := by rcases h0 with h | h; omega; exact h
      obtain ⟨h1, h2⟩ := ih init f (by omega) (by omega) (by omega) (.inr hne)
      have h3 := h2 hne
      refine ⟨?_, fun _ => by omega⟩
      rw [shortR, if_neg (by omega), show (getN init * 256 + c.toNat) / 256 = getN init by omega, show (getN init * 256 + c.toNat) % 256 = c.toNat by omega, h1]
      simp
/-- The fewest bytes of a number that bytes are: these, if the first is no nought. -/
theorem short_get (bs : List UInt8) (h0 : 0 < bs.length) (h8 : bs.length ≤ 8) (h : bs.length = 1 ∨ bs.getD 0 0 ≠ 0) : shortB (getN bs) = bs := by
  have hlt := getN_lt bs
  have h256 : getN bs < 256 ^ 8 := Nat.lt_of_lt_of_le hlt (Nat.pow_le_pow_right (by decide) h8)
  rw [shortB_eq _ h256]
  exact (shortR_get bs.length bs 8 rfl h0 h8 h).1
theorem take_two (b : List UInt8) (h : 2 ≤ b.length) : b.take 2 = [b.getD 0 0, b.getD 1 0] := by
  match b, h with
  | x :: y :: l, _ => rfl
theorem byte_eq (c : UInt8) : UInt8.ofNat ((((c.toNat / 64 : Nat) : Int) * 64 + ((c.toNat % 64 : Nat) : Int)).toNat) = c := by
  rw [show (((c.toNat / 64 : Nat) : Int) * 64 + ((c.toNat % 64 : Nat) : Int)).toNat = c.toNat by omega]
  simp
/-- A value's first bytes, read and written. -/
theorem head_of_size {b : List UInt8} {n a : Nat} (h : sizeS b = (n, a, 0)) : headS ((b.getD 0 0).toNat / 64 : Nat) ((b.getD 0 0).toNat % 64 : Nat) n = b.take a := by
  have hok := sizeS_ok h
  have hb2 : 2 ≤ b.length := by omega
  have ht2 := take_two b hb2
  unfold sizeS at h
  rw [if_neg (by omega)] at h
  have hc1 := (b.getD 1 0).toNat_lt
  split at h
  · rename_i hlt
    split at h
    · simp at h
    · simp only [Prod.mk.injEq] at h
      obtain ⟨rfl, rfl, _⟩ := h
      unfold headS
      rw [if_pos hlt, byte_eq, ht2]
      simp
  · rename_i hge
    split at h
    · simp at h
    · rename_i hbad
      split at h
      · simp at h
      · rename_i hlen
        split at h
        · simp at h
        · rename_i hmin
          split at h
          · simp at h
          · simp only [Prod.mk.injEq] at h
            obtain ⟨rfl, rfl, _⟩ := h
            generalize hc : (b.getD 1 0).toNat = c at *
            have hll : ((b.drop 2).take (c - 128)).length = c - 128 := by rw [List.length_take, List.length_drop]; omega
            have hn128 : ¬ getN ((b.drop 2).take (c - 128)) < 128 := fun hh => hmin (.inl hh)
            have hsh : shortB (getN ((b.drop 2).take (c - 128))) = (b.drop 2).take (c - 128) := by
              refine short_get _ (by omega) (by omega) ?_
              rw [hll]
              rcases (by omega : c = 129 ∨ c = 130) with rfl | rfl
              · exact .inl rfl
              · refine .inr fun e => hmin (.inr ⟨rfl, ?_⟩)
                match hm : (b.drop 2).take (130 - 128), hll with
                | [x, y], _ =>
                  rw [hm] at e
                  have hx : x = 0 := by simpa using e
                  subst hx
                  have hy := y.toNat_lt
                  simp [getN]
                  omega
            unfold headS
            have e1 : UInt8.ofNat c = b.getD 1 0 := by rw [← hc]; simp
            rw [if_neg hn128, byte_eq, hsh, hll, show 128 + (c - 128) = c by omega, e1, show c - 126 = 2 + (c - 128) by omega, List.take_add, ht2]
            simp only [List.cons_append, List.nil_append]
theorem rightS_num (d T n : Nat) (h : T ≤ 30) : rightS (d + 1) (.mk 0 (T : Nat) n [] []) = true := by
  simp [rightS]
  omega
theorem rightS_raw (d T : Nat) (b : List UInt8) (h : T ≤ 30) : rightS (d + 1) (.mk 1 (T : Nat) 0 b []) = true := by
  simp [rightS]
  omega
theorem rightS_seq (d T : Nat) (l : List Tv) (h : T ≤ 30) (hl : l.all (rightS d) = true) : rightS (d + 1) (.mk 2 (T : Nat) 0 [] l) = true := by
  rw [rightS, hl]
  simp
  omega
/-- What a reader of values owes to its writer. -/
def Back (d : Nat) (b : List UInt8) : Prop := ∀ x n, readS d b = (x, n, 0) → writeS x = b.take n ∧ rightS d x = true ∧ Nw x ∧ Lw x
theorem listS_back {d : Nat} (hd : ∀ b : List UInt8, b.length ≤ 1048576 → Back d b) : ∀ (f : Nat) (b : List UInt8) (l : List Tv), b.length ≤ f → b.length ≤ 1048576 → listS (readS d) f b = (l, 0) →
    writesS l = b ∧ (∀ x ∈ l, rightS d x = true ∧ Nw x ∧ Lw x) ∧ l.length ≤ b.length
  | f, [], l, _, _, h => by
    rw [listS_nil] at h
    simp only [Prod.mk.injEq, and_true] at h
    subst h
    exact ⟨rfl, by simp, by simp⟩
  | 0, c :: b, l, hf, _, _ => by simp at hf
  | f + 1, c :: b, l, hf, hb, h => by
    obtain ⟨x, k, e, hr⟩ : ∃ x k e, readS d (c :: b) = (x, k, e) := ⟨_, _, _, rfl⟩
    by_cases he : e = 0
    · subst he
      have hk := readS_takes d _ _ _ hr
      rw [listS_ok (by simp) hr] at h
      obtain ⟨l', e', hl'⟩ : ∃ l' e', listS (readS d) f ((c :: b).drop k) = (l', e') := ⟨_, _, rfl⟩
      rw [hl'] at h
      simp only [Prod.mk.injEq] at h
      obtain ⟨rfl, rfl⟩ := h
      obtain ⟨h1, h2, h3⟩ := listS_back hd f _ _ (by rw [List.length_drop]; simp at hf hk ⊢; omega) (by rw [List.length_drop]; omega) hl'
      obtain ⟨g1, g2⟩ := hd _ hb _ _ hr
      refine ⟨by rw [writesS, g1, h1, List.take_append_drop], fun y hy => ?_, by rw [List.length_drop] at h3; simp at hk h3 ⊢; omega⟩
      rcases List.mem_cons.1 hy with e | hy
      · rw [e]; exact g2
      · exact h2 y hy
    · rw [listS_bad (by simp) hr he] at h
      simp only [Prod.mk.injEq] at h
      exact absurd h.2 he
theorem readS_back : ∀ (d : Nat) (b : List UInt8), b.length ≤ 1048576 → Back d b
  | 0, b, _ => fun x n h => by simp [readS] at h
  | d + 1, b, hb => by
    intro x n h
    obtain ⟨m, a, e, hs⟩ : ∃ m a e, sizeS b = (m, a, e) := ⟨_, _, _, rfl⟩
    rw [readS, hs] at h
    simp only at h
    split at h
    · rename_i he
      simp only [Prod.mk.injEq] at h
      exact absurd h.2.2 he
    · rename_i he
      have he0 : e = 0 := by simpa using he
      subst he0
      have hok := sizeS_ok hs
      have hhead := head_of_size hs
      have hml : ((b.drop a).take m).length = m := by rw [List.length_take, List.length_drop]; omega
      have htake : b.take (a + m) = b.take a ++ (b.drop a).take m := List.take_add
      have hlt := (b.getD 0 0).toNat_lt
      split at h
      · simp at h
      · rename_i hkt
        split at h
        · rename_i hk0
          split at h
          · simp at h
          · rename_i hgood
            simp only [Prod.mk.injEq] at h
            obtain ⟨rfl, rfl, _⟩ := h
            rw [hk0] at hhead
            have hgb : ¬ (((b.drop a).take m).length = 0 ∨ 8 < ((b.drop a).take m).length) := by
              intro hg
              exact hgood (.inl (by unfold getB; rw [if_pos hg]))
            have hg : getB ((b.drop a).take m) = (getN ((b.drop a).take m), true) := by unfold getB; rw [if_neg hgb]
            have hsh : shortB (getN ((b.drop a).take m)) = (b.drop a).take m := by
              refine short_get _ (by omega) (by omega) ?_
              by_cases hm1 : m = 1
              · exact .inl (by omega)
              · refine .inr fun e => hgood (.inr ⟨by omega, ?_⟩)
                have e2 : ((b.drop a).take m).getD 0 0 = (b.drop a).getD 0 0 := by rw [List.getD_eq_getElem?_getD, List.getD_eq_getElem?_getD, List.getElem?_take, if_pos (by omega)]
                rw [e2] at e
                exact e
            have hlt8 : getN ((b.drop a).take m) < 18446744073709551616 := Nat.lt_of_lt_of_le (getN_lt _) (Nat.le_trans (Nat.pow_le_pow_right (by decide) (show ((b.drop a).take m).length ≤ 8 by omega)) (by decide))
            rw [hg]
            refine ⟨?_, ?_, ⟨hlt8, trivial⟩, ⟨by simp, trivial⟩⟩
            · rw [writeS, bodyOf, if_pos rfl, hsh, hml, htake]
              simp only [Int.natCast_zero] at hhead
              rw [hhead]
            · exact rightS_num d _ _ (by omega)
        · rename_i hk0
          split at h
          · rename_i hk1
            simp only [Prod.mk.injEq] at h
            obtain ⟨rfl, rfl, _⟩ := h
            rw [hk1] at hhead
            refine ⟨?_, ?_, ⟨by decide, trivial⟩, ⟨by simp, trivial⟩⟩
            · rw [writeS, bodyOf, if_neg (by decide), if_pos rfl, hml, htake]
              simp only [Int.natCast_one] at hhead
              rw [hhead]
            · exact rightS_raw d _ _ (by omega)
          · rename_i hk1
            obtain ⟨l, e, hl⟩ : ∃ l e, listS (readS d) m ((b.drop a).take m) = (l, e) := ⟨_, _, rfl⟩
            rw [hl] at h
            simp only at h
            split at h
            · rename_i he2
              subst he2
              simp only [Prod.mk.injEq] at h
              obtain ⟨rfl, rfl, _⟩ := h
              have hk2 : (b.getD 0 0).toNat / 64 = 2 := by omega
              rw [hk2] at hhead
              obtain ⟨g1, g2, g3⟩ := listS_back (fun b' hb' => readS_back d b' hb') m _ l (by omega) (by omega) hl
              refine ⟨?_, ?_, ⟨by decide, NsW.of (fun x hx => (g2 x hx).2.1)⟩, ⟨by omega, LsW.of (fun x hx => (g2 x hx).2.2)⟩⟩
              · rw [writeS, bodyOf, if_neg (by decide), if_neg (by decide), g1, hml, htake]
                have : ((2 : Nat) : Int) = 2 := rfl
                rw [this] at hhead
                rw [hhead]
              · exact rightS_seq d _ _ (by omega) (List.all_eq_true.2 (fun x hx => (g2 x hx).1))
            · rename_i he2
              simp only [Prod.mk.injEq] at h
              exact absurd h.2.2 he2
/-- What is read is written as the same bytes. -/
theorem wholeS_back {b : List UInt8} {x : Tv} (h : wholeS b = (x, 0)) : wrS x = (b, 0) ∧ Nw x ∧ Lw x ∧ rightS 8 x = true ∧ writeS x = b := by
  unfold wholeS at h
  split at h
  · simp at h
  · rename_i hl
    obtain ⟨v, n, e, hr⟩ : ∃ v n e, readS 8 b = (v, n, e) := ⟨_, _, _, rfl⟩
    rw [hr] at h
    simp only at h
    split at h
    · rename_i he
      simp only [Prod.mk.injEq] at h
      exact absurd h.2 he
    · rename_i he
      have he0 : e = 0 := by simpa using he
      subst he0
      split at h
      · simp at h
      · rename_i hn
        simp only [Prod.mk.injEq, and_true] at h
        subst h
        obtain ⟨h1, h2, h3, h4⟩ := readS_back 8 b (by omega) _ _ hr
        have hw : writeS v = b := by rw [h1, List.take_of_length_le (by omega)]
        refine ⟨?_, h3, h4, h2, hw⟩
        unfold wrS
        rw [if_neg (by rw [h2]; decide), hw, if_neg (by omega)]
end Go.Proofs.Ytofmkkcbfeadgaa
/- Contracts of der: Num, Raw, Seq; the law's alive. -/
namespace Go.Proofs.Ytofmkkcbfeadgaa
set_option linter.unusedSimpArgs false
set_option linter.unusedVariables false
open Go.RowKit
set_option maxRecDepth 100000 in
theorem derNum_any (n : Nat) (w : World) : Calls Try.prog 54 #[.int .u64 n] w fun e w' => e = .returned (.agg #[.int .i64 0, .int .i64 0, .int .u64 n, .slice none 0 0, .slice none 0 0]) ∧ Below w.heap.size w w' := by
  go_enter Try.func54, Try.ntmps54
  go_wp2_with fail
  have hb := Blk.new w [.int .i64 0, .int .i64 0, .int .u64 n, .slice none 0 0, .slice none 0 0] 70
  exact bodyPost_ret (results_agg rfl aggDer rfl (cs := [.int .i64 0, .int .i64 0, .int .u64 n, .slice none 0 0, .slice none 0 0]) rfl hb.cellsAll) rfl ⟨rfl, (Below.refl _ _).alloc (Nat.le_refl _) _⟩
set_option maxRecDepth 100000 in
theorem derSeq_any (t : Int) (lv : Value) (n c : Nat) (a : Option Addr) (hlv : lv = .slice a n c) (w : World) : Calls Try.prog 32 #[.int .i64 t, lv] w fun e w' => e = .returned (.agg #[.int .i64 2, .int .i64 t, .int .u64 0, .slice none 0 0, lv]) ∧ Below w.heap.size w w' := by
  subst hlv
  go_enter Try.func32, Try.ntmps32
  go_wp2_with fail
  have hb := Blk.new w [.int .i64 2, .int .i64 t, .int .u64 0, .slice none 0 0, .slice a n c] 70
  exact bodyPost_ret (results_agg rfl aggDer rfl (cs := [.int .i64 2, .int .i64 t, .int .u64 0, .slice none 0 0, .slice a n c]) rfl hb.cellsAll) rfl ⟨rfl, (Below.refl _ _).alloc (Nat.le_refl _) _⟩
end Go.Proofs.Ytofmkkcbfeadgaa
namespace Go.Proofs.Ytofmkkcbfeadgaa
set_option linter.unusedSimpArgs false
set_option linter.unusedVariables false
open Go.RowKit
/-- The rest of a row behind its first elements. -/
theorem Sl.tailZ {w : World} {sz b o n cap : Nat} {cs : List Value} (h : Sl w sz (.slice (some ⟨b, o, none⟩) n cap) n cs) (i : Nat) (hi : i ≤ n) :
    Sl w sz (.slice (cutZ b o cap i sz) (n - i) (cap - i)) (n - i) (cs.drop (i * sz)) := by
  obtain ⟨a, c, e, h3, h4⟩ := h.form
  have hl := h.1
  simp only [Value.slice.injEq, true_and] at e
  obtain ⟨rfl, rfl⟩ := e
  unfold cutZ
  split
  · rename_i hc
    have hn : n - i = 0 := by omega
    rw [hn, show cap - i = 0 by omega, List.drop_of_length_le (by rw [hl]; exact Nat.mul_le_mul_right _ (by omega))]
    exact Sl.nil _ _ _
  · have := h.sub i (n - i) (cap - i) (by omega) (by omega) (by omega)
    rw [List.take_of_length_le (by rw [List.length_drop, hl, Nat.sub_mul]; exact Nat.le_refl _)] at this
    exact this
theorem wpList_val {P : Program} {ops : Array Oper} {rest : List Oper} {o : Oper} {a : Act} {w : World} {Q : Exit → Act → World → Prop} (hgd : Region.wanted o (yielded ops a.tmps) = true) {v : Value}
    (hr : (execOp a.eval o).run P w = .ok (.value v) w) (h : wpList P ops Q rest (a.put o.dst v) w) : wpList P ops Q (o :: rest) a w := by
  refine wpList_want hgd fun K hK => ?_
  unfold Oper.wp
  rw [hr]
  exact hK _ _ h
theorem exec_sliceL {P : Program} {o : Oper} {a : Act} {W : World} {t : TypeId} {x : Operand} {lo hi mx : Option Operand} (ho : o.op = .slice t x lo hi mx) {v : Value} (hr : (Instr.sliceAt t (a.eval x) (lo.map a.eval) (hi.map a.eval) (mx.map a.eval)).run P W = .ok v W) :
    (execOp a.eval o).run P W = .ok (.value v) W := by
  unfold execOp
  simp only [ho, Sem.run_bind, Sem.run_pure, hr, Result.andThen_ok]
theorem szDer : ∀ w, (sizeOf 70).run Try.prog w = .ok 5 w := by
  intro w
  obtain ⟨_, i, hi, _, hs, _⟩ := elDer
  simp [sizeOf, typeInfo, hi, hs]
/-- A taker at block p: the values that are left, and whether something was wrong. F: the blocks of the values. -/
def Tk (w : World) (F : Nat → Prop) (p : Nat) (rem : List Tv) (bad : Bool) : Prop :=
  ∃ lv rows, Blk w p [lv, .bool bad] 154 ∧ Sl w 5 lv rem.length rows ∧ (0 < rem.length → ∀ x, lv.ownBlock = some x → F x) ∧ TvsF w F rem rows ∧ ¬ F p
theorem Tk.lt {w : World} {F : Nat → Prop} {p : Nat} {rem : List Tv} {bad : Bool} (h : Tk w F p rem bad) : p < w.heap.size := by
  obtain ⟨lv, rows, h1, _⟩ := h
  exact h1.lt
theorem Tk.below {w w' : World} {F : Nat → Prop} {p : Nat} {rem : List Tv} {bad : Bool} (h : Tk w F p rem bad) (hb : Below w.heap.size w w') : Tk w' F p rem bad := by
  obtain ⟨lv, rows, h1, h2, h3, h4, h5⟩ := h
  exact ⟨lv, rows, h1.below hb h1.lt, h2.below hb, h3, h4.below hb, h5⟩
theorem Tk.keep {w w' : World} {F S : Nat → Prop} {p : Nat} {rem : List Tv} {bad : Bool} (h : Tk w F p rem bad) (hk : Keeps S w w') (hs : ∀ b, F b → b < w.heap.size → ¬ S b) (hp : ¬ S p) : Tk w' F p rem bad := by
  obtain ⟨lv, rows, h1, h2, h3, h4, h5⟩ := h
  exact ⟨lv, rows, h1.keep hk hp, h2.keepF hk h3 hs, h3, h4.keep hk hs, h5⟩
/-- The next part, of a kind, without a tag. -/
def nextS (k : Int) (rem : List Tv) (bad : Bool) : Tv × List Tv × Bool :=
  match rem with
  | [] => (.zero, [], true)
  | x :: r => if x.kind = k ∧ x.tag = 0 then (x, r, bad) else (.zero, [], true)
/-- The next part, a list with a tag. -/
def partS (t : Int) (rem : List Tv) (bad : Bool) : Tv × List Tv × Bool :=
  match rem with
  | [] => (.zero, [], true)
  | x :: r => if x.kind = 2 ∧ x.tag = t then (x, r, bad) else (.zero, [], true)
/-- What a taker's step leaves: only its own block is other than before. -/
def NxRes (w : World) (F : Nat → Prop) (p : Nat) (r : Tv × List Tv × Bool) (e : Ending) (w' : World) : Prop :=
  ∃ cs, e = .returned (.agg cs.toArray) ∧ TvF w' F r.1 cs ∧ Tk w' F p r.2.1 r.2.2 ∧ Keeps (fun b => b = p ∨ w.heap.size ≤ b) w w'
set_option maxHeartbeats 4000000 in
set_option maxRecDepth 100000 in
theorem take_any (x : Tv) (F : Nat → Prop) (cs : List Value) (w : World) (h : TvF w F x cs) (hF : ∀ b, F b → b < w.heap.size) :
    Calls Try.prog 43 #[.agg cs.toArray] w fun e w' => ∃ p, e = .returned (.pointer (some ⟨p, 0, none⟩)) ∧ Tk w' F p x.l false ∧ Below w.heap.size w w' ∧ w.heap.size ≤ p := by
  obtain ⟨bv, lv, rows, rfl, h1, h2, h3, h4, h5⟩ := h.open_
  obtain ⟨a, c, rfl, hc, hm⟩ := h3.form
  obtain ⟨a1, c1, rfl, hc1, hm1⟩ := h1.form
  have H3 := hI h3
  have H4 := hI h4
  have H5 := hI h5
  clear h h1 h2 h3 h4 h5
  go_enter Try.func43, Try.ntmps43
  go_wp2_with fail
  go_ret
  have hb : Below w.heap.size w ((w.alloc (.cells [.int .i64 x.kind, .int .i64 x.tag, .int .u64 (x.n : Int), .slice a1 x.b.length c1, .slice a x.l.length c].toArray 70)).alloc (.cells [.slice a x.l.length c, .bool false].toArray 154)) :=
    ((Below.refl _ _).alloc (Nat.le_refl _) _).alloc (by simp) _
  refine ⟨w.heap.size + 1, rfl, ⟨_, rows, Blk.at_ (by simp), H3.out.below hb, H4.out, H5.out.below hb, fun h => ?_⟩, hb, by omega⟩
  have := hF _ h
  omega
set_option maxHeartbeats 4000000 in
set_option maxRecDepth 100000 in
theorem next_any (k : Int) (rem : List Tv) (bad : Bool) (p : Nat) (F : Nat → Prop) (w : World) (h : Tk w F p rem bad) :
    Calls Try.prog 67 #[.pointer (some ⟨p, 0, none⟩), .int .i64 k] w (NxRes w F p (nextS k rem bad)) := by
  obtain ⟨lv, rows, h1, h2, h3, h4, h5⟩ := h
  obtain ⟨a, cap, rfl, hcap, hm⟩ := h2.form
  unfold maxLen at hm
  have hpl := h1.lt
  obtain ⟨W0, hW0⟩ : ∃ W0, W0 = w.alloc (.cells zs5.toArray 70) := ⟨_, rfl⟩
  obtain ⟨q, hq⟩ : ∃ q, q = w.heap.size := ⟨_, rfl⟩
  have hn0 : Blk W0 q zs5 70 := by rw [hW0, hq]; exact Blk.new _ _ _
  have HQS := hI hq
  have hqp : q ≠ p := by omega
  have HPQ : Hid (p ≠ q) := hI (by omega)
  have hend : ∀ W : World, Keeps (fun b => b = p ∨ w.heap.size ≤ b) w W → Blk W p [.slice none 0 0, .bool true] 154 → Tk W F p [] true :=
    fun W hk hb => ⟨_, [], hb, Sl.nil _ _ _, by simp, rfl, h5⟩
  have HEND := hI hend
  have HK0 : Hid (Keeps (fun b => b = p ∨ w.heap.size ≤ b) w W0) := hI (by rw [hW0]; exact (Keeps.refl _ _).alloc _ (.inr (Nat.le_refl _)))
  have hB0 : Below w.heap.size w W0 := by rw [hW0]; exact (Below.refl _ _).alloc (Nat.le_refl _) _
  replace h1 := h1.below hB0 hpl
  have c0 := h1.cell 0
  have f0 := h1.frozen 0
  have f1 := h1.frozen 1
  have c1 : W0.cell? ⟨p, 1, none⟩ = some (.bool bad) := h1.cell 1
  simp only [List.getElem?_cons_zero] at c0
  have H2 := hI (h2.below hB0)
  have H3 := hI h3
  have H4 := hI h4
  have H2w := hI h2
  have H5 := hI h5
  clear hend h3 h5 h4 h2
  cases rem with
  | nil =>
    have HR : Hid (nextS k [] bad = (.zero, [], true)) := hI rfl
    simp only [List.length_nil] at *
    obtain ⟨W2, hW2⟩ : ∃ W2, W2 = (W0.setCell ⟨p, 1, none⟩ (.bool true)).setCell ⟨p, 0, none⟩ (.slice none 0 0) := ⟨_, rfl⟩
    have HP2 : Hid (Blk W2 p [.slice none 0 0, .bool true] 154) := hI (by rw [hW2]; exact (h1.set 1 (.bool true)).set 0 (.slice none 0 0))
    have HQ2 : Hid (Blk W2 q zs5 70) := hI (by rw [hW2]; exact (hn0.set_other (p := ⟨p, 1, none⟩) hqp _).set_other (p := ⟨p, 0, none⟩) hqp _)
    have HK2 : Hid (Keeps (fun b => b = p ∨ w.heap.size ≤ b) w W2) := hI (by rw [hW2]; exact (HK0.out.setCell (p := ⟨p, 1, none⟩) (.inl rfl) _).setCell (p := ⟨p, 0, none⟩) (.inl rfl) _)
    clear h1 hn0
    go_enter Try.func67, Try.ntmps67
    go_upto_region 1 with fail
    show Code.wp _ _ _ _ (w.alloc (.cells zs5.toArray 70))
    rw [← hW0, ← hq]
    clear hW0 hq
    go_upto_region 3 with fail
    show Code.wp _ _ _ _ ((W0.setCell ⟨p, 1, none⟩ (.bool true)).setCell ⟨p, 0, none⟩ (.slice none 0 0))
    rw [← hW2]
    clear hW2
    go_wp2_with ((with_reducible show wpList _ _ _ (⟨none, .store _ (.tmp 4) (.tmp 39), _, _, _, _⟩ :: _) _ _); refine wpList_stAgg rfl (.tmp 4) (.tmp 39) aggDer rfl rfl (vs := zs5) rfl rfl HQ2.out (Nat.le_refl _) (by intro u hu; simp [zs5] at hu; rcases hu with rfl | rfl | rfl <;> rfl) ?_)
    intro w3 h3 k3
    have H3' : Hid (Blk w3 q zs5 70) := hI (by simpa [zs5] using h3)
    have HK3 : Hid (Keeps (fun b => b = p ∨ w.heap.size ≤ b) w w3) := hI (HK2.out.trans (k3.mono (fun b hb => .inr (by rw [hb, HQS.out]; exact Nat.le_refl _))))
    have HP3 := hI (HP2.out.keep k3 HPQ.out)
    clear h3 k3
    go_wp2_with fail
    rw [HR.out]
    exact bodyPost_ret (results_agg rfl aggDer rfl (cs := zs5) rfl H3'.out.cellsAll) rfl ⟨_, rfl, TvF.zero _ _, HEND.out w3 HK3.out HP3.out, HK3.out⟩
  | cons x r =>
    obtain ⟨r0, rs, e, hx, hr⟩ := H4.out
    subst e
    have hlen : ((x :: r).length : Int) = (r.length : Int) + 1 := by simp
    have hln : (x :: r).length = r.length + 1 := rfl
    obtain ⟨bv, lv2, rows2, e, hb1, hb2, hb3, hb4, hb5⟩ := hx.open_
    obtain ⟨b, off, rfl, hc⟩ := H2.out.addr (by rw [H2.out.1, hln]; omega)
    have cK := hc 0 (.int .i64 x.kind) (by simp [e])
    have cT := hc 1 (.int .i64 x.tag) (by simp [e])
    have hC5 : CellsAt W0 b off r0 := fun j u hj => hc j u (by rw [List.getElem?_append_left (List.getElem?_eq_some_iff.1 hj).1]; exact hj)
    have HC5 := hI hC5
    have HL5 := hI hx.length
    have HX := hI hx
    have HRS := hI hr
    have HB3 := hI (H3.out (by simp) b rfl)
    simp only [Nat.add_zero] at cK
    have hlz : ((((x :: r).length : Nat) : Int) == 0) = false := by simp; omega
    have hlp : 0 < (x :: r).length := by simp
    clear hc hC5 hx hr e hb1 hb2 hb3 hb4 hb5
    by_cases hk : x.kind = k
    · by_cases ht : x.tag = 0
      · have HR : Hid (nextS k (x :: r) bad = (x, r, bad)) := hI (by unfold nextS; exact if_pos ⟨hk, ht⟩)
        rw [hk] at cK
        rw [ht] at cT
        obtain ⟨q1, hq1⟩ : ∃ q1, q1 = W0.heap.size := ⟨_, rfl⟩
        have HG : Hid (Blk (W0.alloc (.cells zs5.toArray 70)) W0.heap.size zs5 70) := hI (Blk.new _ _ _)
        have HK1 : Hid (Keeps (fun b => b = p ∨ w.heap.size ≤ b) w (W0.alloc (.cells zs5.toArray 70))) := hI (HK0.out.alloc _ (.inr hB0.size))
        have HP1 : Hid (Blk (W0.alloc (.cells zs5.toArray 70)) p [.slice (some ⟨b, off, none⟩) (x :: r).length cap, .bool bad] 154) := hI (h1.alloc _)
        have HQ1 : Hid (Blk (W0.alloc (.cells zs5.toArray 70)) q zs5 70) := hI (hn0.alloc _)
        have hqlt := hn0.lt
        have HNE : Hid (p ≠ W0.heap.size ∧ q ≠ W0.heap.size ∧ w.heap.size ≤ W0.heap.size) := hI ⟨by have := h1.lt; omega, by omega, hB0.size⟩
        have HON := hI HX.out.one
        have HSL : Hid (∀ W, (Instr.sliceAt 68 (.slice (some ⟨b, off, none⟩) (r.length + 1) cap) (some (.int .i64 1)) none none).run Try.prog W = .ok (.slice (cutZ b off cap 1 5) r.length (cap - 1)) W) := hI (fun W => run_sliceZ Try.underlying68 szDer b off (r.length + 1) cap 1 (by omega) (by simpa using hcap) W)
        have HSR : Hid (Sl w 5 (.slice (cutZ b off cap 1 5) r.length (cap - 1)) r.length rs) := hI (by
          have h := H2w.out.tailZ 1 (by simp)
          rw [Nat.one_mul, List.drop_append_of_le_length (by rw [HL5.out]; exact Nat.le_refl _), List.drop_of_length_le (by rw [HL5.out]; exact Nat.le_refl _), List.nil_append] at h
          exact h)
        have hFR : 0 < r.length → ∀ y, (Value.slice (cutZ b off cap 1 5) r.length (cap - 1)).ownBlock = some y → F y := fun _ y hy => by
          have : b = y := by
            unfold cutZ at hy
            split at hy <;> simpa [Value.ownBlock] using hy
          rw [← this]; exact HB3.out
        have HFR := hI hFR
        have hBF : F b := HB3.out
        have hbp : b ≠ p := fun e => H5.out (by rw [← e]; exact hBF)
        rw [show (x :: r).length = r.length + 1 from rfl] at c0
        clear hcap hn0 h1 hlz hlen hln hFR hlp hqlt
        go_enter Try.func67, Try.ntmps67
        go_upto_region 1 with fail
        show Code.wp _ _ _ _ (w.alloc (.cells zs5.toArray 70))
        rw [← hW0, ← hq]
        clear hW0 hq
        go_wp2_with (first | ((with_reducible show wpList _ _ _ (⟨some 45, _, _, _, _, _⟩ :: _) _ _); refine wpList_ldAgg rfl (.tmp 44) aggDer rfl rfl (cs := r0) HL5.out HC5.out ?_) | ((with_reducible show wpList _ _ _ (⟨none, .store _ (.tmp 5) (.tmp 45), _, _, _, _⟩ :: _) _ _); refine wpList_stAgg rfl (.tmp 5) (.tmp 45) aggDer rfl rfl (vs := r0) rfl HL5.out HG.out (Nat.le_refl _) HON.out ?_))
        intro w4 h4 k4
        have H4' : Hid (Blk w4 W0.heap.size r0 70) := hI (by simpa [zs5] using h4)
        have HK4 : Hid (Keeps (fun b => b = p ∨ w.heap.size ≤ b) w w4) := hI (HK1.out.trans (k4.mono (fun b hb => .inr (by rw [hb]; exact HNE.out.2.2))))
        have hp4 := HP1.out.keep k4 HNE.out.1
        have HQ4 := hI (HQ1.out.keep k4 HNE.out.2.1)
        have c40 : w4.cell? ⟨p, 0, none⟩ = some (.slice (some ⟨b, off, none⟩) (r.length + 1) cap) := hp4.cell 0
        have f40 := hp4.frozen 0
        obtain ⟨W5, hW5⟩ : ∃ W5, W5 = w4.setCell ⟨p, 0, none⟩ (.slice (cutZ b off cap 1 5) r.length (cap - 1)) := ⟨_, rfl⟩
        have HP5 : Hid (Blk W5 p [.slice (cutZ b off cap 1 5) r.length (cap - 1), .bool bad] 154) := hI (by rw [hW5]; exact hp4.set 0 _)
        have HK5 : Hid (Keeps (fun b => b = p ∨ w.heap.size ≤ b) w W5) := hI (by rw [hW5]; exact HK4.out.setCell (p := ⟨p, 0, none⟩) (.inl rfl) _)
        have HQ5 : Hid (Blk W5 q zs5 70) := hI (by rw [hW5]; exact HQ4.out.set_other (p := ⟨p, 0, none⟩) hqp _)
        have HV5 : Hid (Blk W5 W0.heap.size r0 70) := hI (by rw [hW5]; exact H4'.out.set_other (p := ⟨p, 0, none⟩) (fun e => HNE.out.1 e.symm) _)
        clear h4 k4 hp4
        rw [← hq1] at *
        go_upto_region 6 with ((with_reducible show wpList _ _ _ (⟨some 51, _, _, _, _, _⟩ :: _) _ _); refine wpList_val rfl (exec_sliceL rfl (HSL.out _)) ?_)
        show Code.wp _ _ _ _ (w4.setCell ⟨p, 0, none⟩ (.slice (cutZ b off cap 1 5) r.length (cap - 1)))
        rw [← hW5]
        clear hW5
        go_wp2_with (first | ((with_reducible show wpList _ _ _ (⟨some 54, _, _, _, _, _⟩ :: _) _ _); refine wpList_ldAgg rfl (.tmp 5) aggDer rfl rfl (cs := r0) HL5.out HV5.out.cellsAll ?_) | ((with_reducible show wpList _ _ _ (⟨none, .store _ (.tmp 4) (.tmp 54), _, _, _, _⟩ :: _) _ _); refine wpList_stAgg rfl (.tmp 4) (.tmp 54) aggDer rfl rfl (vs := r0) rfl HL5.out HQ5.out (Nat.le_refl _) HON.out ?_))
        intro w6 h6 k6
        have H6 : Hid (Blk w6 q r0 70) := hI (by simpa [zs5] using h6)
        have HK6 : Hid (Keeps (fun b => b = p ∨ w.heap.size ≤ b) w w6) := hI (HK5.out.trans (k6.mono (fun b hb => .inr (by rw [hb, HQS.out]; exact Nat.le_refl _))))
        have HP6 := hI (HP5.out.keep k6 HPQ.out)
        clear h6 k6
        go_wp2_with fail
        rw [HR.out]
        have hs : ∀ y, F y → y < w.heap.size → ¬ (y = p ∨ w.heap.size ≤ y) := fun y hy hl h => by
          rcases h with h | h
          · exact H5.out (by rw [← h]; exact hy)
          · omega
        exact bodyPost_ret (results_agg rfl aggDer rfl (cs := r0) HL5.out H6.out.cellsAll) rfl ⟨r0, rfl, HX.out.keep HK6.out hs, ⟨_, rs, HP6.out, HSR.out.keepF HK6.out HFR.out hs, HFR.out, HRS.out.keep HK6.out hs, H5.out⟩, HK6.out⟩
      · have HR : Hid (nextS k (x :: r) bad = (.zero, [], true)) := hI (by unfold nextS; exact if_neg (fun h => ht h.2))
        have htb : (x.tag != 0) = true := by simpa using ht
        rw [hk] at cK
        generalize x.tag = xt at *
        generalize (x :: r).length = N at *
        clear hlen hln ht
        obtain ⟨W2, hW2⟩ : ∃ W2, W2 = (W0.setCell ⟨p, 1, none⟩ (.bool true)).setCell ⟨p, 0, none⟩ (.slice none 0 0) := ⟨_, rfl⟩
        have HP2 : Hid (Blk W2 p [.slice none 0 0, .bool true] 154) := hI (by rw [hW2]; exact (h1.set 1 (.bool true)).set 0 (.slice none 0 0))
        have HQ2 : Hid (Blk W2 q zs5 70) := hI (by rw [hW2]; exact (hn0.set_other (p := ⟨p, 1, none⟩) hqp _).set_other (p := ⟨p, 0, none⟩) hqp _)
        have HK2 : Hid (Keeps (fun b => b = p ∨ w.heap.size ≤ b) w W2) := hI (by rw [hW2]; exact (HK0.out.setCell (p := ⟨p, 1, none⟩) (.inl rfl) _).setCell (p := ⟨p, 0, none⟩) (.inl rfl) _)
        clear h1 hn0
        go_enter Try.func67, Try.ntmps67
        go_upto_region 1 with fail
        show Code.wp _ _ _ _ (w.alloc (.cells zs5.toArray 70))
        rw [← hW0, ← hq]
        clear hW0 hq
        go_upto_region 3 with fail
        show Code.wp _ _ _ _ ((W0.setCell ⟨p, 1, none⟩ (.bool true)).setCell ⟨p, 0, none⟩ (.slice none 0 0))
        rw [← hW2]
        clear hW2
        go_wp2_with ((with_reducible show wpList _ _ _ (⟨none, .store _ (.tmp 4) (.tmp 39), _, _, _, _⟩ :: _) _ _); refine wpList_stAgg rfl (.tmp 4) (.tmp 39) aggDer rfl rfl (vs := zs5) rfl rfl HQ2.out (Nat.le_refl _) (by intro u hu; simp [zs5] at hu; rcases hu with rfl | rfl | rfl <;> rfl) ?_)
        intro w3 h3 k3
        have H3' : Hid (Blk w3 q zs5 70) := hI (by simpa [zs5] using h3)
        have HK3 : Hid (Keeps (fun b => b = p ∨ w.heap.size ≤ b) w w3) := hI (HK2.out.trans (k3.mono (fun b hb => .inr (by rw [hb, HQS.out]; exact Nat.le_refl _))))
        have HP3 := hI (HP2.out.keep k3 HPQ.out)
        clear h3 k3
        go_wp2_with fail
        rw [HR.out]
        exact bodyPost_ret (results_agg rfl aggDer rfl (cs := zs5) rfl H3'.out.cellsAll) rfl ⟨_, rfl, TvF.zero _ _, HEND.out w3 HK3.out HP3.out, HK3.out⟩
    · have HR : Hid (nextS k (x :: r) bad = (.zero, [], true)) := hI (by unfold nextS; exact if_neg (fun h => hk h.1))
      have hkb : (x.kind != k) = true := by simpa using hk
      generalize x.kind = xk at *
      generalize (x :: r).length = N at *
      clear hlen hln hk
      obtain ⟨W2, hW2⟩ : ∃ W2, W2 = (W0.setCell ⟨p, 1, none⟩ (.bool true)).setCell ⟨p, 0, none⟩ (.slice none 0 0) := ⟨_, rfl⟩
      have HP2 : Hid (Blk W2 p [.slice none 0 0, .bool true] 154) := hI (by rw [hW2]; exact (h1.set 1 (.bool true)).set 0 (.slice none 0 0))
      have HQ2 : Hid (Blk W2 q zs5 70) := hI (by rw [hW2]; exact (hn0.set_other (p := ⟨p, 1, none⟩) hqp _).set_other (p := ⟨p, 0, none⟩) hqp _)
      have HK2 : Hid (Keeps (fun b => b = p ∨ w.heap.size ≤ b) w W2) := hI (by rw [hW2]; exact (HK0.out.setCell (p := ⟨p, 1, none⟩) (.inl rfl) _).setCell (p := ⟨p, 0, none⟩) (.inl rfl) _)
      clear h1 hn0
      go_enter Try.func67, Try.ntmps67
      go_upto_region 1 with fail
      show Code.wp _ _ _ _ (w.alloc (.cells zs5.toArray 70))
      rw [← hW0, ← hq]
      clear hW0 hq
      go_upto_region 3 with fail
      show Code.wp _ _ _ _ ((W0.setCell ⟨p, 1, none⟩ (.bool true)).setCell ⟨p, 0, none⟩ (.slice none 0 0))
      rw [← hW2]
      clear hW2
      go_wp2_with ((with_reducible show wpList _ _ _ (⟨none, .store _ (.tmp 4) (.tmp 39), _, _, _, _⟩ :: _) _ _); refine wpList_stAgg rfl (.tmp 4) (.tmp 39) aggDer rfl rfl (vs := zs5) rfl rfl HQ2.out (Nat.le_refl _) (by intro u hu; simp [zs5] at hu; rcases hu with rfl | rfl | rfl <;> rfl) ?_)
      intro w3 h3 k3
      have H3' : Hid (Blk w3 q zs5 70) := hI (by simpa [zs5] using h3)
      have HK3 : Hid (Keeps (fun b => b = p ∨ w.heap.size ≤ b) w w3) := hI (HK2.out.trans (k3.mono (fun b hb => .inr (by rw [hb, HQS.out]; exact Nat.le_refl _))))
      have HP3 := hI (HP2.out.keep k3 HPQ.out)
      clear h3 k3
      go_wp2_with fail
      rw [HR.out]
      exact bodyPost_ret (results_agg rfl aggDer rfl (cs := zs5) rfl H3'.out.cellsAll) rfl ⟨_, rfl, TvF.zero _ _, HEND.out w3 HK3.out HP3.out, HK3.out⟩
set_option maxHeartbeats 4000000 in
set_option maxRecDepth 100000 in
theorem part_any (k : Int) (rem : List Tv) (bad : Bool) (p : Nat) (F : Nat → Prop) (w : World) (h : Tk w F p rem bad) :
    Calls Try.prog 69 #[.pointer (some ⟨p, 0, none⟩), .int .i64 k] w (NxRes w F p (partS k rem bad)) := by
  obtain ⟨lv, rows, h1, h2, h3, h4, h5⟩ := h
  obtain ⟨a, cap, rfl, hcap, hm⟩ := h2.form
  unfold maxLen at hm
  have hpl := h1.lt
  obtain ⟨W0, hW0⟩ : ∃ W0, W0 = w.alloc (.cells zs5.toArray 70) := ⟨_, rfl⟩
  obtain ⟨q, hq⟩ : ∃ q, q = w.heap.size := ⟨_, rfl⟩
  have hn0 : Blk W0 q zs5 70 := by rw [hW0, hq]; exact Blk.new _ _ _
  have HQS := hI hq
  have hqp : q ≠ p := by omega
  have HPQ : Hid (p ≠ q) := hI (by omega)
  have hend : ∀ W : World, Keeps (fun b => b = p ∨ w.heap.size ≤ b) w W → Blk W p [.slice none 0 0, .bool true] 154 → Tk W F p [] true :=
    fun W hk hb => ⟨_, [], hb, Sl.nil _ _ _, by simp, rfl, h5⟩
  have HEND := hI hend
  have HK0 : Hid (Keeps (fun b => b = p ∨ w.heap.size ≤ b) w W0) := hI (by rw [hW0]; exact (Keeps.refl _ _).alloc _ (.inr (Nat.le_refl _)))
  have hB0 : Below w.heap.size w W0 := by rw [hW0]; exact (Below.refl _ _).alloc (Nat.le_refl _) _
  replace h1 := h1.below hB0 hpl
  have c0 := h1.cell 0
  have f0 := h1.frozen 0
  have f1 := h1.frozen 1
  have c1 : W0.cell? ⟨p, 1, none⟩ = some (.bool bad) := h1.cell 1
  simp only [List.getElem?_cons_zero] at c0
  have H2 := hI (h2.below hB0)
  have H3 := hI h3
  have H4 := hI h4
  have H2w := hI h2
  have H5 := hI h5
  clear hend h3 h5 h4 h2
  cases rem with
  | nil =>
    have HR : Hid (partS k [] bad = (.zero, [], true)) := hI rfl
    simp only [List.length_nil] at *
    obtain ⟨W2, hW2⟩ : ∃ W2, W2 = (W0.setCell ⟨p, 1, none⟩ (.bool true)).setCell ⟨p, 0, none⟩ (.slice none 0 0) := ⟨_, rfl⟩
    have HP2 : Hid (Blk W2 p [.slice none 0 0, .bool true] 154) := hI (by rw [hW2]; exact (h1.set 1 (.bool true)).set 0 (.slice none 0 0))
    have HQ2 : Hid (Blk W2 q zs5 70) := hI (by rw [hW2]; exact (hn0.set_other (p := ⟨p, 1, none⟩) hqp _).set_other (p := ⟨p, 0, none⟩) hqp _)
    have HK2 : Hid (Keeps (fun b => b = p ∨ w.heap.size ≤ b) w W2) := hI (by rw [hW2]; exact (HK0.out.setCell (p := ⟨p, 1, none⟩) (.inl rfl) _).setCell (p := ⟨p, 0, none⟩) (.inl rfl) _)
    clear h1 hn0
    go_enter Try.func69, Try.ntmps69
    go_upto_region 1 with fail
    show Code.wp _ _ _ _ (w.alloc (.cells zs5.toArray 70))
    rw [← hW0, ← hq]
    clear hW0 hq
    go_upto_region 3 with fail
    show Code.wp _ _ _ _ ((W0.setCell ⟨p, 1, none⟩ (.bool true)).setCell ⟨p, 0, none⟩ (.slice none 0 0))
    rw [← hW2]
    clear hW2
    go_wp2_with ((with_reducible show wpList _ _ _ (⟨none, .store _ (.tmp 4) (.tmp 39), _, _, _, _⟩ :: _) _ _); refine wpList_stAgg rfl (.tmp 4) (.tmp 39) aggDer rfl rfl (vs := zs5) rfl rfl HQ2.out (Nat.le_refl _) (by intro u hu; simp [zs5] at hu; rcases hu with rfl | rfl | rfl <;> rfl) ?_)
    intro w3 h3 k3
    have H3' : Hid (Blk w3 q zs5 70) := hI (by simpa [zs5] using h3)
    have HK3 : Hid (Keeps (fun b => b = p ∨ w.heap.size ≤ b) w w3) := hI (HK2.out.trans (k3.mono (fun b hb => .inr (by rw [hb, HQS.out]; exact Nat.le_refl _))))
    have HP3 := hI (HP2.out.keep k3 HPQ.out)
    clear h3 k3
    go_wp2_with fail
    rw [HR.out]
    exact bodyPost_ret (results_agg rfl aggDer rfl (cs := zs5) rfl H3'.out.cellsAll) rfl ⟨_, rfl, TvF.zero _ _, HEND.out w3 HK3.out HP3.out, HK3.out⟩
  | cons x r =>
    obtain ⟨r0, rs, e, hx, hr⟩ := H4.out
    subst e
    have hlen : ((x :: r).length : Int) = (r.length : Int) + 1 := by simp
    have hln : (x :: r).length = r.length + 1 := rfl
    obtain ⟨bv, lv2, rows2, e, hb1, hb2, hb3, hb4, hb5⟩ := hx.open_
    obtain ⟨b, off, rfl, hc⟩ := H2.out.addr (by rw [H2.out.1, hln]; omega)
    have cK := hc 0 (.int .i64 x.kind) (by simp [e])
    have cT := hc 1 (.int .i64 x.tag) (by simp [e])
    have hC5 : CellsAt W0 b off r0 := fun j u hj => hc j u (by rw [List.getElem?_append_left (List.getElem?_eq_some_iff.1 hj).1]; exact hj)
    have HC5 := hI hC5
    have HL5 := hI hx.length
    have HX := hI hx
    have HRS := hI hr
    have HB3 := hI (H3.out (by simp) b rfl)
    simp only [Nat.add_zero] at cK
    have hlz : ((((x :: r).length : Nat) : Int) == 0) = false := by simp; omega
    have hlp : 0 < (x :: r).length := by simp
    clear hc hC5 hx hr e hb1 hb2 hb3 hb4 hb5
    by_cases hk : x.kind = 2
    · by_cases ht : x.tag = k
      · have HR : Hid (partS k (x :: r) bad = (x, r, bad)) := hI (by unfold partS; exact if_pos ⟨hk, ht⟩)
        rw [hk] at cK
        rw [ht] at cT
        obtain ⟨q1, hq1⟩ : ∃ q1, q1 = W0.heap.size := ⟨_, rfl⟩
        have HG : Hid (Blk (W0.alloc (.cells zs5.toArray 70)) W0.heap.size zs5 70) := hI (Blk.new _ _ _)
        have HK1 : Hid (Keeps (fun b => b = p ∨ w.heap.size ≤ b) w (W0.alloc (.cells zs5.toArray 70))) := hI (HK0.out.alloc _ (.inr hB0.size))
        have HP1 : Hid (Blk (W0.alloc (.cells zs5.toArray 70)) p [.slice (some ⟨b, off, none⟩) (x :: r).length cap, .bool bad] 154) := hI (h1.alloc _)
        have HQ1 : Hid (Blk (W0.alloc (.cells zs5.toArray 70)) q zs5 70) := hI (hn0.alloc _)
        have hqlt := hn0.lt
        have HNE : Hid (p ≠ W0.heap.size ∧ q ≠ W0.heap.size ∧ w.heap.size ≤ W0.heap.size) := hI ⟨by have := h1.lt; omega, by omega, hB0.size⟩
        have HON := hI HX.out.one
        have HSL : Hid (∀ W, (Instr.sliceAt 68 (.slice (some ⟨b, off, none⟩) (r.length + 1) cap) (some (.int .i64 1)) none none).run Try.prog W = .ok (.slice (cutZ b off cap 1 5) r.length (cap - 1)) W) := hI (fun W => run_sliceZ Try.underlying68 szDer b off (r.length + 1) cap 1 (by omega) (by simpa using hcap) W)
        have HSR : Hid (Sl w 5 (.slice (cutZ b off cap 1 5) r.length (cap - 1)) r.length rs) := hI (by
          have h := H2w.out.tailZ 1 (by simp)
          rw [Nat.one_mul, List.drop_append_of_le_length (by rw [HL5.out]; exact Nat.le_refl _), List.drop_of_length_le (by rw [HL5.out]; exact Nat.le_refl _), List.nil_append] at h
          exact h)
        have hFR : 0 < r.length → ∀ y, (Value.slice (cutZ b off cap 1 5) r.length (cap - 1)).ownBlock = some y → F y := fun _ y hy => by
          have : b = y := by
            unfold cutZ at hy
            split at hy <;> simpa [Value.ownBlock] using hy
          rw [← this]; exact HB3.out
        have HFR := hI hFR
        have hBF : F b := HB3.out
        have hbp : b ≠ p := fun e => H5.out (by rw [← e]; exact hBF)
        rw [show (x :: r).length = r.length + 1 from rfl] at c0
        clear hcap hn0 h1 hlz hlen hln hFR hlp hqlt
        go_enter Try.func69, Try.ntmps69
        go_upto_region 1 with fail
        show Code.wp _ _ _ _ (w.alloc (.cells zs5.toArray 70))
        rw [← hW0, ← hq]
        clear hW0 hq
        go_wp2_with (first | ((with_reducible show wpList _ _ _ (⟨some 45, _, _, _, _, _⟩ :: _) _ _); refine wpList_ldAgg rfl (.tmp 44) aggDer rfl rfl (cs := r0) HL5.out HC5.out ?_) | ((with_reducible show wpList _ _ _ (⟨none, .store _ (.tmp 5) (.tmp 45), _, _, _, _⟩ :: _) _ _); refine wpList_stAgg rfl (.tmp 5) (.tmp 45) aggDer rfl rfl (vs := r0) rfl HL5.out HG.out (Nat.le_refl _) HON.out ?_))
        intro w4 h4 k4
        have H4' : Hid (Blk w4 W0.heap.size r0 70) := hI (by simpa [zs5] using h4)
        have HK4 : Hid (Keeps (fun b => b = p ∨ w.heap.size ≤ b) w w4) := hI (HK1.out.trans (k4.mono (fun b hb => .inr (by rw [hb]; exact HNE.out.2.2))))
        have hp4 := HP1.out.keep k4 HNE.out.1
        have HQ4 := hI (HQ1.out.keep k4 HNE.out.2.1)
        have c40 : w4.cell? ⟨p, 0, none⟩ = some (.slice (some ⟨b, off, none⟩) (r.length + 1) cap) := hp4.cell 0
        have f40 := hp4.frozen 0
        obtain ⟨W5, hW5⟩ : ∃ W5, W5 = w4.setCell ⟨p, 0, none⟩ (.slice (cutZ b off cap 1 5) r.length (cap - 1)) := ⟨_, rfl⟩
        have HP5 : Hid (Blk W5 p [.slice (cutZ b off cap 1 5) r.length (cap - 1), .bool bad] 154) := hI (by rw [hW5]; exact hp4.set 0 _)
        have HK5 : Hid (Keeps (fun b => b = p ∨ w.heap.size ≤ b) w W5) := hI (by rw [hW5]; exact HK4.out.setCell (p := ⟨p, 0, none⟩) (.inl rfl) _)
        have HQ5 : Hid (Blk W5 q zs5 70) := hI (by rw [hW5]; exact HQ4.out.set_other (p := ⟨p, 0, none⟩) hqp _)
        have HV5 : Hid (Blk W5 W0.heap.size r0 70) := hI (by rw [hW5]; exact H4'.out.set_other (p := ⟨p, 0, none⟩) (fun e => HNE.out.1 e.symm) _)
        clear h4 k4 hp4
        rw [← hq1] at *
        go_upto_region 6 with ((with_reducible show wpList _ _ _ (⟨some 51, _, _, _, _, _⟩ :: _) _ _); refine wpList_val rfl (exec_sliceL rfl (HSL.out _)) ?_)
        show Code.wp _ _ _ _ (w4.setCell ⟨p, 0, none⟩ (.slice (cutZ b off cap 1 5) r.length (cap - 1)))
        rw [← hW5]
        clear hW5
        go_wp2_with (first | ((with_reducible show wpList _ _ _ (⟨some 54, _, _, _, _, _⟩ :: _) _ _); refine wpList_ldAgg rfl (.tmp 5) aggDer rfl rfl (cs := r0) HL5.out HV5.out.cellsAll ?_) | ((with_reducible show wpList _ _ _ (⟨none, .store _ (.tmp 4) (.tmp 54), _, _, _, _⟩ :: _) _ _); refine wpList_stAgg rfl (.tmp 4) (.tmp 54) aggDer rfl rfl (vs := r0) rfl HL5.out HQ5.out (Nat.le_refl _) HON.out ?_))
        intro w6 h6 k6
        have H6 : Hid (Blk w6 q r0 70) := hI (by simpa [zs5] using h6)
        have HK6 : Hid (Keeps (fun b => b = p ∨ w.heap.size ≤ b) w w6) := hI (HK5.out.trans (k6.mono (fun b hb => .inr (by rw [hb, HQS.out]; exact Nat.le_refl _))))
        have HP6 := hI (HP5.out.keep k6 HPQ.out)
        clear h6 k6
        go_wp2_with fail
        rw [HR.out]
        have hs : ∀ y, F y → y < w.heap.size → ¬ (y = p ∨ w.heap.size ≤ y) := fun y hy hl h => by
          rcases h with h | h
          · exact H5.out (by rw [← h]; exact hy)
          · omega
        exact bodyPost_ret (results_agg rfl aggDer rfl (cs := r0) HL5.out H6.out.cellsAll) rfl ⟨r0, rfl, HX.out.keep HK6.out hs, ⟨_, rs, HP6.out, HSR.out.keepF HK6.out HFR.out hs, HFR.out, HRS.out.keep HK6.out hs, H5.out⟩, HK6.out⟩
      · have HR : Hid (partS k (x :: r) bad = (.zero, [], true)) := hI (by unfold partS; exact if_neg (fun h => ht h.2))
        have htb : (x.tag != k) = true := by simpa using ht
        rw [hk] at cK
        generalize x.tag = xt at *
        generalize (x :: r).length = N at *
        clear hlen hln ht
        obtain ⟨W2, hW2⟩ : ∃ W2, W2 = (W0.setCell ⟨p, 1, none⟩ (.bool true)).setCell ⟨p, 0, none⟩ (.slice none 0 0) := ⟨_, rfl⟩
        have HP2 : Hid (Blk W2 p [.slice none 0 0, .bool true] 154) := hI (by rw [hW2]; exact (h1.set 1 (.bool true)).set 0 (.slice none 0 0))
        have HQ2 : Hid (Blk W2 q zs5 70) := hI (by rw [hW2]; exact (hn0.set_other (p := ⟨p, 1, none⟩) hqp _).set_other (p := ⟨p, 0, none⟩) hqp _)
        have HK2 : Hid (Keeps (fun b => b = p ∨ w.heap.size ≤ b) w W2) := hI (by rw [hW2]; exact (HK0.out.setCell (p := ⟨p, 1, none⟩) (.inl rfl) _).setCell (p := ⟨p, 0, none⟩) (.inl rfl) _)
        clear h1 hn0
        go_enter Try.func69, Try.ntmps69
        go_upto_region 1 with fail
        show Code.wp _ _ _ _ (w.alloc (.cells zs5.toArray 70))
        rw [← hW0, ← hq]
        clear hW0 hq
        go_upto_region 3 with fail
        show Code.wp _ _ _ _ ((W0.setCell ⟨p, 1, none⟩ (.bool true)).setCell ⟨p, 0, none⟩ (.slice none 0 0))
        rw [← hW2]
        clear hW2
        go_wp2_with ((with_reducible show wpList _ _ _ (⟨none, .store _ (.tmp 4) (.tmp 39), _, _, _, _⟩ :: _) _ _); refine wpList_stAgg rfl (.tmp 4) (.tmp 39) aggDer rfl rfl (vs := zs5) rfl rfl HQ2.out (Nat.le_refl _) (by intro u hu; simp [zs5] at hu; rcases hu with rfl | rfl | rfl <;> rfl) ?_)
        intro w3 h3 k3
        have H3' : Hid (Blk w3 q zs5 70) := hI (by simpa [zs5] using h3)
        have HK3 : Hid (Keeps (fun b => b = p ∨ w.heap.size ≤ b) w w3) := hI (HK2.out.trans (k3.mono (fun b hb => .inr (by rw [hb, HQS.out]; exact Nat.le_refl _))))
        have HP3 := hI (HP2.out.keep k3 HPQ.out)
        clear h3 k3
        go_wp2_with fail
        rw [HR.out]
        exact bodyPost_ret (results_agg rfl aggDer rfl (cs := zs5) rfl H3'.out.cellsAll) rfl ⟨_, rfl, TvF.zero _ _, HEND.out w3 HK3.out HP3.out, HK3.out⟩
    · have HR : Hid (partS k (x :: r) bad = (.zero, [], true)) := hI (by unfold partS; exact if_neg (fun h => hk h.1))
      have hkb : (x.kind != 2) = true := by simpa using hk
      generalize x.kind = xk at *
      generalize (x :: r).length = N at *
      clear hlen hln hk
      obtain ⟨W2, hW2⟩ : ∃ W2, W2 = (W0.setCell ⟨p, 1, none⟩ (.bool true)).setCell ⟨p, 0, none⟩ (.slice none 0 0) := ⟨_, rfl⟩
      have HP2 : Hid (Blk W2 p [.slice none 0 0, .bool true] 154) := hI (by rw [hW2]; exact (h1.set 1 (.bool true)).set 0 (.slice none 0 0))
      have HQ2 : Hid (Blk W2 q zs5 70) := hI (by rw [hW2]; exact (hn0.set_other (p := ⟨p, 1, none⟩) hqp _).set_other (p := ⟨p, 0, none⟩) hqp _)
      have HK2 : Hid (Keeps (fun b => b = p ∨ w.heap.size ≤ b) w W2) := hI (by rw [hW2]; exact (HK0.out.setCell (p := ⟨p, 1, none⟩) (.inl rfl) _).setCell (p := ⟨p, 0, none⟩) (.inl rfl) _)
      clear h1 hn0
      go_enter Try.func69, Try.ntmps69
      go_upto_region 1 with fail
      show Code.wp _ _ _ _ (w.alloc (.cells zs5.toArray 70))
      rw [← hW0, ← hq]
      clear hW0 hq
      go_upto_region 3 with fail
      show Code.wp _ _ _ _ ((W0.setCell ⟨p, 1, none⟩ (.bool true)).setCell ⟨p, 0, none⟩ (.slice none 0 0))
      rw [← hW2]
      clear hW2
      go_wp2_with ((with_reducible show wpList _ _ _ (⟨none, .store _ (.tmp 4) (.tmp 39), _, _, _, _⟩ :: _) _ _); refine wpList_stAgg rfl (.tmp 4) (.tmp 39) aggDer rfl rfl (vs := zs5) rfl rfl HQ2.out (Nat.le_refl _) (by intro u hu; simp [zs5] at hu; rcases hu with rfl | rfl | rfl <;> rfl) ?_)
      intro w3 h3 k3
      have H3' : Hid (Blk w3 q zs5 70) := hI (by simpa [zs5] using h3)
      have HK3 : Hid (Keeps (fun b => b = p ∨ w.heap.size ≤ b) w w3) := hI (HK2.out.trans (k3.mono (fun b hb => .inr (by rw [hb, HQS.out]; exact Nat.le_refl _))))
      have HP3 := hI (HP2.out.keep k3 HPQ.out)
      clear h3 k3
      go_wp2_with fail
      rw [HR.out]
      exact bodyPost_ret (results_agg rfl aggDer rfl (cs := zs5) rfl H3'.out.cellsAll) rfl ⟨_, rfl, TvF.zero _ _, HEND.out w3 HK3.out HP3.out, HK3.out⟩
theorem flatten_at {α : Type} {n : Nat} (f : α → List Value) (hf : ∀ x, (f x).length = n) : ∀ (l : List α) (k j : Nat) (h : k < l.length), j < n → ((l.map f).flatten)[k * n + j]? = (f l[k])[j]?
  | [], k, j, h, _ => by simp at h
  | x :: l, 0, j, h, hj => by
    simp only [List.map_cons, List.flatten_cons, Nat.zero_mul, Nat.zero_add, List.getElem_cons_zero]
    rw [List.getElem?_append_left (by rw [hf]; exact hj)]
  | x :: l, k + 1, j, h, hj => by
    simp only [List.map_cons, List.flatten_cons, List.getElem_cons_succ]
    rw [List.getElem?_append_right (by rw [hf, Nat.add_mul]; omega), hf, show (k + 1) * n + j - n = k * n + j by rw [Nat.add_mul]; omega]
    exact flatten_at f hf l k j (by simpa using h) hj
/-- Runes from one to another one. -/
abbrev Sp := Int × Int
def Sp.cells (x : Sp) : List Value := [.int .i32 x.1, .int .i32 x.2]
def spCells (l : List Sp) : List Value := (l.map Sp.cells).flatten
def Sp.has (r : Int) (x : Sp) : Bool := decide (x.1 ≤ r) && decide (r ≤ x.2)
def inB (r : Int) (l : List Sp) : Bool := l.any (Sp.has r)
set_option maxRecDepth 100000 in
theorem in_any (r : Int) (v : Value) (l : List Sp) (w : World) (h : Sl w 2 v l.length (spCells l)) :
    Calls Try.prog 71 #[.int .i32 r, v] w fun e w' => e = .returned (.bool (inB r l)) ∧ Below w.heap.size w w' := by
  obtain ⟨a, cap, rfl, hcap, hcm⟩ := h.form
  unfold maxLen at hcm
  have HS := hI h
  have hcl : (spCells l).length = l.length * 2 := h.1
  clear h
  go_enter Try.func71, Try.ntmps71
  go_wp2_with fail
  go_loopw [9] (fun i wr => ∃ k : Nat, k ≤ l.length ∧ i = .int .i64 k ∧ (l.take k).any (Sp.has r) = false ∧ Below w.heap.size w wr) (fun i _ => l.length - (intOf i).toNat)
  case atStart => exact ⟨0, Nat.zero_le _, rfl, rfl, Below.refl _ _⟩
  case round =>
    obtain ⟨k, hk, rfl, hno, hB⟩ := hrel
    have HNO := hI hno
    have HB := hI hB
    clear hno hB
    by_cases hlt : k < l.length
    · have hlt1 : (k : Int) < (l.length : Int) := by omega
      obtain ⟨b, off, rfl, hcell⟩ := HS.out.addr (by omega)
      have c0 : wr.cell? ⟨b, off + k * 2, none⟩ = some (.int .i32 l[k].1) := below_cell HB.out (hcell _ _ (flatten_at (n := 2) Sp.cells (fun _ => rfl) l k 0 hlt (by omega)))
      have c1 : wr.cell? ⟨b, off + k * 2 + 1, none⟩ = some (.int .i32 l[k].2) := below_cell HB.out (hcell _ _ (flatten_at (n := 2) Sp.cells (fun _ => rfl) l k 1 hlt (by omega)))
      clear hcell
      have HN : Hid (Sp.has r l[k] = false → (l.take (k + 1)).any (Sp.has r) = false) := hI (by
        intro h
        rw [List.take_succ_eq_append_getElem hlt, List.any_append, HNO.out]
        simp [h])
      have HY : Hid (Sp.has r l[k] = true → inB r l = true) := hI (by
        intro h
        exact List.any_eq_true.2 ⟨l[k], List.getElem_mem hlt, h⟩)
      have hB' : ∀ o, Below w.heap.size w (wr.alloc o) := fun o => HB.out.alloc HB.out.size o
      have HBA := hI hB'
      clear hB'
      have HE : Hid (Sp.has r l[k] = (decide (l[k].1 ≤ r) && decide (r ≤ l[k].2))) := hI rfl
      generalize l[k] = x at *
      obtain ⟨lo, hi⟩ := x
      by_cases h1 : lo ≤ r
      · by_cases h2 : r ≤ hi
        · go_wp2_with fail
          go_ret
          rw [HY.out (by rw [HE.out]; simp [h1, h2])]
          exact ⟨rfl, HBA.out _⟩
        · go_wp2_with fail
          go_roundw
          case rel => exact ⟨k + 1, by omega, by go_num, HN.out (by rw [HE.out]; simp [h2]), HBA.out _⟩
          case measure => simp [intOf]; omega
      · go_wp2_with fail
        go_roundw
        case rel => exact ⟨k + 1, by omega, by go_num, HN.out (by rw [HE.out]; simp [h1]), HBA.out _⟩
        case measure => simp [intOf]; omega
    · obtain rfl : k = l.length := by omega
      go_wp2_with fail
      go_ret
      have h := HNO.out
      rw [List.take_length] at h
      rw [show inB r l = false from h]
      exact ⟨rfl, HB.out⟩
def letL : List Sp := [(97, 122), (224, 246), (248, 254), (945, 961), (963, 969), (1072, 1103)]
def numL : List Sp := [(48, 57), (45, 45)]
def letB (r : Int) : Bool := inB r letL
def numB (r : Int) : Bool := inB r numL
theorem Sl.spans {w : World} {cs : Array Value} {T : TypeId} {b : Nat} (l : List Sp) (hb : w.heap.size = b) (hc : cs.toList = spCells l) (hl : (spCells l).length = l.length * 2) (h1 : ∀ u ∈ spCells l, u.oneCell' = true) (hn : l.length ≤ maxLen) :
    Sl (w.alloc (.cells cs T)) 2 (.slice (some ⟨b, 0, none⟩) l.length l.length) l.length (spCells l) := by
  have := Sl.lit (w := w) (cs := cs) (T := T) (sz := 2) (n := l.length) hb (by rw [hc]; exact hl) (by rw [hc]; exact h1) hn
  rw [hc] at this
  exact this
theorem letter_any (r : Int) (w : World) :
    Calls Try.prog 70 #[.int .i32 r] w fun e w' => e = .returned (.bool (letB r)) ∧ Below w.heap.size w w' := by
  go_enter Try.func70, Try.ntmps70
  go_wp2_with fail
  refine (in_any r _ letL _ (Sl.spans letL rfl rfl rfl (by decide) (by decide))).mono ?_
  rw [show inB r letL = letB r from rfl]
  rintro e w1 ⟨rfl, hb1⟩
  have HB := hI (((Below.refl w.heap.size w).alloc (Nat.le_refl _) _).trans (hb1.mono (by simp)))
  clear hb1
  go_wp2_with fail
  go_ret
  exact ⟨rfl, HB.out⟩
set_option maxHeartbeats 2000000 in
theorem refLetter_any (r s : Int) (w : World) (h0 : -2147483648 ≤ r) (h1 : r ≤ 2147483647) (h2 : 0 ≤ s) (h3 : s ≤ 32) :
    Calls Try.prog 53 #[.int .i64 r, .int .i64 s] w fun e w' => e = .returned (.bool (letB (r + s))) ∧ w = w' := by
  obtain ⟨x, hx⟩ : ∃ x, x = r + s := ⟨_, rfl⟩
  have hw : wrap64 (r + s) = x := by rw [wrap64]; omega
  have HX := hI hx
  rw [← hx]
  clear h0 h1 h2 h3 hx
  go_enter Try.func53, Try.ntmps53
  rcases (by omega : x < 97 ∨ (97 ≤ x ∧ x ≤ 122) ∨ (122 < x ∧ x < 224) ∨ (224 ≤ x ∧ x ≤ 246) ∨ (246 < x ∧ x < 248) ∨ (248 ≤ x ∧ x ≤ 254) ∨ (254 < x ∧ x < 945) ∨ (945 ≤ x ∧ x ≤ 961) ∨ (961 < x ∧ x < 963) ∨ (963 ≤ x ∧ x ≤ 969) ∨ (969 < x ∧ x < 1072) ∨ (1072 ≤ x ∧ x ≤ 1103) ∨ 1103 < x) with
    k | ⟨k, k'⟩ | ⟨k, k'⟩ | ⟨k, k'⟩ | ⟨k, k'⟩ | ⟨k, k'⟩ | ⟨k, k'⟩ | ⟨k, k'⟩ | ⟨k, k'⟩ | ⟨k, k'⟩ | ⟨k, k'⟩ | ⟨k, k'⟩ | k <;>
  · have hb : letB x = (decide (97 ≤ x ∧ x ≤ 122 ∨ 224 ≤ x ∧ x ≤ 246 ∨ 248 ≤ x ∧ x ≤ 254 ∨ 945 ≤ x ∧ x ≤ 961 ∨ 963 ≤ x ∧ x ≤ 969 ∨ 1072 ≤ x ∧ x ≤ 1103)) := by
      simp only [letB, inB, letL, List.any_cons, List.any_nil, Sp.has, Bool.or_false, Bool.decide_or, Bool.decide_and]
    first
    | have HL := hI (hb.trans (decide_eq_true (by omega)))
    | have HL := hI (hb.trans (decide_eq_false (by omega)))
    clear hb
    go_wp2_with fail
    go_ret
    rw [HL.out]
    refine ⟨congrArg (fun b => Ending.returned (Value.bool b)) ?_, rfl⟩
    first
    | rfl
    | (simp [decide_eq_false_iff_not]; omega)
/-- The runes of a text, each with where it begins. -/
def rsF (s : ByteArray) : Nat → Nat → List (Nat × Int)
  | 0, _ => []
  | f + 1, p => if p < s.size then (p, ((Utf8.decode s p).1 : Int)) :: rsF s f (p + (Utf8.decode s p).2) else []
def rs (s : ByteArray) (p : Nat) : List (Nat × Int) := rsF s (s.size - p) p
theorem rsF_more (s : ByteArray) : ∀ (f f' p : Nat), s.size ≤ p + f → s.size ≤ p + f' → rsF s f p = rsF s f' p
  | 0, 0, _, _, _ => rfl
  | 0, f' + 1, p, h, _ => by simp [rsF, show ¬ p < s.size from by omega]
  | f + 1, 0, p, _, h => by simp [rsF, show ¬ p < s.size from by omega]
  | f + 1, f' + 1, p, h, h' => by
    by_cases hp : p < s.size
    · have := Lib.decode_width_pos s p hp
      simp only [rsF, if_pos hp]
      rw [rsF_more s f f' _ (by omega) (by omega)]
    · simp [rsF, hp]
theorem rs_step (s : ByteArray) (p : Nat) (h : p < s.size) : rs s p = (p, ((Utf8.decode s p).1 : Int)) :: rs s (p + (Utf8.decode s p).2) := by
  have := Lib.decode_width_pos s p h
  unfold rs
  obtain ⟨f, hf⟩ : ∃ f, s.size - p = f + 1 := ⟨s.size - p - 1, by omega⟩
  rw [hf]
  simp only [rsF, if_pos h]
  rw [rsF_more s f (s.size - (p + (Utf8.decode s p).2)) _ (by omega) (by omega)]
theorem rs_end (s : ByteArray) (p : Nat) (h : ¬ p < s.size) : rs s p = [] := by
  unfold rs
  rw [show s.size - p = 0 from by omega]
  rfl
/-- An iterator stands at a place. -/
def It (w : World) (k : Nat) (s : ByteArray) (p : Nat) : Prop := w.heap[k]? = some (.stringIter s p)
theorem It.pos {w : World} {k : Nat} {s : ByteArray} {p : Nat} (h : It w k s p) : w.iterPos k = p := by simp [World.iterPos, show w.heap[k]? = _ from h]
theorem It.lt {w : World} {k : Nat} {s : ByteArray} {p : Nat} (h : It w k s p) : k < w.heap.size := block_lt h
theorem It.below {w w' : World} {k B : Nat} {s : ByteArray} {p : Nat} (h : It w k s p) (hb : Below B w w') (hk : k < B) : It w' k s p := (hb.block k hk).trans h
theorem It.keep {w w' : World} {k : Nat} {S : Nat → Prop} {s : ByteArray} {p : Nat} (h : It w k s p) (hb : Keeps S w w') (hk : ¬ S k) : It w' k s p := (hb.block k hk).trans h
/-- One step of an iterator: what it gives, and the world then, as a variable. -/
theorem It.next {P : Program} {w0 wr : World} {k B : Nat} {s : ByteArray} {pos : Nat} (h : It wr k s pos) (hp : pos < s.size) (hB : Below B w0 wr) (hk : B ≤ k) :
    ∃ W, (∀ ty, (Instr.next (.pointer (some ⟨k, 0, none⟩)) true ty).run P wr = .ok (.tuple #[.bool true, .int .i64 pos, .int .i32 (Utf8.decode s pos).1]) W) ∧ It W k s (pos + (Utf8.decode s pos).2) ∧ Below B w0 W ∧ Keeps (fun j => j = k) wr W :=
  ⟨_, fun ty => Lib.run_next_any_at wr k s pos ty h hp, Lib.iterAt_heap wr k s pos _ h, Lib.below_iterAt hB hk s _,
    ⟨rfl, rfl, rfl, by rw [Lib.iterAt_size]; exact Nat.le_refl _, fun j hj => Lib.iterAt_other wr k j s _ hj⟩⟩
def rightF : List (Nat × Int) → Nat → Bool
  | [], n => decide (1 ≤ n) && decide (n ≤ 16)
  | (i, r) :: l, n => if letB r then rightF l (n + 1) else if i = 0 then false else if numB r then rightF l (n + 1) else false
def rightB (s : ByteArray) : Bool := rightF (rs s 0) 0
set_option maxHeartbeats 1000000 in
set_option maxRecDepth 100000 in
theorem right_any (s : ByteArray) (w : World) (hs : s.size ≤ maxLen) :
    Calls Try.prog 55 #[.string s] w fun e w' => e = .returned (.bool (rightB s)) ∧ Below w.heap.size w w' := by
  unfold maxLen at hs
  go_enter Try.func55, Try.ntmps55
  go_wp2_with fail
  go_loopw [3] (fun n wr => ∃ (pos q : Nat), n = .int .i64 q ∧ It wr w.heap.size s pos ∧ q ≤ pos ∧ Below w.heap.size w wr ∧ rightF (rs s pos) q = rightB s) (fun _ wr => s.size - wr.iterPos w.heap.size)
  case atStart => exact ⟨0, 0, rfl, World.iter_heap w s 0, Nat.le_refl _, (Below.refl _ _).alloc (Nat.le_refl _) _, rfl⟩
  case round =>
    obtain ⟨pos, q, rfl, hit, hq, hB, hR⟩ := hrel
    have HP0 := hI hit.pos
    have HR := hI hR
    clear hR
    by_cases hp : pos < s.size
    · obtain ⟨W, hnx, hit2, hB2, _⟩ := hit.next (P := Try.prog) hp hB (Nat.le_refl _)
      have hwd := Lib.decode_width_pos s pos hp
      have hstep := rs_step s pos hp
      obtain ⟨c, hc⟩ : ∃ c : Int, c = ((Utf8.decode s pos).1 : Int) := ⟨_, rfl⟩
      obtain ⟨wd, hw⟩ : ∃ wd, wd = (Utf8.decode s pos).2 := ⟨_, rfl⟩
      rw [← hc, ← hw] at hstep
      rw [← hc] at hnx
      rw [← hw] at hit2 hwd
      have HS := hI hstep
      have HI := hI hit2
      have HB := hI hB2
      clear hstep hit2 hB2 hB hit hc hw
      go_wp2_with fail
      refine (letter_any c W).mono ?_
      obtain ⟨L, hL⟩ : ∃ L, L = letB c := ⟨_, rfl⟩
      rw [← hL]
      have HL := hI hL
      clear hL
      rintro e w1 ⟨rfl, hb1⟩
      have HI1 := hI (HI.out.below hb1 HI.out.lt)
      have HB1 := hI (HB.out.trans (hb1.mono HB.out.size))
      clear hb1 HI HB hnx
      cases L with
      | true =>
        have HF : Hid (rightF (rs s (pos + wd)) (q + 1) = rightB s) := hI (by
          rw [← HR.out, HS.out, rightF, ← HL.out, if_pos rfl])
        go_wp2_with fail
        go_roundw
        case rel => exact ⟨pos + wd, q + 1, by go_num, HI1.out, by omega, HB1.out, HF.out⟩
        case measure => rw [HI1.out.pos, HP0.out]; omega
      | false =>
        by_cases hp0 : pos = 0
        · subst hp0
          have HF : Hid (rightB s = false) := hI (by
            rw [← HR.out, HS.out, rightF, ← HL.out]
            simp)
          go_wp2_with fail
          go_ret
          rw [HF.out]
          exact ⟨rfl, HB1.out⟩
        · have hp1 : ((pos : Int) == 0) = false := by simp; omega
          have HN0 := hI hp0
          clear hp0
          go_wp2_with fail
          refine (in_any c _ numL _ (Sl.spans numL rfl rfl rfl (by decide) (by decide))).mono ?_
          obtain ⟨M, hM⟩ : ∃ M, M = numB c := ⟨_, rfl⟩
          rw [show inB c numL = numB c from rfl, ← hM]
          have HM := hI hM
          clear hM
          rintro e w2 ⟨rfl, hb2⟩
          have HI2 := hI (It.below (It.below HI1.out ((Below.refl w1.heap.size w1).alloc (Nat.le_refl _) _) HI1.out.lt) hb2 (by have := HI1.out.lt; simp; omega))
          have HB2 := hI ((HB1.out.alloc HB1.out.size _).trans (hb2.mono (by have := HB1.out.size; simp; omega)))
          clear hb2 HI1 HB1
          cases M with
          | true =>
            have HF : Hid (rightF (rs s (pos + wd)) (q + 1) = rightB s) := hI (by
              rw [← HR.out, HS.out, rightF, ← HL.out, ← HM.out]
              simp [HN0.out])
            go_wp2_with fail
            go_roundw
            case rel => exact ⟨pos + wd, q + 1, by go_num, HI2.out, by omega, HB2.out, HF.out⟩
            case measure => rw [HI2.out.pos, HP0.out]; omega
          | false =>
            have HF : Hid (rightB s = false) := hI (by
              rw [← HR.out, HS.out, rightF, ← HL.out, ← HM.out]
              simp)
            go_wp2_with fail
            go_ret
            rw [HF.out]
            exact ⟨rfl, HB2.out⟩
    · have hnx : ∀ ty, (Instr.next (.pointer (some ⟨w.heap.size, 0, none⟩)) true ty).run Try.prog wr = .ok (.tuple #[.bool false]) wr := fun ty => Lib.run_next_end_at wr _ s pos ty hit hp
      have HF : Hid (rightB s = (decide (1 ≤ q) && decide (q ≤ 16))) := hI (by rw [← HR.out, rs_end s pos hp, rightF])
      have HB := hI hB
      clear hB hit
      rcases (by omega : q < 1 ∨ (1 ≤ q ∧ q ≤ 16) ∨ 16 < q) with h | ⟨h, h'⟩ | h
      · have h1 : ¬ (1 : Int) ≤ (q : Int) := by omega
        have HG := hI (HF.out.trans (show _ = false by rw [decide_eq_false (by omega : ¬ 1 ≤ q)]; rfl))
        clear h
        go_wp2_with fail
        go_ret
        rw [HG.out]
        exact ⟨rfl, HB.out⟩
      · have h1 : (1 : Int) ≤ (q : Int) := by omega
        have h2 : (q : Int) ≤ 16 := by omega
        have HG := hI (HF.out.trans (show _ = true by rw [decide_eq_true h, decide_eq_true h']; rfl))
        clear h h'
        go_wp2_with fail
        go_ret
        rw [HG.out]
        exact ⟨rfl, HB.out⟩
      · have h1 : (1 : Int) ≤ (q : Int) := by omega
        have h2 : ¬ (q : Int) ≤ 16 := by omega
        have HG := hI (HF.out.trans (show _ = false by rw [decide_eq_false (by omega : ¬ q ≤ 16)]; simp))
        clear h
        go_wp2_with fail
        go_ret
        rw [HG.out]
        exact ⟨rfl, HB.out⟩
/-- A text of bytes. -/
def tx (l : List UInt8) : ByteArray := ⟨l.toArray⟩
theorem tx_size (l : List UInt8) : (tx l).size = l.length := by simp [tx, ByteArray.size]
theorem run_convS (w : World) (v : Value) (l : List UInt8) (h : Bs w v l) : (convert 27 9 v).run Try.prog w = .ok (.string (tx l)) w := by
  obtain ⟨a, cap, rfl, hcap, hm⟩ := h.form
  by_cases h0 : l.length = 0
  · obtain rfl : l = [] := List.eq_nil_of_length_eq_zero h0
    cases a with
    | none => exact Lib.run_convert_nil_bytes w _ _ _ cap Try.underlying27 Try.underlying5 Try.underlying9
    | some a => exact run_convert_bytes_back w _ _ _ a cap [] Try.underlying27 Try.underlying5 Try.underlying9 (fun j hj => by simp at hj)
  · obtain ⟨b, off, rfl, hc⟩ := h.addr (by rw [bCells_length]; omega)
    refine run_convert_bytes_back w _ _ _ ⟨b, off, none⟩ cap l Try.underlying27 Try.underlying5 Try.underlying9 (fun j hj => ?_)
    rw [Addr.add_lit]
    exact hc j _ (bCells_get l j hj)
theorem fld_n (a b c d e : Value) (w : World) : (Instr.field 70 (.agg #[a, b, c, d, e]) 2).run Try.prog w = .ok c w := by kernel_rfl
theorem fld_b (a b c d e : Value) (w : World) : (Instr.field 70 (.agg #[a, b, c, d, e]) 3).run Try.prog w = .ok d w := by kernel_rfl
theorem fld_l (a b c d e : Value) (w : World) : (Instr.field 70 (.agg #[a, b, c, d, e]) 4).run Try.prog w = .ok e w := by kernel_rfl
def maxT : Nat := 1099511627776
def numS (rem : List Tv) (bad : Bool) : Nat × List Tv × Bool :=
  if maxT < (nextS 0 rem bad).1.n then (0, (nextS 0 rem bad).2.1, true) else ((nextS 0 rem bad).1.n, (nextS 0 rem bad).2)
def nameS (rem : List Tv) (bad : Bool) : List UInt8 × List Tv × Bool :=
  ((nextS 1 rem bad).1.b, (nextS 1 rem bad).2.1, if rightB (tx (nextS 1 rem bad).1.b) = true then (nextS 1 rem bad).2.2 else true)
def keyS (rem : List Tv) (bad : Bool) : List UInt8 × List Tv × Bool :=
  ((keyB (nextS 1 rem bad).1.b).1, (nextS 1 rem bad).2.1, if (keyB (nextS 1 rem bad).1.b).2 = true then (nextS 1 rem bad).2.2 else true)
def truthS (rem : List Tv) (bad : Bool) : Bool × List Tv × Bool :=
  ((nextS 0 rem bad).1.n == 1, (nextS 0 rem bad).2.1, if 1 < (nextS 0 rem bad).1.n then true else (nextS 0 rem bad).2.2)
def bytesS (rem : List Tv) (bad : Bool) : List UInt8 × List Tv × Bool := ((nextS 1 rem bad).1.b, (nextS 1 rem bad).2)
/-- A taker's step that gives a value. -/
def TkRes (w : World) (F : Nat → Prop) (p : Nat) (v : Value) (r : List Tv × Bool) (e : Ending) (w' : World) : Prop :=
  e = .returned v ∧ Tk w' F p r.1 r.2 ∧ Keeps (fun b => b = p ∨ w.heap.size ≤ b) w w'
theorem Tk.bad {w : World} {F : Nat → Prop} {p : Nat} {rem : List Tv} {bad : Bool} (h : Tk w F p rem bad) : Tk (w.setCell ⟨p, 1, none⟩ (.bool true)) F p rem true ∧ Keeps (fun b => b = p ∨ w.heap.size ≤ b) w (w.setCell ⟨p, 1, none⟩ (.bool true)) := by
  have hk : Keeps (fun b => b = p) w (w.setCell ⟨p, 1, none⟩ (.bool true)) := Keeps.one w p 1 _
  obtain ⟨lv, rows, h1, h2, h3, h4, h5⟩ := h
  have hs : ∀ b, F b → b < w.heap.size → ¬ (b = p) := fun b hb _ e => h5 (by rw [← e]; exact hb)
  exact ⟨⟨lv, rows, h1.set 1 (.bool true), h2.keepF hk h3 hs, h3, h4.keep hk hs, h5⟩, hk.mono (fun _ h => .inl h)⟩
theorem Tk.badCell {w : World} {F : Nat → Prop} {p : Nat} {rem : List Tv} {bad : Bool} (h : Tk w F p rem bad) : w.cell? ⟨p, 1, none⟩ = some (.bool bad) ∧ w.frozen? ⟨p, 1, none⟩ = false := by
  obtain ⟨lv, rows, h1, h2, h3, h4, h5⟩ := h
  exact ⟨h1.cell 1, h1.frozen 1⟩
theorem keeps2 {S : Nat → Prop} {p : Nat} {w w1 w2 : World} (hS : ∀ b, S b ↔ (b = p ∨ w.heap.size ≤ b)) (h : Keeps S w w1) (k : Keeps (fun b => b = p ∨ w1.heap.size ≤ b) w1 w2) : Keeps S w w2 :=
  h.trans (k.mono (fun b hb => (hS b).2 (by rcases hb with h' | h'; exact .inl h'; exact .inr (Nat.le_trans h.size h'))))
set_option maxHeartbeats 2000000 in
set_option maxRecDepth 100000 in
theorem num_any (rem : List Tv) (bad : Bool) (p : Nat) (F : Nat → Prop) (w : World) (h : Tk w F p rem bad) :
    Calls Try.prog 45 #[.pointer (some ⟨p, 0, none⟩)] w (TkRes w F p (.int .i64 (numS rem bad).1) (numS rem bad).2) := by
  go_enter Try.func45, Try.ntmps45
  go_wp2_with fail
  refine (next_any 0 rem bad p F w h).mono ?_
  rintro e w1 ⟨cs, rfl, hx, ht, hk⟩
  obtain ⟨bv, lv, rows, rfl, hb1, hb2, hb3, hb4, hb5⟩ := hx.open_
  obtain ⟨al, cl, rfl, hcl, hml⟩ := hb3.form
  obtain ⟨ab, cb0, rfl, hcb, hmb⟩ := hb1.form
  have HT := hI ht
  have HK := hI hk
  obtain ⟨cb, fb⟩ := ht.badCell
  have hf2 := fld_n
  have hf3 := fld_b
  have HS : Hid (numS rem bad = if maxT < (nextS 0 rem bad).1.n then (0, (nextS 0 rem bad).2.1, true) else ((nextS 0 rem bad).1.n, (nextS 0 rem bad).2)) := hI rfl
  generalize nextS 0 rem bad = r at *
  obtain ⟨x, r1, r2⟩ := r
  simp only at *
  clear hx ht hk hb1 hb2 hb3 hb4 hb5
  generalize x.n = n at *
  by_cases hn : maxT < n
  · have hn' : (1099511627776 : Int) < n := by unfold maxT at hn; omega
    have HS' : Hid (numS rem bad = (0, r1, true)) := hI (by rw [HS.out, if_pos hn])
    clear hn
    go_wp2_with fail
    go_ret
    rw [HS'.out]
    exact ⟨rfl, HT.out.bad.1, keeps2 (fun b => Iff.rfl) HK.out HT.out.bad.2⟩
  · have hn' : ¬ (1099511627776 : Int) < n := by unfold maxT at hn; omega
    have HS' : Hid (numS rem bad = (n, r1, r2)) := hI (by rw [HS.out, if_neg hn])
    have hw : IntKind.i64.wrap (n : Int) = n := by unfold maxT at hn; simp only [IntKind.wrap_i64]; omega
    clear hn
    go_wp2_with fail
    go_ret
    rw [HS'.out]
    exact ⟨rfl, HT.out, HK.out⟩
set_option maxHeartbeats 2000000 in
set_option maxRecDepth 100000 in
theorem truth_any (rem : List Tv) (bad : Bool) (p : Nat) (F : Nat → Prop) (w : World) (h : Tk w F p rem bad) :
    Calls Try.prog 48 #[.pointer (some ⟨p, 0, none⟩)] w (TkRes w F p (.bool (truthS rem bad).1) (truthS rem bad).2) := by
  go_enter Try.func48, Try.ntmps48
  go_wp2_with fail
  refine (next_any 0 rem bad p F w h).mono ?_
  rintro e w1 ⟨cs, rfl, hx, ht, hk⟩
  obtain ⟨bv, lv, rows, rfl, hb1, hb2, hb3, hb4, hb5⟩ := hx.open_
  obtain ⟨al, cl, rfl, hcl, hml⟩ := hb3.form
  obtain ⟨ab, cb0, rfl, hcb, hmb⟩ := hb1.form
  have HT := hI ht
  have HK := hI hk
  obtain ⟨cb, fb⟩ := ht.badCell
  have hf2 := fld_n
  have hf3 := fld_b
  have HS : Hid (truthS rem bad = ((nextS 0 rem bad).1.n == 1, (nextS 0 rem bad).2.1, if 1 < (nextS 0 rem bad).1.n then true else (nextS 0 rem bad).2.2)) := hI rfl
  generalize nextS 0 rem bad = r at *
  obtain ⟨x, r1, r2⟩ := r
  simp only at *
  clear hx ht hk hb1 hb2 hb3 hb4 hb5
  generalize x.n = n at *
  have hq : Hid (((n : Int) == 1) = (n == 1)) := hI (by rw [Bool.eq_iff_iff]; simp; omega)
  by_cases hn : 1 < n
  · have hn' : (1 : Int) < n := by omega
    have HS' : Hid (truthS rem bad = (n == 1, r1, true)) := hI (by rw [HS.out, if_pos hn])
    clear hn
    go_wp2_with fail
    go_ret
    rw [HS'.out, ← hq.out]
    exact ⟨rfl, HT.out.bad.1, keeps2 (fun b => Iff.rfl) HK.out HT.out.bad.2⟩
  · have hn' : ¬ (1 : Int) < n := by omega
    have HS' : Hid (truthS rem bad = (n == 1, r1, r2)) := hI (by rw [HS.out, if_neg hn])
    clear hn
    go_wp2_with fail
    go_ret
    rw [HS'.out, ← hq.out]
    exact ⟨rfl, HT.out, HK.out⟩
set_option maxHeartbeats 2000000 in
set_option maxRecDepth 100000 in
theorem name_any (rem : List Tv) (bad : Bool) (p : Nat) (F : Nat → Prop) (w : World) (h : Tk w F p rem bad) :
    Calls Try.prog 44 #[.pointer (some ⟨p, 0, none⟩)] w (TkRes w F p (.string (tx (nameS rem bad).1)) (nameS rem bad).2) := by
  go_enter Try.func44, Try.ntmps44
  go_wp2_with fail
  refine (next_any 1 rem bad p F w h).mono ?_
  rintro e w1 ⟨cs, rfl, hx, ht, hk⟩
  obtain ⟨bv, lv, rows, rfl, hb1, hb2, hb3, hb4, hb5⟩ := hx.open_
  obtain ⟨al, cl, rfl, hcl, hml⟩ := hb3.form
  obtain ⟨ab, cb0, rfl, hcb, hmb⟩ := hb1.form
  have HT := hI ht
  have HK := hI hk
  obtain ⟨cb, fb⟩ := ht.badCell
  have hf2 := fld_n
  have hf3 := fld_b
  have HS : Hid (nameS rem bad = ((nextS 1 rem bad).1.b, (nextS 1 rem bad).2.1, if rightB (tx (nextS 1 rem bad).1.b) = true then (nextS 1 rem bad).2.2 else true)) := hI rfl
  generalize nextS 1 rem bad = r at *
  obtain ⟨x, r1, r2⟩ := r
  simp only at *
  have HB := hI hb1
  have HR := hI (right_any (tx x.b) w1 (by rw [tx_size]; omega))
  clear hx ht hk hb1 hb2 hb3 hb4 hb5
  generalize x.b = l at *
  have hcv := run_convS w1 _ l HB.out
  go_wp2_with fail
  refine HR.out.mono ?_
  rintro e w2 ⟨rfl, hb2⟩
  have HT2 := hI (HT.out.below hb2)
  have HK2 : Hid (Keeps (fun b => b = p ∨ w.heap.size ≤ b) w w2) := hI (HK.out.trans ((Keeps.of_below hb2).mono (fun b hb => .inr (Nat.le_trans HK.out.size hb))))
  obtain ⟨cb, fb⟩ := HT2.out.badCell
  clear hb2 HB HR
  obtain ⟨d, hd⟩ : ∃ d, d = rightB (tx l) := ⟨_, rfl⟩
  rw [← hd] at HS ⊢
  clear hd
  cases d with
  | false =>
    go_wp2_with fail
    go_ret
    rw [HS.out]
    exact ⟨rfl, HT2.out.bad.1, keeps2 (fun b => Iff.rfl) HK2.out HT2.out.bad.2⟩
  | true =>
    go_wp2_with fail
    go_ret
    rw [HS.out]
    exact ⟨rfl, HT2.out, HK2.out⟩
set_option maxHeartbeats 2000000 in
set_option maxRecDepth 100000 in
theorem bytes_any (rem : List Tv) (bad : Bool) (p : Nat) (F : Nat → Prop) (w : World) (h : Tk w F p rem bad) :
    Calls Try.prog 46 #[.pointer (some ⟨p, 0, none⟩)] w fun e w' => ∃ v, TkRes w F p v (bytesS rem bad).2 e w' ∧ Bs w' v (bytesS rem bad).1 ∧ (0 < (bytesS rem bad).1.length → ∀ x, v.ownBlock = some x → F x) := by
  go_enter Try.func46, Try.ntmps46
  go_wp2_with fail
  refine (next_any 1 rem bad p F w h).mono ?_
  rintro e w1 ⟨cs, rfl, hx, ht, hk⟩
  obtain ⟨bv, lv, rows, rfl, hb1, hb2, hb3, hb4, hb5⟩ := hx.open_
  obtain ⟨al, cl, rfl, hcl, hml⟩ := hb3.form
  obtain ⟨ab, cb0, rfl, hcb, hmb⟩ := hb1.form
  have HT := hI ht
  have HK := hI hk
  obtain ⟨cb, fb⟩ := ht.badCell
  have hf2 := fld_n
  have hf3 := fld_b
  clear hb3 hb4 hb5
  have HB := hI hb1
  have HB2 := hI hb2
  clear hx ht hk hb1 hb2
  go_wp2_with fail
  go_ret
  exact ⟨_, ⟨rfl, HT.out, HK.out⟩, HB.out, HB2.out⟩
set_option maxRecDepth 100000 in
theorem done_any (rem : List Tv) (bad : Bool) (p : Nat) (F : Nat → Prop) (w : World) (h : Tk w F p rem bad) :
    Calls Try.prog 50 #[.pointer (some ⟨p, 0, none⟩)] w fun e w' => e = .returned (.bool (!bad && rem.isEmpty)) ∧ w = w' := by
  obtain ⟨lv, rows, h1, h2, h3, h4, h5⟩ := h
  obtain ⟨a, cap, rfl, hcap, hm⟩ := h2.form
  have c0 := h1.cell 0
  have c1 : w.cell? ⟨p, 1, none⟩ = some (.bool bad) := h1.cell 1
  simp only [List.getElem?_cons_zero] at c0
  have HR : Hid ((((rem.length : Nat) : Int) == 0) = rem.isEmpty) := hI (by cases rem <;> simp <;> omega)
  clear h1 h2 h3 h4 h5
  cases bad with
  | true =>
    go_enter Try.func50, Try.ntmps50
    go_wp2_with fail
    go_ret
    exact ⟨rfl, rfl⟩
  | false =>
    go_enter Try.func50, Try.ntmps50
    go_wp2_with fail
    go_ret
    rw [HR.out]
    exact ⟨rfl, rfl⟩
set_option maxHeartbeats 2000000 in
set_option maxRecDepth 100000 in
theorem key_tk' (rem : List Tv) (bad : Bool) (p : Nat) (F : Nat → Prop) (w : World) (h : Tk w F p rem bad) (hF : ¬ F w.heap.size) :
    Calls Try.prog 73 #[.pointer (some ⟨p, 0, none⟩)] w (TkRes w F p (keyV (keyS rem bad).1) (keyS rem bad).2) := by
  have hpl := h.lt
  have HQ0 := hI (Blk.new w zs16 133)
  have hB0 : Below w.heap.size w (w.alloc (.cells zs16.toArray 133)) := (Below.refl _ _).alloc (Nat.le_refl _) _
  have HB0 := hI hB0
  have HN := hI (next_any 1 rem bad p F _ (h.below hB0))
  have HF := hI hF
  clear hF
  have HPN : Hid (p ≠ w.heap.size) := hI (by omega)
  clear hB0 h
  go_enter Try.func73, Try.ntmps73
  go_wp2_with fail
  refine HN.out.mono ?_
  rintro e w1 ⟨cs, rfl, hx, ht, hk⟩
  obtain ⟨bv, lv, rows, rfl, hb1, hb2, hb3, hb4, hb5⟩ := hx.open_
  obtain ⟨al, cl, rfl, hcl, hml⟩ := hb3.form
  obtain ⟨ab, cb0, rfl, hcb, hmb⟩ := hb1.form
  have hf2 := fld_n
  have hf3 := fld_b
  have HT := hI ht
  have HK : Hid (Keeps (fun b => b = p ∨ w.heap.size ≤ b) w w1) := hI (((Keeps.of_below HB0.out).mono (fun b hb => .inr hb)).trans (hk.mono (fun b hb => by rcases hb with h | h; exact .inl h; exact .inr (by simp at h; omega))))
  have HQ1 := hI (HQ0.out.keep hk (fun h => by rcases h with h | h; exact HPN.out h.symm; simp at h; omega))
  have HZ : Hid (w.heap.size < w1.heap.size) := hI HQ1.out.lt
  have HS : Hid (keyS rem bad = ((keyB (nextS 1 rem bad).1.b).1, (nextS 1 rem bad).2.1, if (keyB (nextS 1 rem bad).1.b).2 = true then (nextS 1 rem bad).2.2 else true)) := hI rfl
  generalize nextS 1 rem bad = r at *
  obtain ⟨x, r1, r2⟩ := r
  simp only at *
  have HR := hI (key_any _ x.b w1 hb1)
  clear hx ht hk hb1 hb2 hb3 hb4 hb5 HQ0 HB0 HN
  generalize x.b = l at *
  go_wp2_with fail
  refine HR.out.mono ?_
  rintro e w2 ⟨rfl, hb2⟩
  have HL : Hid ((keyB l).1.length = 16) := hI (keyB_length l)
  generalize keyB l = kk at *
  obtain ⟨k, d⟩ := kk
  simp only at *
  obtain ⟨q1, hq1⟩ : ∃ q1, q1 = w2.heap.size := ⟨_, rfl⟩
  have HT2 := hI (HT.out.below hb2)
  have HG : Hid (Blk (w2.alloc (.cells zs16.toArray 133)) w2.heap.size zs16 133) := hI (Blk.new _ _ _)
  have HQ2 : Hid (Blk (w2.alloc (.cells zs16.toArray 133)) w.heap.size zs16 133) := hI ((HQ1.out.below hb2 HZ.out).alloc _)
  have HK2 : Hid (Keeps (fun b => b = p ∨ w.heap.size ≤ b) w (w2.alloc (.cells zs16.toArray 133))) := hI ((HK.out.trans ((Keeps.of_below hb2).mono (fun b hb => .inr (Nat.le_trans HK.out.size hb)))).alloc _ (.inr (Nat.le_trans HK.out.size hb2.size)))
  have HNE : Hid (p ≠ w2.heap.size ∧ w.heap.size ≠ w2.heap.size ∧ w.heap.size ≤ w2.heap.size) := hI (by have := HZ.out; have := hb2.size; exact ⟨by omega, by omega, by omega⟩)
  clear hb2 HR
  go_wp2_with ((with_reducible show wpList _ _ _ (⟨none, .store _ (.tmp 3) (.tmp 10), _, _, _, _⟩ :: _) _ _); refine wpList_stAgg rfl (.tmp 3) (.tmp 10) aggKey rfl rfl (vs := bCells k) rfl (by rw [bCells_length]; exact HL.out) HG.out (by simp [zs16]) (bCells_one k) ?_)
  intro w3 h3 k3
  have H3 : Hid (Blk w3 w2.heap.size (bCells k) 133) := hI (by simpa [zs16] using h3)
  have HT3 := hI (HT2.out.below (((Below.refl w2.heap.size w2).alloc (Nat.le_refl _) _).trans (k3.below (fun b hb => Nat.le_of_eq hb.symm))))
  have HQ3 := hI (HQ2.out.keep k3 HNE.out.2.1)
  have HK3 : Hid (Keeps (fun b => b = p ∨ w.heap.size ≤ b) w w3) := hI (HK2.out.trans (k3.mono (fun b hb => .inr (by rw [hb]; exact HNE.out.2.2))))
  obtain ⟨cb, fb⟩ := HT3.out.badCell
  clear h3 k3
  clear hq1
  generalize w2.heap.size = q1 at *
  have hend : ∀ W : World, Tk W F p r1 (if d = true then r2 else true) → Blk W w.heap.size zs16 133 → Blk W q1 (bCells k) 133 → Keeps (fun b => b = p ∨ w.heap.size ≤ b) w W → True := fun _ _ _ _ _ => trivial
  clear hend
  cases d with
  | false =>
    have HT4 := hI HT3.out.bad.1
    have HQ4 := hI (HQ3.out.set_other (p := ⟨p, 1, none⟩) (fun e => HPN.out e.symm) (.bool true))
    have H4 := hI (H3.out.set_other (p := ⟨p, 1, none⟩) (fun e => HNE.out.1 e.symm) (.bool true))
    have HK4 := hI (keeps2 (fun b => Iff.rfl) HK3.out HT3.out.bad.2)
    go_wp2_with (first | ((with_reducible show wpList _ _ _ (⟨some 17, _, _, _, _, _⟩ :: _) _ _); refine wpList_ldAgg rfl (.tmp 3) aggKey rfl rfl (cs := bCells k) (by rw [bCells_length]; exact HL.out) H4.out.cellsAll ?_) | ((with_reducible show wpList _ _ _ (⟨none, .store _ (.tmp 2) (.tmp 17), _, _, _, _⟩ :: _) _ _); refine wpList_stAgg rfl (.tmp 2) (.tmp 17) aggKey rfl rfl (vs := bCells k) rfl (by rw [bCells_length]; exact HL.out) HQ4.out (by simp [zs16]) (bCells_one k) ?_))
    intro w5 h5 k5
    have H5 : Hid (Blk w5 w.heap.size (bCells k) 133) := hI (by simpa [zs16] using h5)
    have HT5 := hI (HT4.out.keep k5 (fun b hb hl e => HF.out (by rw [← e]; exact hb)) HPN.out)
    have HK5 : Hid (Keeps (fun b => b = p ∨ w.heap.size ≤ b) w w5) := hI (HK4.out.trans (k5.mono (fun b hb => .inr (Nat.le_of_eq hb.symm))))
    clear h5 k5
    go_wp2_with fail
    exact bodyPost_ret (results_agg rfl aggKey rfl (cs := bCells k) (by rw [bCells_length]; exact HL.out) H5.out.cellsAll) rfl ⟨by rw [HS.out]; rfl, by rw [HS.out]; exact HT5.out, HK5.out⟩
  | true =>
    go_wp2_with (first | ((with_reducible show wpList _ _ _ (⟨some 17, _, _, _, _, _⟩ :: _) _ _); refine wpList_ldAgg rfl (.tmp 3) aggKey rfl rfl (cs := bCells k) (by rw [bCells_length]; exact HL.out) H3.out.cellsAll ?_) | ((with_reducible show wpList _ _ _ (⟨none, .store _ (.tmp 2) (.tmp 17), _, _, _, _⟩ :: _) _ _); refine wpList_stAgg rfl (.tmp 2) (.tmp 17) aggKey rfl rfl (vs := bCells k) rfl (by rw [bCells_length]; exact HL.out) HQ3.out (by simp [zs16]) (bCells_one k) ?_))
    intro w5 h5 k5
    have H5 : Hid (Blk w5 w.heap.size (bCells k) 133) := hI (by simpa [zs16] using h5)
    have HT5 := hI (HT3.out.keep k5 (fun b hb hl e => HF.out (by rw [← e]; exact hb)) HPN.out)
    have HK5 : Hid (Keeps (fun b => b = p ∨ w.heap.size ≤ b) w w5) := hI (HK3.out.trans (k5.mono (fun b hb => .inr (Nat.le_of_eq hb.symm))))
    clear h5 k5
    go_wp2_with fail
    exact bodyPost_ret (results_agg rfl aggKey rfl (cs := bCells k) (by rw [bCells_length]; exact HL.out) H5.out.cellsAll) rfl ⟨by rw [HS.out]; rfl, by rw [HS.out]; exact HT5.out, HK5.out⟩
theorem Tk.tight {w : World} {F : Nat → Prop} {p : Nat} {rem : List Tv} {bad : Bool} (h : Tk w F p rem bad) : Tk w (fun y => F y ∧ y < w.heap.size) p rem bad := by
  obtain ⟨lv, rows, h1, h2, h3, h4, h5⟩ := h
  exact ⟨lv, rows, h1, h2, fun hp x hx => ⟨h3 hp x hx, Sl.own_lt h2 (by decide) hp x hx⟩, h4.tight, fun h => h5 h.1⟩
theorem Tk.mono {w : World} {F G : Nat → Prop} {p : Nat} {rem : List Tv} {bad : Bool} (h : Tk w F p rem bad) (hg : ∀ b, F b → G b) (hp : ¬ G p) : Tk w G p rem bad := by
  obtain ⟨lv, rows, h1, h2, h3, h4, h5⟩ := h
  exact ⟨lv, rows, h1, h2, fun hp x hx => hg x (h3 hp x hx), h4.mono hg, hp⟩
theorem Tk.notF {w : World} {F : Nat → Prop} {p : Nat} {rem : List Tv} {bad : Bool} (h : Tk w F p rem bad) : ¬ F p := by
  obtain ⟨lv, rows, h1, h2, h3, h4, h5⟩ := h
  exact h5
theorem key_tk (rem : List Tv) (bad : Bool) (p : Nat) (F : Nat → Prop) (w : World) (h : Tk w F p rem bad) :
    Calls Try.prog 73 #[.pointer (some ⟨p, 0, none⟩)] w (TkRes w F p (keyV (keyS rem bad).1) (keyS rem bad).2) :=
  (key_tk' rem bad p _ w h.tight (fun h => Nat.lt_irrefl _ h.2)).mono fun _ _ ⟨h1, h2, h3⟩ => ⟨h1, h2.mono (fun _ h => h.1) h.notF, h3⟩
/-- A row that a conversion has laid: its cells, the spare ones too; only behind its end it is marked. -/
def Cv (w : World) (g n cap : Nat) (cs : List Value) : Prop :=
  cs.length = n ∧ (∀ u ∈ cs, u.oneCell' = true) ∧ n ≤ cap ∧ cap ≤ maxLen ∧ ∃ cur : Array Value, w.heap[g]? = some (.cells cur 5 (cur.size, cur.size + 1)) ∧ cur.size = cap ∧ cur.toList.take n = cs
theorem Cv.sl {w : World} {g n cap : Nat} {cs : List Value} (h : Cv w g n cap cs) : Sl w 1 (.slice (some ⟨g, 0, none⟩) n cap) n cs := by
  obtain ⟨h1, h2, h3, h4, cur, h5, h6, h7⟩ := h
  refine ⟨by omega, h2, _, cap, rfl, h3, h4, fun h => by simp at h, .inr ⟨g, 0, rfl, fun j u hj => ?_⟩⟩
  have hjl : j < n := by have := (List.getElem?_eq_some_iff.1 hj).1; omega
  rw [← h7, List.getElem?_take, if_pos hjl] at hj
  rw [Nat.zero_add, cell_of_row w g j cur _ _ h5, ← Array.getElem?_toList]
  exact hj
theorem Cv.below {w w' : World} {g n cap : Nat} {cs : List Value} (h : Cv w g n cap cs) (hk : Below w.heap.size w w') : Cv w' g n cap cs := by
  obtain ⟨h1, h2, h3, h4, cur, h5, h6, h7⟩ := h
  exact ⟨h1, h2, h3, h4, cur, (hk.block g (block_lt h5)).trans h5, h6, h7⟩
theorem Cv.alloc {w : World} {g n cap : Nat} {cs : List Value} (h : Cv w g n cap cs) (o : Obj) : Cv (w.alloc o) g n cap cs := h.below ((Below.refl _ _).alloc (Nat.le_refl _) _)
theorem run_conv (w : World) (s : ByteArray) (hs : s.size ≤ 281474976710656) : ∃ cap w', (convert 9 27 (.string s)).run Try.prog w = .ok (.slice (some ⟨w.heap.size, 0, none⟩) s.size cap) w' ∧
    Cv w' w.heap.size s.size cap (bCells s.data.toList) ∧ Below w.heap.size w w' ∧ w'.heap.size = w.heap.size + 1 := by
  have hge := grownCap_ge w s.size 0 5
  have hle := grownCap_le_maxLen w s.size 0 5 (by unfold maxLen; omega)
  have hl : s.data.toList.length = s.size := rfl
  refine ⟨_, _, Lib.run_convert_string_bytes w 9 27 5 s Try.underlying9 Try.underlying27 Try.underlying5, ⟨by rw [bCells_length, hl], bCells_one _, hge, hle, Lib.bytesCells w 5 s, Lib.bytesWorld_at_new w _ s, ?_, ?_⟩, ⟨?_, ?_, ?_, ?_, fun k hk => Lib.bytesWorld_at_old w _ s k hk⟩, Lib.bytesWorld_size w _ s⟩
  · simp only [Lib.bytesCells, Array.size_append, Array.size_map, Array.size_replicate]
    rw [show s.data.size = s.size from rfl]
    omega
  · simp only [Lib.bytesCells, Array.toList_append, Array.toList_map]
    rw [List.take_append_of_le_length (by simp), List.take_of_length_le (by simp)]
    rfl
  · rfl
  · rfl
  · rfl
  · rw [Lib.bytesWorld_size]; omega
theorem wpList_conv {ops : Array Oper} {rest : List Oper} {o : Oper} {a : Act} {w : World} {Q : Exit → Act → World → Prop} (hgd : Region.wanted o (yielded ops a.tmps) = true) (x : Operand)
    (ho : o.op = .convert 9 27 x) {s : ByteArray} (hx : a.eval x = .string s) (hs : s.size ≤ 281474976710656)
    (h : ∀ cap w', Cv w' w.heap.size s.size cap (bCells s.data.toList) → Below w.heap.size w w' → w'.heap.size = w.heap.size + 1 → wpList Try.prog ops Q rest (a.put o.dst (.slice (some ⟨w.heap.size, 0, none⟩) s.size cap)) w') : wpList Try.prog ops Q (o :: rest) a w := by
  obtain ⟨cap, w', hr, h2, h3, h4⟩ := run_conv w s hs
  refine wpList_want hgd fun K hK => ?_
  unfold Oper.wp execOp
  simp only [ho, hx, Sem.run_bind, Sem.run_pure, Result.andThen_ok, hr]
  exact hK _ _ (h cap w' h2 h3 h4)
end Go.Proofs.Ytofmkkcbfeadgaa
