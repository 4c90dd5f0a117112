/- Texts of this proof, one behind the other: Octet2, DerHead, DerWrite, DerWr, DerLaw, DerMk, Res, Base2, OwnZ, MTk. -/
import Derived.Test.YtpjkidcfidmfaaaMwB3
import Derived.Outline
namespace Go.Proofs.Ytpjkidcfidmfaaa
set_option linter.unusedSimpArgs false
set_option linter.unusedVariables false
open Go.RowKit
def keyB (l : List UInt8) : List UInt8 × Bool := if l.length = 16 then (l, true) else (List.replicate 16 0, false)
theorem keyB_length (l : List UInt8) : (keyB l).1.length = 16 := by unfold keyB; split <;> simp [*]
set_option maxRecDepth 100000 in
theorem key_any (v : Value) (l : List UInt8) (w : World) (h : Bs w v l) :
    Calls Try.prog 70 #[v] w fun e w' => e = .returned (.tuple #[keyV (keyB l).1, .bool (keyB l).2]) ∧ Below w.heap.size w w' := by
  obtain ⟨a, cap, rfl, hcap, hcm⟩ := h.form
  have hbel : Below w.heap.size w ((w.alloc (.cells zs16.toArray 119)).alloc (.cells zs16.toArray 119)) := ((Below.refl _ _).alloc (Nat.le_refl _) _).alloc (by simp) _
  have B0 := hqZ (((Blk.new w zs16 119).alloc (.cells zs16.toArray 119)))
  have B1 : Hid (Blk ((w.alloc (.cells zs16.toArray 119)).alloc (.cells zs16.toArray 119)) (w.heap.size + 1) zs16 119) := hqZ (Blk.at_ (cs := zs16.toArray) (by simp))
  have HS := hqZ ((h.alloc (.cells zs16.toArray 119)).alloc (.cells zs16.toArray 119))
  have HB := hqZ hbel
  clear h hbel
  by_cases hl : l.length = 16
  · have hn' : ((l.length : Int) != 16) = false := by rw [hl]; rfl
    have HK : Hid (keyB l = (l, true)) := hqZ (by rw [keyB, if_pos hl])
    have HL := hqZ hl
    clear hl
    go_enter Try.func70, Try.ntmps70
    go_wp2_with ((with_reducible show wpList _ _ _ (⟨some 11, _, _, _, _, _⟩ :: _) _ _); refine wpList_cp rfl (.tmp 9) (.tmp 10) elBytes rfl rfl B1.out rfl HS.out (by rw [HL.out]; decide) ?_)
    intro w' h1 h2
    have h1' : Blk w' (w.heap.size + 1) (bCells l) 119 := by
      have := h1
      rw [HL.out] at this
      rw [show min 16 16 = 16 from rfl, List.take_of_length_le (by rw [bCells_length, HL.out]; exact Nat.le_refl _)] at this
      simpa [zs16] using this
    have B0' := hqZ (B0.out.keep h2 (by omega))
    have HB' : Hid (Below w.heap.size w w') := hqZ (HB.out.trans (h2.below (by omega)))
    have hsz : w.heap.size + 1 < w'.heap.size := h1'.lt
    have H1 := hqZ h1'
    have HBL : (bCells l).length = 16 := by rw [bCells_length, HL.out]
    have HBL' := hqZ HBL
    clear h1 h1' h2 HBL
    go_wp2_with (first | ((with_reducible show wpList _ _ _ (⟨some 12, _, _, _, _, _⟩ :: _) _ _); refine wpList_ldAgg rfl (.tmp 4) aggKey rfl rfl (cs := bCells l) HBL'.out H1.out.cellsAll ?_) | ((with_reducible show wpList _ _ _ (⟨none, .store _ (.tmp 2) (.tmp 12), _, _, _, _⟩ :: _) _ _); refine wpList_stAgg rfl (.tmp 2) (.tmp 12) aggKey rfl rfl (vs := bCells l) rfl HBL'.out B0'.out (Nat.le_refl _) (bCells_one _) ?_))
    intro w2 h3 h4
    have h3' : Blk w2 w.heap.size (bCells l) 119 := by simpa [zs16] using h3
    have H3 := hqZ h3'
    have HB2 : Hid (Below w.heap.size w w2) := hqZ (HB'.out.trans (h4.below (by omega)))
    clear h3 h3' h4
    go_wp2_with fail
    rw [HK.out]
    exact bodyPost_ret (results_agg_tmp rfl aggKey rfl (cs := bCells l) HBL'.out H3.out.cellsAll) rfl ⟨rfl, HB2.out⟩
  · have hn' : ((l.length : Int) != 16) = true := by rw [bne_iff_ne]; omega
    have HK : Hid (keyB l = (List.replicate 16 0, false)) := hqZ (by rw [keyB, if_neg hl])
    clear hl
    go_enter Try.func70, Try.ntmps70
    go_wp2_with (first | ((with_reducible show wpList _ _ _ (⟨some 8, _, _, _, _, _⟩ :: _) _ _); refine wpList_ldAgg rfl (.tmp 4) aggKey rfl rfl (cs := zs16) rfl B1.out.cellsAll ?_) | ((with_reducible show wpList _ _ _ (⟨none, .store _ (.tmp 2) (.tmp 8), _, _, _, _⟩ :: _) _ _); refine wpList_stAgg rfl (.tmp 2) (.tmp 8) aggKey rfl rfl (vs := zs16) rfl rfl B0.out (Nat.le_refl _) (by decide) ?_))
    intro w2 h3 h4
    have h3' : Blk w2 w.heap.size zs16 119 := by simpa [zs16] using h3
    have H3 := hqZ h3'
    have HB2 : Hid (Below w.heap.size w w2) := hqZ (HB.out.trans (h4.below (by omega)))
    clear h3 h3' h4
    go_wp2_with fail
    rw [HK.out]
    exact bodyPost_ret (results_agg_tmp rfl aggKey rfl (cs := zs16) rfl H3.out.cellsAll) rfl ⟨rfl, HB2.out⟩
def Rs (w : World) (v : Value) (rows : List (List UInt8)) : Prop := ∃ vs : List Value, vs.length = rows.length ∧ Sl w 1 v rows.length vs ∧ ∀ (j : Nat) u r, vs[j]? = some u → rows[j]? = some r → Bs w u r
theorem Rs.below {w w' : World} {v : Value} {rows : List (List UInt8)} (h : Rs w v rows) (hb : Below w.heap.size w w') : Rs w' v rows := by
  obtain ⟨vs, h1, h2, h3⟩ := h
  exact ⟨vs, h1, h2.below hb, fun j u r hu hr => (h3 j u r hu hr).below hb⟩
theorem flatten_take_succ (rows : List (List UInt8)) (k : Nat) (h : k < rows.length) : (rows.take (k + 1)).flatten = (rows.take k).flatten ++ rows[k] := by
  rw [List.take_succ_eq_append_getElem h, List.flatten_append, List.flatten_cons, List.flatten_nil, List.append_nil]
theorem flatten_take_le (rows : List (List UInt8)) (k : Nat) : (rows.take k).flatten.length ≤ rows.flatten.length := by
  have h := congrArg (fun l => (List.flatten l).length) (List.take_append_drop k rows)
  simp only [List.flatten_append, List.length_append] at h
  omega
set_option maxRecDepth 100000 in
theorem joined_any (v : Value) (rows : List (List UInt8)) (w : World) (h : Rs w v rows) (hlen : rows.flatten.length ≤ 140737521909760) :
    Calls Try.prog 64 #[v] w fun e w' => ∃ v', e = .returned v' ∧ OwnBs w' w.heap.size v' rows.flatten ∧ Below w.heap.size w w' := by
  obtain ⟨vs, hvl, hsl, hel⟩ := h
  obtain ⟨a, cap, rfl, hcap, hcm⟩ := hsl.form
  unfold maxLen at hcm
  have HSL := hqZ hsl
  have HEL := hqZ hel
  have HVL := hqZ hvl
  clear hsl hel hvl
  go_enter Try.func64, Try.ntmps64
  go_wp2
  go_loopw [3, 8] (fun o i wr => ∃ k : Nat, k ≤ rows.length ∧ i = .int .i64 k ∧ OwnBs wr w.heap.size o (rows.take k).flatten ∧ Below w.heap.size w wr) (fun _ i _ => rows.length - (intOf i).toNat)
  case atStart => exact ⟨0, Nat.zero_le _, rfl, Own.nil _ _ _ _ _, Below.refl _ _⟩
  case round =>
    obtain ⟨k, hk, rfl, hown, hbel⟩ := hrel
    have HO := hqZ hown
    clear hown
    have hsz := hbel.size
    have hfl := flatten_take_le rows (k + 1)
    by_cases hlt : k < rows.length
    · obtain ⟨b, off, rfl, hc⟩ := HSL.out.addr (by rw [HVL.out]; omega)
      have hk' : k < vs.length := by rw [HVL.out]; exact hlt
      have hrow : Bs wr vs[k] rows[k] := (HEL.out k _ _ (List.getElem?_eq_getElem hk') (List.getElem?_eq_getElem hlt)).below hbel
      have c0 : wr.cell? ⟨b, off + k, none⟩ = some vs[k] := below_cell hbel (hc k _ (List.getElem?_eq_getElem hk'))
      obtain ⟨L, hL⟩ : ∃ L, (rows.take k).flatten = L := ⟨_, rfl⟩
      have HL := hqZ hL
      rw [flatten_take_succ rows k hlt, List.length_append, hL] at hfl
      have hown := HO.out
      rw [hL] at hown
      have HOL := hqZ hown
      clear hL hown
      obtain ⟨ak, ck, hvk, _, _⟩ := hrow.form
      rw [hvk] at c0 hrow
      have HR := hqZ hrow
      clear hc hrow hvk
      go_wp2_with ((with_reducible show wpList _ _ _ (⟨some 14, _, _, _, _, _⟩ :: _) _ _); refine wpList_appW rfl (.tmp 12) (.tmp 13) elBytes rfl w.heap.size HOL.out HR.out (by unfold maxLen; omega) (by omega) hsz ?_)
      intro v' w' h1 h2 h3
      have HO' : Hid (OwnBs w' w.heap.size v' (rows.take (k + 1)).flatten) := by
        refine hqZ ?_
        unfold OwnBs
        rw [flatten_take_succ rows k hlt, HL.out, List.length_append, bCells_append]
        exact h1
      have hb2 : Below w.heap.size w w' := hbel.trans (h2.below (by
        intro k' hk'
        rcases hk' with ⟨_, h⟩ | h <;> omega))
      clear h1 h2 h3
      go_wp2_with fail
      go_roundw
      case rel => exact ⟨k + 1, by omega, by go_num, HO'.out, hb2⟩
      case measure => simp [intOf]; omega
    · obtain rfl : k = rows.length := by omega
      have HO' := HO.out
      rw [List.take_length] at HO'
      have HO2 := hqZ HO'
      clear HO'
      go_wp2_with fail
      go_ret
      exact ⟨_, rfl, HO2.out, hbel⟩
def headS (k t : Int) (n : Nat) : List UInt8 :=
  if n < 128 then [UInt8.ofNat (k * 64 + t).toNat, UInt8.ofNat n] else UInt8.ofNat (k * 64 + t).toNat :: UInt8.ofNat (128 + (shortB n).length) :: shortB n
def bodyOf (k : Int) (n : Nat) (b ws : List UInt8) : List UInt8 := if k = 0 then shortB n else if k = 1 then b else ws
mutual
def writeS : Tv → List UInt8
  | .mk k t n b l => headS k t (bodyOf k n b (writesS l)).length ++ bodyOf k n b (writesS l)
def writesS : List Tv → List UInt8
  | [] => []
  | x :: l => writeS x ++ writesS l
end
def bodyS (x : Tv) : List UInt8 := bodyOf x.kind x.n x.b (writesS x.l)
theorem writeS_eq (x : Tv) : writeS x = headS x.kind x.tag (bodyS x).length ++ bodyS x := by cases x; rfl
theorem writesS_snoc : ∀ (l : List Tv) (x : Tv), writesS (l ++ [x]) = writesS l ++ writeS x
  | [], x => by simp [writesS]
  | y :: l, x => by simp [writesS, writesS_snoc l x]
theorem writesS_take (l : List Tv) (k : Nat) (h : k < l.length) : writesS (l.take (k + 1)) = writesS (l.take k) ++ writeS l[k] := by
  rw [List.take_succ_eq_append_getElem h, writesS_snoc]
theorem writesS_append : ∀ (a b : List Tv), writesS (a ++ b) = writesS a ++ writesS b
  | [], b => rfl
  | x :: a, b => by simp [writesS, writesS_append a b]
theorem writesS_take_le (l : List Tv) (k : Nat) : (writesS (l.take k)).length ≤ (writesS l).length := by
  conv => rhs; rw [← List.take_append_drop k l, writesS_append]
  rw [List.length_append]
  omega
theorem writeS_mem_le (l : List Tv) (k : Nat) (h : k < l.length) : (writesS (l.take k)).length + (writeS l[k]).length ≤ (writesS l).length := by
  have := writesS_take_le l (k + 1)
  rw [writesS_take l k h, List.length_append] at this
  exact this
mutual
def OkW : Tv → Prop
  | .mk k t n b l => (k = 0 ∨ k = 1 ∨ k = 2) ∧ 0 ≤ t ∧ t ≤ 30 ∧ n < 18446744073709551616 ∧ OksW l
def OksW : List Tv → Prop
  | [] => True
  | x :: l => OkW x ∧ OksW l
end
theorem OksW.mem : ∀ {l : List Tv}, OksW l → ∀ x ∈ l, OkW x
  | [], _, x, hx => by simp at hx
  | y :: l, h, x, hx => by
    rcases List.mem_cons.1 hx with e | hx
    · rw [e]; exact h.1
    · exact h.2.mem x hx
theorem OksW.of : ∀ {l : List Tv}, (∀ x ∈ l, OkW x) → OksW l
  | [], _ => trivial
  | y :: l, h => ⟨h y (by simp), OksW.of (fun x hx => h x (by simp [hx]))⟩
theorem or64 : ∀ (k : Fin 3) (t : Fin 31), bits BinOp.or IntKind.i64 ((k.val : Int) * 64) (t.val : Int) = (k.val : Int) * 64 + t.val := by decide +kernel
theorem or_tag (k t : Int) (hk : k = 0 ∨ k = 1 ∨ k = 2) (h0 : 0 ≤ t) (h1 : t ≤ 30) : bits BinOp.or IntKind.i64 (k * 64) t = ((k * 64 + t).toNat : Int) := by
  have h := or64 ⟨k.toNat, by omega⟩ ⟨t.toNat, by omega⟩
  simp only [show (k.toNat : Int) = k by omega, show (t.toNat : Int) = t by omega] at h
  rw [h]
  omega
theorem shortB_few (n : Nat) : (shortB n).length ≤ 8 ∧ 0 < (shortB n).length := by
  have hs : ∀ l : List UInt8, 0 < l.length → (stripZ l).length ≤ l.length ∧ 0 < (stripZ l).length := by
    intro l
    induction l with
    | nil => intro h; simp at h
    | cons x l ih =>
      intro _
      cases l with
      | nil => simp [stripZ]
      | cons y l =>
        unfold stripZ
        split
        · have := ih (by simp)
          simp at this ⊢
          omega
        · simp
  have := hs (putB n) (by rw [putB_length]; decide)
  rw [putB_length] at this
  exact this
theorem Rs.twoG {W : World} {v1 v2 : Value} {r1 r2 : List UInt8} {T : TypeId} {g : Nat} (hg : W.heap.size = g) (h1 : Bs W v1 r1) (h2 : Bs W v2 r2) : Rs (W.alloc (.cells #[v1, v2] T)) (.slice (some ⟨g, 0, none⟩) 2 2) [r1, r2] := by
  subst hg
  obtain ⟨a1, c1, rfl, _⟩ := h1.form
  obtain ⟨a2, c2, rfl, _⟩ := h2.form
  refine ⟨[.slice a1 r1.length c1, .slice a2 r2.length c2], rfl, Sl.lit (n := 2) rfl rfl (by intro u hu; simp at hu; rcases hu with rfl | rfl <;> rfl) (by unfold maxLen; decide), fun j u r hu hr => ?_⟩
  match j with
  | 0 =>
    simp only [List.getElem?_cons_zero, Option.some.injEq] at hu hr
    subst hu hr
    exact h1.alloc _
  | 1 =>
    simp only [List.getElem?_cons_succ, List.getElem?_cons_zero, Option.some.injEq] at hu hr
    subst hu hr
    exact h2.alloc _
  | j + 2 => simp at hu
set_option maxRecDepth 100000 in
theorem derHead_any (k t : Int) (n : Nat) (w : World) (hk : k = 0 ∨ k = 1 ∨ k = 2) (h0 : 0 ≤ t) (h1 : t ≤ 30) (hn : n ≤ 140737521909760) :
    Calls Try.prog 65 #[.int .i64 k, .int .i64 t, .int .i64 n] w fun e w' => ∃ v, e = .returned v ∧ Bs w' v (headS k t n) ∧ Below w.heap.size w w' := by
  have hor := or_tag k t hk h0 h1
  obtain ⟨f, hf⟩ : ∃ f, f = (k * 64 + t).toNat := ⟨_, rfl⟩
  have hf3 : f < 256 := by omega
  rw [← hf] at hor
  have hk0 : 0 ≤ k := by omega
  have hk2 : k ≤ 2 := by omega
  by_cases hs : n < 128
  · have hs' : (n : Int) < 128 := by omega
    have HR : Hid (headS k t n = [UInt8.ofNat f, UInt8.ofNat n]) := hqZ (by unfold headS; rw [if_pos hs, ← hf])
    have hbs : ∀ W : World, Bs (W.alloc (.cells #[.int .u8 f, .int .u8 n] 5)) (.slice (some ⟨W.heap.size, 0, none⟩) 2 2) [UInt8.ofNat f, UInt8.ofNat n] := fun W =>
      Bs.lit [UInt8.ofNat f, UInt8.ofNat n] rfl (by simp [bCells, bV_ofNat _ hf3, bV_ofNat n (by omega)]) (by simp [maxLen])
    have HBS := hqZ hbs
    clear hs hf hbs hk
    go_enter Try.func65, Try.ntmps65
    go_wp2_with fail
    go_ret
    rw [HR.out]
    exact ⟨_, rfl, HBS.out _, (Below.refl _ _).alloc (Nat.le_refl _) _⟩
  · have hs' : ¬ (n : Int) < 128 := by omega
    have hsf := shortB_few n
    have HR : Hid (headS k t n = [UInt8.ofNat f, UInt8.ofNat (128 + (shortB n).length)] ++ shortB n) := hqZ (by unfold headS; rw [if_neg hs, ← hf]; rfl)
    have hlen : (128 : Int) + (shortB n).length = ((128 + (shortB n).length : Nat) : Int) := by omega
    have hbs : ∀ W : World, Bs (W.alloc (.cells #[.int .u8 f, .int .u8 (128 + ((shortB n).length : Int))] 5)) (.slice (some ⟨W.heap.size, 0, none⟩) 2 2) [UInt8.ofNat f, UInt8.ofNat (128 + (shortB n).length)] := fun W =>
      Bs.lit [UInt8.ofNat f, UInt8.ofNat (128 + (shortB n).length)] rfl (by rw [hlen]; simp only [bCells, List.map_cons, List.map_nil, bV_ofNat _ hf3, bV_ofNat (128 + (shortB n).length) (by omega)]) (by simp [maxLen])
    have HBS := hqZ hbs
    clear hs hf hbs hk hlen
    go_enter Try.func65, Try.ntmps65
    go_wp2_with fail
    refine (short_any n w).mono ?_
    rintro e w1 ⟨v1, rfl, hb1, hB1, _⟩
    obtain ⟨a1, c1, rfl, hc1, hm1⟩ := hb1.form
    have HB1 := hqZ hb1
    have HBW := hqZ hB1
    have hz1 := hB1.size
    have HRS := hqZ (Rs.twoG (T := 22) (g := w1.heap.size + 1) (by simp) (HBS.out w1) (hb1.alloc (.cells #[.int .u8 f, .int .u8 (128 + ((shortB n).length : Int))] 5)))
    unfold maxLen at hm1
    generalize hsb : shortB n = sb at *
    clear hb1 hB1 hsb
    go_wp2_with fail
    refine (joined_any _ _ _ HRS.out (by simp; omega)).mono ?_
    rintro e w2 ⟨v2, rfl, ho2, hb2⟩
    have HO := hqZ ho2
    have HB2 : Hid (Below w.heap.size w w2) := hqZ (((HBW.out.alloc hz1 _).alloc (by simp; omega) _).trans (hb2.mono (by simp; omega)))
    clear ho2 hb2
    go_wp2_with fail
    go_ret
    rw [HR.out]
    refine ⟨_, rfl, ?_, HB2.out⟩
    have := HO.out.bs
    simpa using this
def WrRes (w : World) (bs : List UInt8) (e : Ending) (w' : World) : Prop := ∃ v, e = .returned v ∧ OwnBs w' w.heap.size v bs ∧ Below w.heap.size w w'
def BdRes (w : World) (bs : List UInt8) (e : Ending) (w' : World) : Prop := ∃ v, e = .returned v ∧ Bs w' v bs ∧ Below w.heap.size w w'
def WrP (x : Tv) : Prop := ∀ (F : Nat → Prop) (cs : List Value) (w : World), TvF w F x cs → OkW x → (writeS x).length ≤ 140737521909760 →
  Calls Try.prog 46 #[.agg cs.toArray] w (WrRes w (writeS x))
set_option maxHeartbeats 4000000 in
set_option maxRecDepth 100000 in
theorem derBody_any (x : Tv) (ih : ∀ y ∈ x.l, WrP y) (F : Nat → Prop) (cs : List Value) (w : World) (h : TvF w F x cs) (ok : OkW x) (hlen : (bodyS x).length ≤ 140737521909760) :
    Calls Try.prog 63 #[.agg cs.toArray] w (BdRes w (bodyS x)) := by
  obtain ⟨bv, lv, rows, rfl, hb, _, hl, _, hls⟩ := h.open_
  obtain ⟨k, t, n, b, l⟩ := x
  simp only [bodyS, Tv.kind, Tv.tag, Tv.n, Tv.b, Tv.l] at *
  obtain ⟨hk, ht0, ht1, hn, hol⟩ := ok
  obtain ⟨ab, cb, rfl, hcb, hmb⟩ := hb.form
  obtain ⟨al, cl, rfl, hcl, hml⟩ := hl.form
  unfold maxLen at hmb hml
  have HL := hqZ hl
  have HLS := hqZ hls
  have HBS := hqZ hb
  have HIH := hqZ ih
  have HOL := hqZ hol
  have HLEN := hqZ hlen
  clear h hb hl hls ih hol hlen
  rcases hk with rfl | rfl | rfl
  · have HR : Hid (bodyOf 0 n b (writesS l) = shortB n) := hqZ rfl
    go_enter Try.func63, Try.ntmps63
    go_wp2_with fail
    refine (short_any n _).mono ?_
    rintro e w1 ⟨v1, rfl, hb1, hB1, _⟩
    have HB1 := hqZ hb1
    have HBW : Hid (Below w.heap.size w w1) := hqZ (((Below.refl _ _).alloc (Nat.le_refl _) _).trans (hB1.mono (by simp)))
    clear hb1 hB1
    go_wp2_with fail
    go_ret
    rw [HR.out]
    exact ⟨_, rfl, HB1.out, HBW.out⟩
  · have HR : Hid (bodyOf 1 n b (writesS l) = b) := hqZ rfl
    go_enter Try.func63, Try.ntmps63
    go_wp2_with fail
    go_ret
    rw [HR.out]
    exact ⟨_, rfl, HBS.out.alloc _, (Below.refl _ _).alloc (Nat.le_refl _) _⟩
  · have HR : Hid (bodyOf 2 n b (writesS l) = writesS l) := hqZ rfl
    have hlen := HLEN.out
    rw [HR.out] at hlen
    have HLEN := hqZ hlen
    have HBB : Hid (Below w.heap.size w (w.alloc (.cells #[.int .i64 2, .int .i64 t, .int .u64 n, .slice ab b.length cb, .slice al l.length cl] 38))) := hqZ ((Below.refl _ _).alloc (Nat.le_refl _) _)
    clear hlen
    go_enter Try.func63, Try.ntmps63
    go_wp2_with fail
    go_loopw [3, 20] (fun o i wr => ∃ k : Nat, k ≤ l.length ∧ i = .int .i64 k ∧ OwnBs wr w.heap.size o (writesS (l.take k)) ∧ Below w.heap.size w wr) (fun _ i _ => l.length - (intOf i).toNat)
    case atStart => exact ⟨0, Nat.zero_le _, rfl, Own.nil _ _ _ _ _, HBB.out⟩
    case round =>
      obtain ⟨j, hj, rfl, hown, hB⟩ := hrel
      have HB := hqZ hB
      have HO := hqZ hown
      have hzr := hB.size
      by_cases hlt : j < l.length
      · obtain ⟨bl, ol, rfl, _⟩ := HL.out.addr (by rw [HL.out.1]; omega)
        obtain ⟨r, hr, hrc⟩ := HLS.out.cells HL.out j hlt
        have hcr : CellsAt wr bl (ol + j * 5) r := fun i u hi => below_cell hB (hrc i u hi)
        have hst := writesS_take l j hlt
        have hle := writeS_mem_le l j hlt
        have hji : (j : Int) < l.length := by omega
        have hih := HIH.out l[j] (List.getElem_mem hlt)
        have hok := HOL.out.mem l[j] (List.getElem_mem hlt)
        generalize l[j] = y at hr hst hle hih hok
        have hrl := hr.length
        have HR1 := hqZ hr.one
        have HRL := hqZ hrl
        have HCR := hqZ hcr
        have HRT := hqZ (hr.below hB)
        have HST := hqZ hst
        have HLE := hqZ hle
        have HIHy := hqZ hih
        have HOKy := hqZ hok
        have HN := hqZ (Blk.new wr zs5 38)
        clear hr hrc hcr hst hle hrl hB hown hih hok
        go_wp2_with (first | ((with_reducible show wpList _ _ _ (⟨some 23, _, _, _, _, _⟩ :: _) _ _); refine wpList_ldAgg rfl (.tmp 22) aggDer rfl rfl (cs := r) HRL.out HCR.out ?_) | ((with_reducible show wpList _ _ _ (⟨none, .store _ (.tmp 5) (.tmp 23), _, _, _, _⟩ :: _) _ _); refine wpList_stAgg rfl (.tmp 5) (.tmp 23) aggDer rfl rfl (vs := r) rfl HRL.out HN.out (Nat.le_refl _) HR1.out ?_))
        intro w3 h3 k3
        have h3' : Blk w3 wr.heap.size r 38 := by
          rw [List.drop_of_length_le (by decide), List.append_nil] at h3
          exact h3
        have hz3 := k3.size
        simp at hz3
        have hb3 : Below wr.heap.size wr w3 := ((Below.refl _ _).alloc (Nat.le_refl _) _).trans (k3.below (by omega))
        have H3 := hqZ h3'
        have HB3 : Hid (Below w.heap.size w w3) := hqZ (HB.out.trans (hb3.mono hzr))
        have HO3 := hqZ (Own.below HO.out hb3)
        have HCALL := hqZ (HIHy.out F r w3 (HRT.out.below hb3) HOKy.out (by have := HLEN.out; have := HLE.out; omega))
        clear h3 h3' k3 hb3 HN HRT HCR HO HB
        go_wp2_with ((with_reducible show wpList _ _ _ (⟨some 25, _, _, _, _, _⟩ :: _) _ _); refine wpList_ldAgg rfl (.tmp 5) aggDer rfl rfl (cs := r) HRL.out H3.out.cellsAll ?_)
        refine HCALL.out.mono ?_
        rintro e w4 ⟨v4, rfl, ho4, hb4⟩
        have hz4 := hb4.size
        have HB4 : Hid (Below w.heap.size w w4) := hqZ (HB3.out.trans (hb4.mono (by omega)))
        have HO4 := hqZ (Own.below HO3.out hb4)
        have HS4 := hqZ ho4.sl
        have hl1 := HLE.out
        have hl2 := HLEN.out
        have hle' : (writesS (l.take j)).length + (writeS y).length ≤ 140737521909760 := by omega
        clear ho4 hb4 HCALL HO3 HB3 H3 hl1 hl2
        go_wp2_with ((with_reducible show wpList _ _ _ (⟨some 27, _, _, _, _, _⟩ :: _) _ _); refine wpList_appW rfl (.tmp 24) (.tmp 26) elBytes rfl w.heap.size HO4.out HS4.out (by unfold maxLen; omega) (by omega) (by omega) ?_)
        intro v5 w5 ho5 hk5 hv5
        have HB5 : Hid (Below w.heap.size w w5) := hqZ (HB4.out.trans (hk5.below (by rintro b (h | h); exact h.2; omega)))
        have HO5 : Hid (OwnBs w5 w.heap.size v5 (writesS (l.take (j + 1)))) := hqZ (by
          rw [HST.out]
          unfold OwnBs
          rw [bCells_append, List.length_append]
          exact ho5)
        clear ho5 hk5 hv5 HO4 HS4 HB4
        go_wp2_with fail
        go_roundw
        case rel => exact ⟨j + 1, by omega, by go_num, HO5.out, HB5.out⟩
        case measure => simp [intOf]; omega
      · obtain rfl : j = l.length := by omega
        rw [List.take_length] at hown
        have HO := hqZ hown
        clear hown
        go_wp2_with fail
        go_ret
        rw [HR.out]
        exact ⟨_, rfl, HO.out.bs, HB.out⟩
set_option maxHeartbeats 4000000 in
set_option maxRecDepth 100000 in
theorem derWrite_any : ∀ x : Tv, WrP x := by
  refine tv_ind (fun k t n b l ih => ?_)
  intro F cs w h ok hlen
  have hw := writeS_eq (.mk k t n b l)
  have hbl : (bodyS (.mk k t n b l)).length ≤ 140737521909760 := by rw [hw, List.length_append] at hlen; omega
  have HBODY := hqZ (derBody_any (.mk k t n b l) ih F cs (w.alloc (.cells cs.toArray 38)) (h.below ((Below.refl _ _).alloc (Nat.le_refl _) _)) ok hbl)
  have hcl := h.length
  have HCL := hqZ hcl
  have HN := hqZ (Blk.new w cs 38)
  obtain ⟨bv, lv, rows, hcs, _⟩ := h.open_
  obtain ⟨hk, ht0, ht1, hn, hol⟩ := ok
  have x0 : ∀ W : World, Blk W w.heap.size cs 38 → W.cell? ⟨w.heap.size, 0, none⟩ = some (.int .i64 k) ∧ W.cell? ⟨w.heap.size, 1, none⟩ = some (.int .i64 t) := fun W hW => by
    rw [hW.cell, hW.cell, hcs]
    exact ⟨rfl, rfl⟩
  have HX0 := hqZ x0
  have HW := hqZ hw
  have HLEN := hqZ hlen
  simp only [Tv.kind, Tv.tag] at HW
  generalize bodyS (.mk k t n b l) = bd at HBODY hbl HW
  clear h hol x0 hw hlen ih hcl hcs
  go_enter Try.func46, Try.ntmps46
  go_wp2_with ((with_reducible show wpList _ _ _ (⟨some 4, _, _, _, _, _⟩ :: _) _ _); refine wpList_ldAgg rfl (.tmp 1) aggDer rfl rfl (cs := cs) HCL.out HN.out.cellsAll ?_)
  refine HBODY.out.mono ?_
  rintro e w1 ⟨v1, rfl, hb1, hB1⟩
  have hz1 := hB1.size
  simp at hz1
  obtain ⟨a1, c1, rfl, hc1, hm1⟩ := hb1.form
  obtain ⟨y0, y1⟩ := HX0.out w1 (HN.out.below hB1 (by simp))
  have HB1 := hqZ hb1
  have HBW : Hid (Below w.heap.size w w1) := hqZ (((Below.refl _ _).alloc (Nat.le_refl _) _).trans (hB1.mono (by simp)))
  unfold maxLen at hm1
  clear hb1 hB1 HBODY
  go_wp2_with fail
  refine (derHead_any k t bd.length w1 hk ht0 ht1 (by omega)).mono ?_
  rintro e w2 ⟨v2, rfl, hb2, hB2⟩
  have hz2 := hB2.size
  obtain ⟨a2, c2, rfl, hc2, hm2⟩ := hb2.form
  have HRS := hqZ (Rs.twoG (T := 22) (g := w2.heap.size) rfl hb2 (HB1.out.below hB2))
  have HBW2 : Hid (Below w.heap.size w w2) := hqZ (HBW.out.trans (hB2.mono (by omega)))
  have hlen := HLEN.out
  rw [HW.out, List.length_append] at hlen
  generalize headS k t bd.length = hd at *
  clear hb2 hB2 HB1 HBW y0 y1
  go_wp2_with fail
  refine (joined_any _ _ _ HRS.out (by simp; omega)).mono ?_
  rintro e w3 ⟨v3, rfl, ho3, hb3⟩
  have HO : Hid (OwnBs w3 w.heap.size v3 (hd ++ bd)) := hqZ (by
    have := ho3.base (B' := w.heap.size) (by simp; omega)
    simpa [OwnBs] using this)
  have HB3 : Hid (Below w.heap.size w w3) := hqZ ((HBW2.out.alloc (by omega) _).trans (hb3.mono (by simp; omega)))
  clear ho3 hb3
  go_wp2_with fail
  go_ret
  rw [HW.out]
  exact ⟨_, rfl, HO.out, HB3.out⟩
mutual
def Nw : Tv → Prop
  | .mk _ _ n _ l => n < 18446744073709551616 ∧ NsW l
def NsW : List Tv → Prop
  | [] => True
  | x :: l => Nw x ∧ NsW l
end
theorem NsW.mem : ∀ {l : List Tv}, NsW l → ∀ x ∈ l, Nw x
  | [], _, x, hx => by simp at hx
  | y :: l, h, x, hx => by
    rcases List.mem_cons.1 hx with e | hx
    · rw [e]; exact h.1
    · exact h.2.mem x hx
theorem NsW.of : ∀ {l : List Tv}, (∀ x ∈ l, Nw x) → NsW l
  | [], _ => trivial
  | y :: l, h => ⟨h y (by simp), NsW.of (fun x hx => h x (by simp [hx]))⟩
theorem rightS_ok : ∀ (d : Nat) (x : Tv), rightS d x = true → Nw x → OkW x
  | 0, x, h, _ => by simp [rightS] at h
  | d + 1, .mk k t n b l, h, hn => by
    unfold rightS at h
    simp only [Bool.and_eq_true, decide_eq_true_eq] at h
    obtain ⟨⟨h1, h2⟩, h3⟩ := h
    split at h3
    · rename_i hk
      simp only [Bool.and_eq_true, decide_eq_true_eq] at h3
      refine ⟨.inl hk, h1, h2, hn.1, ?_⟩
      rw [List.eq_nil_of_length_eq_zero h3.2]
      trivial
    · split at h3
      · rename_i hk
        simp only [Bool.and_eq_true, decide_eq_true_eq] at h3
        refine ⟨.inr (.inl hk), h1, h2, hn.1, ?_⟩
        rw [List.eq_nil_of_length_eq_zero h3.2]
        trivial
      · split at h3
        · rename_i hk
          simp only [Bool.and_eq_true, decide_eq_true_eq] at h3
          exact ⟨.inr (.inr hk), h1, h2, hn.1, OksW.of (fun x hx => rightS_ok d x (List.all_eq_true.1 h3.1.1 x hx) (hn.2.mem x hx))⟩
        · simp at h3
def wrS (x : Tv) : List UInt8 × Int := if rightS 8 x = false then ([], 7) else if 4096 < (writeS x).length then ([], 20) else (writeS x, 0)
def WtRes (w : World) (r : List UInt8 × Int) (e : Ending) (w' : World) : Prop := ∃ v, e = .returned (.tuple #[v, .int .i64 r.2]) ∧ Bs w' v r.1 ∧ Below w.heap.size w w'
set_option maxHeartbeats 4000000 in
set_option maxRecDepth 100000 in
theorem derWriteIt_any (x : Tv) (F : Nat → Prop) (cs : List Value) (w : World) (h : TvF w F x cs) (hn : Nw x) (hlen : rightS 8 x = true → (writeS x).length ≤ 140737521909760) :
    Calls Try.prog 24 #[.agg cs.toArray] w (WtRes w (wrS x)) := by
  have hcl := h.length
  have HCL := hqZ hcl
  have HN := hqZ (Blk.new w cs 38)
  have HT := hqZ h
  have HR := hqZ (derRightIt_any x F cs (w.alloc (.cells cs.toArray 38)) (h.below ((Below.refl _ _).alloc (Nat.le_refl _) _)))
  have HNW := hqZ hn
  have HLEN := hqZ hlen
  clear h hcl hn hlen
  go_enter Try.func24, Try.ntmps24
  go_wp2_with ((with_reducible show wpList _ _ _ (⟨some 5, _, _, _, _, _⟩ :: _) _ _); refine wpList_ldAgg rfl (.tmp 1) aggDer rfl rfl (cs := cs) HCL.out HN.out.cellsAll ?_)
  refine HR.out.mono ?_
  rintro e w1 ⟨rfl, hb1⟩
  have hz1 := hb1.size
  simp at hz1
  have hba : Below w.heap.size w w1 := ((Below.refl _ _).alloc (Nat.le_refl _) _).trans (hb1.mono (by simp))
  have HB1 := hqZ hba
  have HN1 := hqZ (HN.out.below hb1 (by simp))
  have HT1 := hqZ (HT.out.below hba)
  clear hb1 hba HR
  obtain ⟨r, hr⟩ : ∃ r, r = rightS 8 x := ⟨_, rfl⟩
  rw [← hr]
  cases r with
  | false =>
    have HS : Hid (wrS x = ([], 7)) := hqZ (by unfold wrS; rw [if_pos hr.symm])
    clear hr
    go_wp2_with fail
    go_ret2
    rw [HS.out]
    exact ⟨_, rfl, Sl.nil _ _ _, HB1.out⟩
  | true =>
    have hlen := HLEN.out hr.symm
    have HC := hqZ (derWrite_any x F cs w1 HT1.out (rightS_ok 8 x hr.symm HNW.out) hlen)
    have hS : wrS x = if 4096 < (writeS x).length then ([], 20) else (writeS x, 0) := by unfold wrS; rw [if_neg (by rw [← hr]; decide)]
    have HS0 := hqZ hS
    clear hr hS
    generalize writeS x = bs at HC HS0 hlen
    go_wp2_with ((with_reducible show wpList _ _ _ (⟨some 8, _, _, _, _, _⟩ :: _) _ _); refine wpList_ldAgg rfl (.tmp 1) aggDer rfl rfl (cs := cs) HCL.out HN1.out.cellsAll ?_)
    refine HC.out.mono ?_
    rintro e w2 ⟨v2, rfl, ho2, hb2⟩
    obtain ⟨a2, c2, rfl, hc2, hm2⟩ := ho2.sl.form
    have HO := hqZ ho2.bs
    have HB2 : Hid (Below w.heap.size w w2) := hqZ (HB1.out.trans (hb2.mono (by omega)))
    unfold maxLen at hm2
    clear ho2 hb2 HC
    by_cases hl : 4096 < bs.length
    · have hl' : (4096 : Int) < bs.length := by omega
      have HS : Hid (wrS x = ([], 20)) := hqZ (by rw [HS0.out, if_pos hl])
      clear hl
      go_wp2_with fail
      go_ret2
      rw [HS.out]
      exact ⟨_, rfl, Sl.nil _ _ _, HB2.out⟩
    · have hl' : ¬ (4096 : Int) < bs.length := by omega
      have HS : Hid (wrS x = (bs, 0)) := hqZ (by rw [HS0.out, if_neg hl])
      clear hl
      go_wp2_with fail
      go_ret2
      rw [HS.out]
      exact ⟨_, rfl, HO.out, HB2.out⟩
end Go.Proofs.Ytpjkidcfidmfaaa
namespace Go.Proofs.Ytpjkidcfidmfaaa
set_option linter.unusedSimpArgs false
set_option linter.unusedVariables false
theorem shortR_get : ∀ (n : Nat) (bs : List UInt8) (f : Nat), bs.length = n → 0 < n → n ≤ f → (n = 1 ∨ bs.getD 0 0 ≠ 0) → shortR f (getN bs) = bs ∧ (bs.getD 0 0 ≠ 0 → 1 ≤ getN bs) := by
  intro n
  induction n with
  | zero => intro bs f _ h; omega
  | succ n ih =>
    intro bs f hl _ hf h0
    obtain ⟨init, c, rfl⟩ : ∃ init c, bs = init ++ [c] := by
      have hne : bs ≠ [] := by intro e; subst e; simp at hl
      exact ⟨bs.dropLast, bs.getLast hne, (List.dropLast_concat_getLast hne).symm⟩
    simp only [List.length_append, List.length_cons, List.length_nil] at hl
    obtain ⟨f, rfl⟩ : ∃ g, f = g + 1 := ⟨f - 1, by omega⟩
    rw [getN_snoc]
    have hc := c.toNat_lt
    by_cases hi : init = []
    · subst hi
      have h0' : getN [] = 0 := rfl
      rw [h0', Nat.zero_mul, Nat.zero_add]
      refine ⟨?_, fun h => ?_⟩
      · rw [shortR, if_pos hc]
        simp
      · simp at h
        have : c.toNat ≠ 0 := fun e => h (UInt8.toNat_inj.1 e)
        omega
    · have hip : 0 < init.length := List.length_pos_iff.2 hi
      have hg : (init ++ [c]).getD 0 0 = init.getD 0 0 := by
        rw [List.getD_eq_getElem?_getD, List.getD_eq_getElem?_getD, List.getElem?_append_left hip]
      rw [hg] at h0 ⊢
      have hne : init.getD 0 0 ≠ 0 := by rcases h0 with h | h; omega; exact h
      obtain ⟨h1, h2⟩ := ih init f (by omega) (by omega) (by omega) (.inr hne)
      have h3 := h2 hne
      refine ⟨?_, fun _ => by omega⟩
      rw [shortR, if_neg (by omega), show (getN init * 256 + c.toNat) / 256 = getN init by omega, show (getN init * 256 + c.toNat) % 256 = c.toNat by omega, h1]
      simp
theorem short_get (bs : List UInt8) (h0 : 0 < bs.length) (h8 : bs.length ≤ 8) (h : bs.length = 1 ∨ bs.getD 0 0 ≠ 0) : shortB (getN bs) = bs := by
  have hlt := getN_lt bs
  have h256 : getN bs < 256 ^ 8 := Nat.lt_of_lt_of_le hlt (Nat.pow_le_pow_right (by decide) h8)
  rw [shortB_eq _ h256]
  exact (shortR_get bs.length bs 8 rfl h0 h8 h).1
theorem take_two (b : List UInt8) (h : 2 ≤ b.length) : b.take 2 = [b.getD 0 0, b.getD 1 0] := by
  match b, h with
  | x :: y :: l, _ => rfl
theorem byte_eq (c : UInt8) : UInt8.ofNat ((((c.toNat / 64 : Nat) : Int) * 64 + ((c.toNat % 64 : Nat) : Int)).toNat) = c := by
  rw [show (((c.toNat / 64 : Nat) : Int) * 64 + ((c.toNat % 64 : Nat) : Int)).toNat = c.toNat by omega]
  simp
theorem head_of_size {b : List UInt8} {n a : Nat} (h : sizeS b = (n, a, 0)) : headS ((b.getD 0 0).toNat / 64 : Nat) ((b.getD 0 0).toNat % 64 : Nat) n = b.take a := by
  have hok := sizeS_ok h
  have hb2 : 2 ≤ b.length := by omega
  have ht2 := take_two b hb2
  unfold sizeS at h
  rw [if_neg (by omega)] at h
  have hc1 := (b.getD 1 0).toNat_lt
  split at h
  · rename_i hlt
    split at h
    · simp at h
    · simp only [Prod.mk.injEq] at h
      obtain ⟨rfl, rfl, _⟩ := h
      unfold headS
      rw [if_pos hlt, byte_eq, ht2]
      simp
  · rename_i hge
    split at h
    · simp at h
    · rename_i hbad
      split at h
      · simp at h
      · rename_i hlen
        split at h
        · simp at h
        · rename_i hmin
          split at h
          · simp at h
          · simp only [Prod.mk.injEq] at h
            obtain ⟨rfl, rfl, _⟩ := h
            generalize hc : (b.getD 1 0).toNat = c at *
            have hll : ((b.drop 2).take (c - 128)).length = c - 128 := by rw [List.length_take, List.length_drop]; omega
            have hn128 : ¬ getN ((b.drop 2).take (c - 128)) < 128 := fun hh => hmin (.inl hh)
            have hsh : shortB (getN ((b.drop 2).take (c - 128))) = (b.drop 2).take (c - 128) := by
              refine short_get _ (by omega) (by omega) ?_
              rw [hll]
              rcases (by omega : c = 129 ∨ c = 130) with rfl | rfl
              · exact .inl rfl
              · refine .inr fun e => hmin (.inr ⟨rfl, ?_⟩)
                match hm : (b.drop 2).take (130 - 128), hll with
                | [x, y], _ =>
                  rw [hm] at e
                  have hx : x = 0 := by simpa using e
                  subst hx
                  have hy := y.toNat_lt
                  simp [getN]
                  omega
            unfold headS
            have e1 : UInt8.ofNat c = b.getD 1 0 := by rw [← hc]; simp
            rw [if_neg hn128, byte_eq, hsh, hll, show 128 + (c - 128) = c by omega, e1, show c - 126 = 2 + (c - 128) by omega, List.take_add, ht2]
            simp only [List.cons_append, List.nil_append]
theorem rightS_num (d T n : Nat) (h : T ≤ 30) : rightS (d + 1) (.mk 0 (T : Nat) n [] []) = true := by
  simp [rightS]
  omega
theorem rightS_raw (d T : Nat) (b : List UInt8) (h : T ≤ 30) : rightS (d + 1) (.mk 1 (T : Nat) 0 b []) = true := by
  simp [rightS]
  omega
theorem rightS_seq (d T : Nat) (l : List Tv) (h : T ≤ 30) (hl : l.all (rightS d) = true) : rightS (d + 1) (.mk 2 (T : Nat) 0 [] l) = true := by
  rw [rightS, hl]
  simp
  omega
def Back (d : Nat) (b : List UInt8) : Prop := ∀ x n, readS d b = (x, n, 0) → writeS x = b.take n ∧ rightS d x = true ∧ Nw x ∧ Lw x
theorem listS_back {d : Nat} (hd : ∀ b : List UInt8, b.length ≤ 1048576 → Back d b) : ∀ (f : Nat) (b : List UInt8) (l : List Tv), b.length ≤ f → b.length ≤ 1048576 → listS (readS d) f b = (l, 0) →
    writesS l = b ∧ (∀ x ∈ l, rightS d x = true ∧ Nw x ∧ Lw x) ∧ l.length ≤ b.length
  | f, [], l, _, _, h => by
    rw [listS_nil] at h
    simp only [Prod.mk.injEq, and_true] at h
    subst h
    exact ⟨rfl, by simp, by simp⟩
  | 0, c :: b, l, hf, _, _ => by simp at hf
  | f + 1, c :: b, l, hf, hb, h => by
    obtain ⟨x, k, e, hr⟩ : ∃ x k e, readS d (c :: b) = (x, k, e) := ⟨_, _, _, rfl⟩
    by_cases he : e = 0
    · subst he
      have hk := readS_takes d _ _ _ hr
      rw [listS_ok (by simp) hr] at h
      obtain ⟨l', e', hl'⟩ : ∃ l' e', listS (readS d) f ((c :: b).drop k) = (l', e') := ⟨_, _, rfl⟩
      rw [hl'] at h
      simp only [Prod.mk.injEq] at h
      obtain ⟨rfl, rfl⟩ := h
      obtain ⟨h1, h2, h3⟩ := listS_back hd f _ _ (by rw [List.length_drop]; simp at hf hk ⊢; omega) (by rw [List.length_drop]; omega) hl'
      obtain ⟨g1, g2⟩ := hd _ hb _ _ hr
      refine ⟨by rw [writesS, g1, h1, List.take_append_drop], fun y hy => ?_, by rw [List.length_drop] at h3; simp at hk h3 ⊢; omega⟩
      rcases List.mem_cons.1 hy with e | hy
      · rw [e]; exact g2
      · exact h2 y hy
    · rw [listS_bad (by simp) hr he] at h
      simp only [Prod.mk.injEq] at h
      exact absurd h.2 he
theorem readS_back : ∀ (d : Nat) (b : List UInt8), b.length ≤ 1048576 → Back d b
  | 0, b, _ => fun x n h => by simp [readS] at h
  | d + 1, b, hb => by
    intro x n h
    obtain ⟨m, a, e, hs⟩ : ∃ m a e, sizeS b = (m, a, e) := ⟨_, _, _, rfl⟩
    rw [readS, hs] at h
    simp only at h
    split at h
    · rename_i he
      simp only [Prod.mk.injEq] at h
      exact absurd h.2.2 he
    · rename_i he
      have he0 : e = 0 := by simpa using he
      subst he0
      have hok := sizeS_ok hs
      have hhead := head_of_size hs
      have hml : ((b.drop a).take m).length = m := by rw [List.length_take, List.length_drop]; omega
      have htake : b.take (a + m) = b.take a ++ (b.drop a).take m := List.take_add
      have hlt := (b.getD 0 0).toNat_lt
      split at h
      · simp at h
      · rename_i hkt
        split at h
        · rename_i hk0
          split at h
          · simp at h
          · rename_i hgood
            simp only [Prod.mk.injEq] at h
            obtain ⟨rfl, rfl, _⟩ := h
            rw [hk0] at hhead
            have hgb : ¬ (((b.drop a).take m).length = 0 ∨ 8 < ((b.drop a).take m).length) := by
              intro hg
              exact hgood (.inl (by unfold getB; rw [if_pos hg]))
            have hg : getB ((b.drop a).take m) = (getN ((b.drop a).take m), true) := by unfold getB; rw [if_neg hgb]
            have hsh : shortB (getN ((b.drop a).take m)) = (b.drop a).take m := by
              refine short_get _ (by omega) (by omega) ?_
              by_cases hm1 : m = 1
              · exact .inl (by omega)
              · refine .inr fun e => hgood (.inr ⟨by omega, ?_⟩)
                have e2 : ((b.drop a).take m).getD 0 0 = (b.drop a).getD 0 0 := by rw [List.getD_eq_getElem?_getD, List.getD_eq_getElem?_getD, List.getElem?_take, if_pos (by omega)]
                rw [e2] at e
                exact e
            have hlt8 : getN ((b.drop a).take m) < 18446744073709551616 := Nat.lt_of_lt_of_le (getN_lt _) (Nat.le_trans (Nat.pow_le_pow_right (by decide) (show ((b.drop a).take m).length ≤ 8 by omega)) (by decide))
            rw [hg]
            refine ⟨?_, ?_, ⟨hlt8, trivial⟩, ⟨by simp, trivial⟩⟩
            · rw [writeS, bodyOf, if_pos rfl, hsh, hml, htake]
              simp only [Int.natCast_zero] at hhead
              rw [hhead]
            · exact rightS_num d _ _ (by omega)
        · rename_i hk0
          split at h
          · rename_i hk1
            simp only [Prod.mk.injEq] at h
            obtain ⟨rfl, rfl, _⟩ := h
            rw [hk1] at hhead
            refine ⟨?_, ?_, ⟨by decide, trivial⟩, ⟨by simp, trivial⟩⟩
            · rw [writeS, bodyOf, if_neg (by decide), if_pos rfl, hml, htake]
              simp only [Int.natCast_one] at hhead
              rw [hhead]
            · exact rightS_raw d _ _ (by omega)
          · rename_i hk1
            obtain ⟨l, e, hl⟩ : ∃ l e, listS (readS d) m ((b.drop a).take m) = (l, e) := ⟨_, _, rfl⟩
            rw [hl] at h
            simp only at h
            split at h
            · rename_i he2
              subst he2
              simp only [Prod.mk.injEq] at h
              obtain ⟨rfl, rfl, _⟩ := h
              have hk2 : (b.getD 0 0).toNat / 64 = 2 := by omega
              rw [hk2] at hhead
              obtain ⟨g1, g2, g3⟩ := listS_back (fun b' hb' => readS_back d b' hb') m _ l (by omega) (by omega) hl
              refine ⟨?_, ?_, ⟨by decide, NsW.of (fun x hx => (g2 x hx).2.1)⟩, ⟨by omega, LsW.of (fun x hx => (g2 x hx).2.2)⟩⟩
              · rw [writeS, bodyOf, if_neg (by decide), if_neg (by decide), g1, hml, htake]
                have : ((2 : Nat) : Int) = 2 := rfl
                rw [this] at hhead
                rw [hhead]
              · exact rightS_seq d _ _ (by omega) (List.all_eq_true.2 (fun x hx => (g2 x hx).1))
            · rename_i he2
              simp only [Prod.mk.injEq] at h
              exact absurd h.2.2 he2
theorem wholeS_back {b : List UInt8} {x : Tv} (h : wholeS b = (x, 0)) : wrS x = (b, 0) ∧ Nw x ∧ Lw x ∧ rightS 8 x = true ∧ writeS x = b := by
  unfold wholeS at h
  split at h
  · simp at h
  · rename_i hl
    obtain ⟨v, n, e, hr⟩ : ∃ v n e, readS 8 b = (v, n, e) := ⟨_, _, _, rfl⟩
    rw [hr] at h
    simp only at h
    split at h
    · rename_i he
      simp only [Prod.mk.injEq] at h
      exact absurd h.2 he
    · rename_i he
      have he0 : e = 0 := by simpa using he
      subst he0
      split at h
      · simp at h
      · rename_i hn
        simp only [Prod.mk.injEq, and_true] at h
        subst h
        obtain ⟨h1, h2, h3, h4⟩ := readS_back 8 b (by omega) _ _ hr
        have hw : writeS v = b := by rw [h1, List.take_of_length_le (by omega)]
        refine ⟨?_, h3, h4, h2, hw⟩
        unfold wrS
        rw [if_neg (by rw [h2]; decide), hw, if_neg (by omega)]
end Go.Proofs.Ytpjkidcfidmfaaa
/- Contracts of der: Num, Raw, Seq; the law's alive. -/
namespace Go.Proofs.Ytpjkidcfidmfaaa
set_option linter.unusedSimpArgs false
set_option linter.unusedVariables false
open Go.RowKit
set_option maxRecDepth 100000 in
theorem derNum_any (n : Nat) (w : World) : Calls Try.prog 47 #[.int .u64 n] w fun e w' => e = .returned (.agg #[.int .i64 0, .int .i64 0, .int .u64 n, .slice none 0 0, .slice none 0 0]) ∧ Below w.heap.size w w' := by
  go_enter Try.func47, Try.ntmps47
  go_wp2_with fail
  have hb := Blk.new w [.int .i64 0, .int .i64 0, .int .u64 n, .slice none 0 0, .slice none 0 0] 38
  exact bodyPost_ret (results_agg rfl aggDer rfl (cs := [.int .i64 0, .int .i64 0, .int .u64 n, .slice none 0 0, .slice none 0 0]) rfl hb.cellsAll) rfl ⟨rfl, (Below.refl _ _).alloc (Nat.le_refl _) _⟩
set_option maxRecDepth 100000 in
theorem derSeq_any (t : Int) (lv : Value) (n c : Nat) (a : Option Addr) (hlv : lv = .slice a n c) (w : World) : Calls Try.prog 25 #[.int .i64 t, lv] w fun e w' => e = .returned (.agg #[.int .i64 2, .int .i64 t, .int .u64 0, .slice none 0 0, lv]) ∧ Below w.heap.size w w' := by
  subst hlv
  go_enter Try.func25, Try.ntmps25
  go_wp2_with fail
  have hb := Blk.new w [.int .i64 2, .int .i64 t, .int .u64 0, .slice none 0 0, .slice a n c] 38
  exact bodyPost_ret (results_agg rfl aggDer rfl (cs := [.int .i64 2, .int .i64 t, .int .u64 0, .slice none 0 0, .slice a n c]) rfl hb.cellsAll) rfl ⟨rfl, (Below.refl _ _).alloc (Nat.le_refl _) _⟩
end Go.Proofs.Ytpjkidcfidmfaaa
namespace Go.Proofs.Ytpjkidcfidmfaaa
set_option linter.unusedSimpArgs false
set_option linter.unusedVariables false
open Go.RowKit
structure Res where
  holds : World → (Nat → Prop) → Prop
  frame : ∀ {W W' : World} {F S : Nat → Prop}, holds W F → Keeps S W W' → (∀ b, F b → ¬ S b) → holds W' F
  lt : ∀ {W : World} {F : Nat → Prop} {b : Nat}, holds W F → F b → b < W.heap.size
namespace Res
def emp : Res where
  holds _ F := ∀ b, ¬ F b
  frame h _ _ := h
  lt h hb := absurd hb (h _)
def star (a c : Res) : Res where
  holds W F := ∃ F1 F2, a.holds W F1 ∧ c.holds W F2 ∧ (∀ b, F1 b → F2 b → False) ∧ ∀ b, F b ↔ F1 b ∨ F2 b
  frame := by
    rintro W W' F S ⟨F1, F2, h1, h2, h3, h4⟩ hk hs
    exact ⟨F1, F2, a.frame h1 hk (fun b hb => hs b ((h4 b).2 (.inl hb))), c.frame h2 hk (fun b hb => hs b ((h4 b).2 (.inr hb))), h3, h4⟩
  lt := by
    rintro W F b ⟨F1, F2, h1, h2, h3, h4⟩ hb
    rcases (h4 b).1 hb with h | h
    · exact a.lt h1 h
    · exact c.lt h2 h
def ex {α : Type} (f : α → Res) : Res where
  holds W F := ∃ x, (f x).holds W F
  frame := by
    rintro W W' F S ⟨x, h⟩ hk hs
    exact ⟨x, (f x).frame h hk hs⟩
  lt := by
    rintro W F b ⟨x, h⟩ hb
    exact (f x).lt h hb
def all : List Res → Res
  | [] => emp
  | r :: l => star r (all l)
def blk (p : Nat) (cs : List Value) (T : TypeId) : Res where
  holds W F := Blk W p cs T ∧ ∀ b, F b ↔ b = p
  frame := by
    rintro W W' F S ⟨h, hf⟩ hk hs
    exact ⟨h.keep hk (hs p ((hf p).2 rfl)), hf⟩
  lt := by
    rintro W F b ⟨h, hf⟩ hb
    rw [(hf b).1 hb]
    exact h.lt
def sl (sz : Nat) (v : Value) (n : Nat) (cs : List Value) : Res where
  holds W F := Sl W sz v n cs ∧ 0 < sz ∧ ∀ b, F b ↔ 0 < n ∧ v.ownBlock = some b
  frame := by
    rintro W W' F S ⟨h, hz, hf⟩ hk hs
    exact ⟨Sl.keepF (F := F) h hk (fun hn x hx => (hf x).2 ⟨hn, hx⟩) (fun b hb _ => hs b hb), hz, hf⟩
  lt := by
    rintro W F b ⟨h, hz, hf⟩ hb
    obtain ⟨hn, hv⟩ := (hf b).1 hb
    exact h.own_lt hz hn b hv
def row (v : Value) (l : List UInt8) : Res := sl 1 v l.length (bCells l)
def own (e : TypeId) (sz : Nat) (v : Value) (n : Nat) (cs : List Value) : Res where
  holds W F := Own W 0 e sz v n cs ∧ (∀ b, v.ownBlock = some b → b < W.heap.size) ∧ ∀ b, F b ↔ v.ownBlock = some b
  frame := by
    rintro W W' F S ⟨h, hl, hf⟩ hk hs
    exact ⟨h.keep hk (fun b hb => hs b ((hf b).2 hb)), fun b hb => Nat.lt_of_lt_of_le (hl b hb) hk.size, hf⟩
  lt := by
    rintro W F b ⟨h, hl, hf⟩ hb
    exact hl b ((hf b).1 hb)
def base (w0 : World) : Res where
  holds W F := Below w0.heap.size w0 W ∧ ∀ b, F b ↔ b < w0.heap.size
  frame := by
    rintro W W' F S ⟨h, hf⟩ hk hs
    exact ⟨⟨hk.os.trans h.os, hk.tape.trans h.tape, hk.output.trans h.output, Nat.le_trans h.size hk.size, fun b hb => (hk.block b (hs b ((hf b).2 hb))).trans (h.block b hb)⟩, hf⟩
  lt := by
    rintro W F b ⟨h, hf⟩ hb
    exact Nat.lt_of_lt_of_le ((hf b).1 hb) h.size
end Res
def Hold (W : World) (l : List Res) : Prop := ∃ F, (Res.all l).holds W F
theorem Hold.nil (W : World) : Hold W [] := ⟨fun _ => False, fun _ h => h⟩
theorem Hold.start (W : World) : Hold W [.base W] := ⟨fun b => b < W.heap.size, fun b => b < W.heap.size, fun _ => False, ⟨Below.refl _ _, fun _ => Iff.rfl⟩, fun _ h => h, fun _ _ h => h, fun b => ⟨.inl, fun h => h.elim id False.elim⟩⟩
theorem Hold.cons {W : World} {r : Res} {l : List Res} : Hold W (r :: l) ↔ ∃ F1 F2, r.holds W F1 ∧ (Res.all l).holds W F2 ∧ ∀ b, F1 b → F2 b → False :=
  ⟨fun ⟨_, F1, F2, h1, h2, h3, _⟩ => ⟨F1, F2, h1, h2, h3⟩, fun ⟨F1, F2, h1, h2, h3⟩ => ⟨fun b => F1 b ∨ F2 b, F1, F2, h1, h2, h3, fun _ => Iff.rfl⟩⟩
theorem Hold.tail {W : World} {r : Res} {l : List Res} (h : Hold W (r :: l)) : Hold W l := by
  obtain ⟨F1, F2, _, h2, _⟩ := Hold.cons.1 h
  exact ⟨F2, h2⟩
theorem Hold.head {W : World} {r : Res} {l : List Res} (h : Hold W (r :: l)) : ∃ F, r.holds W F := by
  obtain ⟨F1, F2, h1, _, _⟩ := Hold.cons.1 h
  exact ⟨F1, h1⟩
theorem Hold.get {W : World} {r : Res} : ∀ {l : List Res}, Hold W l → r ∈ l → ∃ F, r.holds W F
  | [], _, hm => by simp at hm
  | a :: l, h, hm => by
    rcases List.mem_cons.1 hm with e | hm
    · rw [e]; exact h.head
    · exact h.tail.get hm
theorem Res.all_star {W : World} {a c : Res} {l : List Res} {F : Nat → Prop} : (Res.all (a.star c :: l)).holds W F ↔ (Res.all (a :: c :: l)).holds W F := by
  constructor
  · rintro ⟨F1, F2, ⟨G1, G2, g1, g2, g3, g4⟩, h2, h3, h4⟩
    refine ⟨G1, fun b => G2 b ∨ F2 b, g1, ⟨G2, F2, g2, h2, fun b hb hc => h3 b ((g4 b).2 (.inr hb)) hc, fun _ => Iff.rfl⟩, ?_, ?_⟩
    · rintro b hb (hc | hc)
      · exact g3 b hb hc
      · exact h3 b ((g4 b).2 (.inl hb)) hc
    · intro b
      rw [h4 b, g4 b, or_assoc]
  · rintro ⟨G1, H, g1, ⟨G2, F2, g2, h2, h3, h4⟩, h5, h6⟩
    refine ⟨fun b => G1 b ∨ G2 b, F2, ⟨G1, G2, g1, g2, fun b hb hc => h5 b hb ((h4 b).2 (.inl hc)), fun _ => Iff.rfl⟩, h2, ?_, ?_⟩
    · rintro b (hb | hb) hc
      · exact h5 b hb ((h4 b).2 (.inr hc))
      · exact h3 b hb hc
    · intro b
      rw [h6 b, h4 b, or_assoc]
theorem Hold.star {W : World} {a c : Res} {l : List Res} : Hold W (a.star c :: l) ↔ Hold W (a :: c :: l) :=
  ⟨fun ⟨F, h⟩ => ⟨F, Res.all_star.1 h⟩, fun ⟨F, h⟩ => ⟨F, Res.all_star.2 h⟩⟩
theorem Res.star_comm {W : World} {a c : Res} {F : Nat → Prop} (h : (a.star c).holds W F) : (c.star a).holds W F := by
  obtain ⟨F1, F2, h1, h2, h3, h4⟩ := h
  exact ⟨F2, F1, h2, h1, fun b x y => h3 b y x, fun b => by rw [h4 b, or_comm]⟩
theorem Res.all_perm {W : World} {l l' : List Res} (hp : l.Perm l') : ∀ {F : Nat → Prop}, (Res.all l).holds W F → (Res.all l').holds W F := by
  induction hp with
  | nil => exact fun h => h
  | cons x _ ih =>
    rintro F ⟨F1, F2, h1, h2, h3⟩
    exact ⟨F1, F2, h1, ih h2, h3⟩
  | swap x y l =>
    intro F h
    refine Res.all_star.1 ?_
    obtain ⟨F1, F2, h1, h2, h3, h4⟩ := Res.all_star.2 h
    exact ⟨F1, F2, Res.star_comm h1, h2, h3, h4⟩
  | trans _ _ ih1 ih2 => exact fun h => ih2 (ih1 h)
theorem Hold.perm {W : World} {l l' : List Res} (h : Hold W l) (hp : l.Perm l') : Hold W l' := by
  obtain ⟨F, h⟩ := h
  exact ⟨F, Res.all_perm hp h⟩
theorem perm_idx {α : Type} (d : α) (l : List α) (is : List Nat) (h : is.Perm (List.range l.length)) : l.Perm (is.map fun i => l.getD i d) := by
  have e : l = (List.range l.length).map fun i => l.getD i d := by
    apply List.ext_getElem
    · simp
    · intro i h1 h2
      simp [List.getD_eq_getElem?_getD, h1]
  have := h.symm.map fun i => l.getD i d
  rwa [← e] at this
theorem Hold.ex {W : World} {α : Type} {f : α → Res} {l : List Res} : Hold W (Res.ex f :: l) ↔ ∃ x, Hold W (f x :: l) := by
  simp only [Hold.cons]
  constructor
  · rintro ⟨F1, F2, ⟨x, h1⟩, h2, h3⟩
    exact ⟨x, F1, F2, h1, h2, h3⟩
  · rintro ⟨x, F1, F2, h1, h2, h3⟩
    exact ⟨F1, F2, ⟨x, h1⟩, h2, h3⟩
theorem Hold.step {W W' : World} {l : List Res} (h : Hold W l) (hb : Below W.heap.size W W') : Hold W' l := by
  obtain ⟨F, h⟩ := h
  exact ⟨F, (Res.all l).frame h (Keeps.of_below hb) (fun b hb' hc => by have := (Res.all l).lt h hb'; omega)⟩
theorem Hold.drew {W : World} {l : List Res} (h : Hold W l) : Hold W.drew l := h.step ((Below.refl _ _).drew)
theorem Hold.drewN {W : World} {l : List Res} (h : Hold W l) (n : Nat) : Hold (W.drewN n) l := h.step (below_drewN (Below.refl _ _) n)
theorem Hold.alloc {W : World} {l : List Res} (h : Hold W l) (o : Obj) : Hold (W.alloc o) l := h.step ((Below.refl _ _).alloc (Nat.le_refl _) _)
theorem Hold.turn {W W' : World} {r r' : Res} {l : List Res} (h : Hold W (r :: l))
    (ht : ∀ F, r.holds W F → ∃ F', r'.holds W' F' ∧ (∀ b, F' b → F b ∨ W.heap.size ≤ b) ∧ Keeps (fun b => F b ∨ W.heap.size ≤ b) W W') : Hold W' (r' :: l) := by
  obtain ⟨F1, F2, h1, h2, h3⟩ := Hold.cons.1 h
  obtain ⟨F', g1, g2, g3⟩ := ht F1 h1
  refine Hold.cons.2 ⟨F', F2, g1, (Res.all l).frame h2 g3 ?_, ?_⟩
  · rintro b hb (hc | hc)
    · exact h3 b hc hb
    · have := (Res.all l).lt h2 hb
      omega
  · intro b hb hc
    rcases g2 b hb with h | h
    · exact h3 b h hc
    · have := (Res.all l).lt h2 hc
      omega
theorem Hold.new {W W' : World} {r : Res} {l : List Res} (h : Hold W l) (hb : Below W.heap.size W W') {F : Nat → Prop} (hr : r.holds W' F) (hf : ∀ b, F b → W.heap.size ≤ b) : Hold W' (r :: l) := by
  obtain ⟨F2, h2⟩ := h
  refine Hold.cons.2 ⟨F, F2, hr, (Res.all l).frame h2 (Keeps.of_below hb) (fun b hb' hc => by have := (Res.all l).lt h2 hb'; omega), ?_⟩
  intro b hb' hc
  have := (Res.all l).lt h2 hc
  have := hf b hb'
  omega
theorem Hold.weaken {W : World} {r r' : Res} {l : List Res} (h : Hold W (r :: l)) (ht : ∀ F, r.holds W F → ∃ F', r'.holds W F' ∧ ∀ b, F' b → F b) : Hold W (r' :: l) := by
  refine h.turn fun F hF => ?_
  obtain ⟨F', h1, h2⟩ := ht F hF
  exact ⟨F', h1, fun b hb => .inl (h2 b hb), (Keeps.refl _ _)⟩
theorem Hold.addBlk {W : World} {l : List Res} (h : Hold W l) (cs : List Value) (T : TypeId) : Hold (W.alloc (.cells cs.toArray T)) (.blk W.heap.size cs T :: l) :=
  h.new ((Below.refl _ _).alloc (Nat.le_refl _) _) (F := fun b => b = W.heap.size) ⟨Blk.new W cs T, fun _ => Iff.rfl⟩ (fun b hb => by omega)
theorem Hold.set {W : World} {l : List Res} {p : Nat} {cs : List Value} {T : TypeId} (h : Hold W (.blk p cs T :: l)) (o : Nat) (v : Value) : Hold (W.setCell ⟨p, o, none⟩ v) (.blk p (cs.set o v) T :: l) := by
  refine h.turn fun F hF => ⟨F, ⟨hF.1.set o v, hF.2⟩, fun b hb => .inl hb, ?_⟩
  exact (Keeps.one W p o v).mono fun k hk => .inl ((hF.2 k).2 hk)
theorem Hold.append {W W' : World} {l : List Res} {e : TypeId} {sz n : Nat} {v : Value} {cs : List Value} (h : Hold W (.own e sz v n cs :: l)) {v' : Value} {n' : Nat} {cs' : List Value} {B : Nat} (hr : Own W' B e sz v' n' cs')
    (hk : Keeps (fun k => v.ownBlock = some k ∧ B ≤ k ∨ W.heap.size ≤ k) W W') (hv : ∀ b, v'.ownBlock = some b → (v.ownBlock = some b ∨ W.heap.size ≤ b) ∧ b < W'.heap.size) : Hold W' (.own e sz v' n' cs' :: l) := by
  refine h.turn fun F hF => ⟨fun k => v'.ownBlock = some k, ⟨hr.base (Nat.zero_le _), fun b hb => (hv b hb).2, fun _ => Iff.rfl⟩, fun b hb => ?_, hk.mono fun k hk => ?_⟩
  · rcases (hv b hb).1 with h | h
    · exact .inl ((hF.2.2 b).2 h)
    · exact .inr h
  · rcases hk with h | h
    · exact .inl ((hF.2.2 k).2 h.1)
    · exact .inr h
theorem Hold.swap {W : World} {a b : Res} {l : List Res} (h : Hold W (a :: b :: l)) : Hold W (b :: a :: l) := h.perm (.swap _ _ _)
theorem Hold.front {W : World} {m l : List Res} (h : Hold W (m ++ l)) (is : List Nat) (n : Nat) (hp : is.Perm (List.range n)) (hn : m.length = n := by rfl) : Hold W ((is.map fun i => m.getD i .emp) ++ l) := h.perm ((perm_idx _ m is (by rw [hn]; exact hp)).append_right l)
def OwnO (w : World) (B : Nat) (e : TypeId) (v : Value) (n : Nat) (cs : List Value) : Prop :=
  cs.length = n ∧ (∀ u ∈ cs, u.oneCell' = true) ∧
  ((∃ a, v = .slice a 0 0 ∧ n = 0) ∨
   ∃ g o cap cur, v = .slice (some ⟨g, o, none⟩) n cap ∧ B ≤ g ∧ w.heap[g]? = some (.cells cur e (0, 0)) ∧ n ≤ cap ∧ cap ≤ maxLen ∧ cur.size = o + cap ∧ (cur.toList.drop o).take n = cs)
theorem OwnO.sl {w : World} {B : Nat} {e : TypeId} {v : Value} {n : Nat} {cs : List Value} (h : OwnO w B e v n cs) : Sl w 1 v n cs := by
  obtain ⟨h0, h1, ⟨a, rfl, rfl⟩ | ⟨g, o, cap, cur, rfl, h2, h3, h4, h5, h6, h7⟩⟩ := h
  · exact ⟨by omega, h1, a, 0, rfl, Nat.le_refl _, Nat.zero_le _, fun _ => rfl, .inl (List.eq_nil_of_length_eq_zero (by omega))⟩
  · refine ⟨by omega, h1, _, cap, rfl, h4, h5, fun h => by simp at h, .inr ⟨g, o, rfl, fun j u hj => ?_⟩⟩
    have hjl : j < n := by have := (List.getElem?_eq_some_iff.1 hj).1; omega
    rw [← h7, List.getElem?_take, if_pos hjl, List.getElem?_drop] at hj
    rw [cell_of_row w g (o + j) cur e (0, 0) h3, ← Array.getElem?_toList]
    exact hj
theorem OwnO.base {w : World} {B B' : Nat} {e : TypeId} {v : Value} {n : Nat} {cs : List Value} (h : OwnO w B e v n cs) (hB : B' ≤ B) : OwnO w B' e v n cs := by
  obtain ⟨h0, h1, h2 | ⟨g, o, cap, cur, hv, h2, hr⟩⟩ := h
  · exact ⟨h0, h1, .inl h2⟩
  · exact ⟨h0, h1, .inr ⟨g, o, cap, cur, hv, by omega, hr⟩⟩
theorem OwnO.keep {w w' : World} {B : Nat} {e : TypeId} {v : Value} {n : Nat} {cs : List Value} {S : Nat → Prop} (h : OwnO w B e v n cs) (hk : Keeps S w w') (hb : ∀ b, v.ownBlock = some b → ¬ S b) : OwnO w' B e v n cs := by
  obtain ⟨h0, h1, h2 | ⟨g, o, cap, cur, rfl, h2, h3, hr⟩⟩ := h
  · exact ⟨h0, h1, .inl h2⟩
  · exact ⟨h0, h1, .inr ⟨g, o, cap, cur, rfl, h2, (hk.block g (hb g rfl)).trans h3, hr⟩⟩
theorem OwnO.below {w w' : World} {B : Nat} {e : TypeId} {v : Value} {n : Nat} {cs : List Value} (h : OwnO w B e v n cs) (hk : Below w.heap.size w w') : OwnO w' B e v n cs := by
  obtain ⟨h0, h1, h2 | ⟨g, o, cap, cur, rfl, h2, h3, hr⟩⟩ := h
  · exact ⟨h0, h1, .inl h2⟩
  · exact ⟨h0, h1, .inr ⟨g, o, cap, cur, rfl, h2, (hk.block g (block_lt h3)).trans h3, hr⟩⟩
theorem OwnO.alloc {w : World} {B : Nat} {e : TypeId} {v : Value} {n : Nat} {cs : List Value} (h : OwnO w B e v n cs) (o : Obj) : OwnO (w.alloc o) B e v n cs := h.below ((Below.refl _ _).alloc (Nat.le_refl _) _)
theorem OwnO.drew {w : World} {B : Nat} {e : TypeId} {v : Value} {n : Nat} {cs : List Value} (h : OwnO w B e v n cs) : OwnO w.drew B e v n cs := h
theorem OwnO.drewN {w : World} {B : Nat} {e : TypeId} {v : Value} {n : Nat} {cs : List Value} (h : OwnO w B e v n cs) (q : Nat) : OwnO (w.drewN q) B e v n cs := h
theorem OwnO.nil (w : World) (B : Nat) (e : TypeId) (a : Option Addr) : OwnO w B e (.slice a 0 0) 0 [] := ⟨rfl, by simp, .inl ⟨a, rfl, rfl⟩⟩
theorem OwnO.form {w : World} {B : Nat} {e : TypeId} {v : Value} {n : Nat} {cs : List Value} (h : OwnO w B e v n cs) (hn : 0 < n) : ∃ g o cap, v = .slice (some ⟨g, o, none⟩) n cap ∧ B ≤ g ∧ n ≤ cap ∧ cap ≤ maxLen := by
  obtain ⟨h0, h1, ⟨a, rfl, rfl⟩ | ⟨g, o, cap, cur, rfl, h2, h3, h4, h5, h6, h7⟩⟩ := h
  · omega
  · exact ⟨g, o, cap, rfl, h2, h4, h5⟩
theorem OwnO.cut {w : World} {B : Nat} {e : TypeId} {g o n cap : Nat} {cs : List Value} (h : OwnO w B e (.slice (some ⟨g, o, none⟩) n cap) n cs) (k : Nat) (hk : k ≤ n) :
    OwnO w B e (.slice (some ⟨g, o + k, none⟩) (n - k) (cap - k)) (n - k) (cs.drop k) := by
  obtain ⟨h0, h1, ⟨a, hv, rfl⟩ | ⟨g', o', cap', cur, hv, h2, h3, h4, h5, h6, h7⟩⟩ := h
  · simp only [Value.slice.injEq] at hv
    obtain ⟨rfl, _, rfl⟩ := hv
    exact ⟨by simp; omega, fun u hu => h1 u (List.mem_of_mem_drop hu), .inl ⟨some ⟨g, o + k, none⟩, by simp, by omega⟩⟩
  · simp only [Value.slice.injEq, Option.some.injEq, Addr.mk.injEq, and_true, true_and] at hv
    obtain ⟨⟨rfl, rfl⟩, rfl⟩ := hv
    refine ⟨by simp; omega, fun u hu => h1 u (List.mem_of_mem_drop hu), .inr ⟨g, o + k, cap - k, cur, rfl, h2, h3, by omega, by omega, by omega, ?_⟩⟩
    rw [← h7, List.drop_take, List.drop_drop]
def OwnZ (w : World) (B : Nat) (e : TypeId) (sz : Nat) (v : Value) (n : Nat) (cs : List Value) : Prop :=
  cs.length = n * sz ∧ (∀ u ∈ cs, u.oneCell' = true) ∧
  ((∃ a, v = .slice a 0 0 ∧ n = 0) ∨
   ∃ g o cap cur, v = .slice (some ⟨g, o, none⟩) n cap ∧ B ≤ g ∧ w.heap[g]? = some (.cells cur e (0, 0)) ∧ n ≤ cap ∧ cap ≤ maxLen ∧ cur.size = o + cap * sz ∧ (cur.toList.drop o).take (n * sz) = cs)
theorem OwnZ.sl {w : World} {B : Nat} {e : TypeId} {sz : Nat} {v : Value} {n : Nat} {cs : List Value} (h : OwnZ w B e sz v n cs) : Sl w sz v n cs := by
  obtain ⟨h0, h1, ⟨a, rfl, rfl⟩ | ⟨g, o, cap, cur, rfl, h2, h3, h4, h5, h6, h7⟩⟩ := h
  · exact ⟨h0, h1, a, 0, rfl, Nat.le_refl _, Nat.zero_le _, fun _ => rfl, .inl (List.eq_nil_of_length_eq_zero (by simpa using h0))⟩
  · refine ⟨h0, h1, _, cap, rfl, h4, h5, fun h => by simp at h, .inr ⟨g, o, rfl, fun j u hj => ?_⟩⟩
    have hjl : j < n * sz := by have := (List.getElem?_eq_some_iff.1 hj).1; omega
    rw [← h7, List.getElem?_take, if_pos hjl, List.getElem?_drop] at hj
    rw [cell_of_row w g (o + j) cur e (0, 0) h3, ← Array.getElem?_toList]
    exact hj
theorem OwnZ.base {w : World} {B B' : Nat} {e : TypeId} {sz : Nat} {v : Value} {n : Nat} {cs : List Value} (h : OwnZ w B e sz v n cs) (hB : B' ≤ B) : OwnZ w B' e sz v n cs := by
  obtain ⟨h0, h1, h2 | ⟨g, o, cap, cur, hv, h2, hr⟩⟩ := h
  · exact ⟨h0, h1, .inl h2⟩
  · exact ⟨h0, h1, .inr ⟨g, o, cap, cur, hv, by omega, hr⟩⟩
theorem OwnZ.keep {w w' : World} {B : Nat} {e : TypeId} {sz : Nat} {v : Value} {n : Nat} {cs : List Value} {S : Nat → Prop} (h : OwnZ w B e sz v n cs) (hk : Keeps S w w') (hb : ∀ b, v.ownBlock = some b → ¬ S b) : OwnZ w' B e sz v n cs := by
  obtain ⟨h0, h1, h2 | ⟨g, o, cap, cur, rfl, h2, h3, hr⟩⟩ := h
  · exact ⟨h0, h1, .inl h2⟩
  · exact ⟨h0, h1, .inr ⟨g, o, cap, cur, rfl, h2, (hk.block g (hb g rfl)).trans h3, hr⟩⟩
theorem OwnZ.nil (w : World) (B : Nat) (e : TypeId) (sz : Nat) (a : Option Addr) : OwnZ w B e sz (.slice a 0 0) 0 [] := ⟨by simp, by simp, .inl ⟨a, rfl, rfl⟩⟩
theorem OwnZ.form {w : World} {B : Nat} {e : TypeId} {sz : Nat} {v : Value} {n : Nat} {cs : List Value} (h : OwnZ w B e sz v n cs) (hn : 0 < n) : ∃ g o cap, v = .slice (some ⟨g, o, none⟩) n cap ∧ B ≤ g ∧ n ≤ cap ∧ cap ≤ maxLen ∧ g < w.heap.size := by
  obtain ⟨h0, h1, ⟨a, rfl, rfl⟩ | ⟨g, o, cap, cur, rfl, h2, h3, h4, h5, h6, h7⟩⟩ := h
  · omega
  · exact ⟨g, o, cap, rfl, h2, h4, h5, block_lt h3⟩
def cutZ (g o cap i sz : Nat) : Option Addr := if cap = i then some ⟨g, o, none⟩ else some ⟨g, o + i * sz, none⟩
theorem cutZ_own (g o cap i sz n c : Nat) : (Value.slice (cutZ g o cap i sz) n c).ownBlock = some g := by
  unfold cutZ
  split <;> rfl
theorem OwnZ.cut {w : World} {B : Nat} {e : TypeId} {sz g o n cap : Nat} {cs : List Value} (h : OwnZ w B e sz (.slice (some ⟨g, o, none⟩) n cap) n cs) (k : Nat) (hk : k ≤ n) :
    OwnZ w B e sz (.slice (cutZ g o cap k sz) (n - k) (cap - k)) (n - k) (cs.drop (k * sz)) := by
  obtain ⟨h0, h1, ⟨a, hv, rfl⟩ | ⟨g', o', cap', cur, hv, h2, h3, h4, h5, h6, h7⟩⟩ := h
  · simp only [Value.slice.injEq] at hv
    obtain ⟨rfl, _, rfl⟩ := hv
    exact ⟨by simp [h0, Nat.sub_mul], fun u hu => h1 u (List.mem_of_mem_drop hu), .inl ⟨_, by rw [Nat.zero_sub], by omega⟩⟩
  · simp only [Value.slice.injEq, Option.some.injEq, Addr.mk.injEq, and_true, true_and] at hv
    obtain ⟨⟨rfl, rfl⟩, rfl⟩ := hv
    refine ⟨by simp [h0, Nat.sub_mul], fun u hu => h1 u (List.mem_of_mem_drop hu), ?_⟩
    unfold cutZ
    by_cases hc : cap = k
    · subst hc
      exact .inl ⟨_, by rw [if_pos rfl, Nat.sub_self, show n - cap = 0 by omega], by omega⟩
    · have hm : k * sz ≤ n * sz := Nat.mul_le_mul_right _ hk
      have hm2 : n * sz ≤ cap * sz := Nat.mul_le_mul_right _ h4
      refine .inr ⟨g, o + k * sz, cap - k, cur, by rw [if_neg hc], h2, h3, by omega, by omega, by rw [Nat.sub_mul]; omega, ?_⟩
      rw [← h7, List.drop_take, List.drop_drop, Nat.sub_mul]
theorem run_sliceZ {P : Program} {t e : TypeId} {sz : Nat} (ht : P.underlying t = some (.slice e)) (hs : ∀ w, (sizeOf e).run P w = .ok sz w) (g o n cap i : Nat) (hi : i ≤ n) (hc : n ≤ cap) (W : World) :
    (Instr.sliceAt t (.slice (some ⟨g, o, none⟩) n cap) (some (.int .i64 i)) none none).run P W = .ok (.slice (cutZ g o cap i sz) (n - i) (cap - i)) W := by
  have h2 : ¬ ((i : Int) < 0) := by omega
  have h3 : ¬ (n < i) := by omega
  by_cases h : cap = i
  · subst h
    simp [Instr.sliceAt, Instr.slice, Instr.sliceBounds, Instr.sliceBound, run_underlying ht, asIntOf, hs, h2, h3, hi, cutZ]
  · have h5 : ¬ cap - i = 0 := by omega
    have h6 : ¬ cap ≤ i := by omega
    simp [Instr.sliceAt, Instr.slice, Instr.sliceBounds, Instr.sliceBound, run_underlying ht, asIntOf, hs, h2, h3, hi, cutZ, h, h5, h6, Addr.add_lit]
def Res.ownZ (e : TypeId) (sz : Nat) (v : Value) (n : Nat) (cs : List Value) : Res where
  holds W F := OwnZ W 0 e sz v n cs ∧ (∀ b, v.ownBlock = some b → b < W.heap.size) ∧ ∀ b, F b ↔ v.ownBlock = some b
  frame := by
    rintro W W' F S ⟨h, hl, hf⟩ hk hs
    exact ⟨h.keep hk (fun b hb => hs b ((hf b).2 hb)), fun b hb => Nat.lt_of_lt_of_le (hl b hb) hk.size, hf⟩
  lt := by
    rintro W F b ⟨h, hl, hf⟩ hb
    exact hl b ((hf b).1 hb)
theorem Hold.cutZ {W : World} {l : List Res} {e : TypeId} {sz g o n cap : Nat} {cs : List Value} (h : Hold W (.ownZ e sz (.slice (some ⟨g, o, none⟩) n cap) n cs :: l)) (k : Nat) (hk : k ≤ n) :
    Hold W (.ownZ e sz (.slice (Go.Proofs.Ytpjkidcfidmfaaa.cutZ g o cap k sz) (n - k) (cap - k)) (n - k) (cs.drop (k * sz)) :: l) :=
  h.weaken fun F hF => ⟨F, ⟨hF.1.cut k hk, fun b hb => hF.2.1 b (by rw [cutZ_own] at hb; simpa [Value.ownBlock] using hb), fun b => by rw [cutZ_own]; simpa [Value.ownBlock] using hF.2.2 b⟩, fun _ h => h⟩
theorem Sl.tailZ {w : World} {sz b o n cap : Nat} {cs : List Value} (h : Sl w sz (.slice (some ⟨b, o, none⟩) n cap) n cs) (i : Nat) (hi : i ≤ n) :
    Sl w sz (.slice (cutZ b o cap i sz) (n - i) (cap - i)) (n - i) (cs.drop (i * sz)) := by
  obtain ⟨a, c, e, h3, h4⟩ := h.form
  have hl := h.1
  simp only [Value.slice.injEq, true_and] at e
  obtain ⟨rfl, rfl⟩ := e
  unfold cutZ
  split
  · rename_i hc
    have hn : n - i = 0 := by omega
    rw [hn, show cap - i = 0 by omega, List.drop_of_length_le (by rw [hl]; exact Nat.mul_le_mul_right _ (by omega))]
    exact Sl.nil _ _ _
  · have := h.sub i (n - i) (cap - i) (by omega) (by omega) (by omega)
    rw [List.take_of_length_le (by rw [List.length_drop, hl, Nat.sub_mul]; exact Nat.le_refl _)] at this
    exact this
theorem wpList_val {P : Program} {ops : Array Oper} {rest : List Oper} {o : Oper} {a : Act} {w : World} {Q : Exit → Act → World → Prop} (hgd : Region.wanted o (yielded ops a.tmps) = true) {v : Value}
    (hr : (execOp a.eval o).run P w = .ok (.value v) w) (h : wpList P ops Q rest (a.put o.dst v) w) : wpList P ops Q (o :: rest) a w := by
  refine wpList_want hgd fun K hK => ?_
  unfold Oper.wp
  rw [hr]
  exact hK _ _ h
theorem exec_sliceL {P : Program} {o : Oper} {a : Act} {W : World} {t : TypeId} {x : Operand} {lo hi mx : Option Operand} (ho : o.op = .slice t x lo hi mx) {v : Value} (hr : (Instr.sliceAt t (a.eval x) (lo.map a.eval) (hi.map a.eval) (mx.map a.eval)).run P W = .ok v W) :
    (execOp a.eval o).run P W = .ok (.value v) W := by
  unfold execOp
  simp only [ho, Sem.run_bind, Sem.run_pure, hr, Result.andThen_ok]
theorem szDer : ∀ w, (sizeOf 38).run Try.prog w = .ok 5 w := by
  intro w
  obtain ⟨_, i, hi, _, hs, _⟩ := elDer
  simp [sizeOf, typeInfo, hi, hs]
def Tk (w : World) (F : Nat → Prop) (p : Nat) (rem : List Tv) (bad : Bool) : Prop :=
  ∃ lv rows, Blk w p [lv, .bool bad] 137 ∧ Sl w 5 lv rem.length rows ∧ (0 < rem.length → ∀ x, lv.ownBlock = some x → F x) ∧ TvsF w F rem rows ∧ ¬ F p
theorem Tk.lt {w : World} {F : Nat → Prop} {p : Nat} {rem : List Tv} {bad : Bool} (h : Tk w F p rem bad) : p < w.heap.size := by
  obtain ⟨lv, rows, h1, _⟩ := h
  exact h1.lt
theorem Tk.below {w w' : World} {F : Nat → Prop} {p : Nat} {rem : List Tv} {bad : Bool} (h : Tk w F p rem bad) (hb : Below w.heap.size w w') : Tk w' F p rem bad := by
  obtain ⟨lv, rows, h1, h2, h3, h4, h5⟩ := h
  exact ⟨lv, rows, h1.below hb h1.lt, h2.below hb, h3, h4.below hb, h5⟩
theorem Tk.keep {w w' : World} {F S : Nat → Prop} {p : Nat} {rem : List Tv} {bad : Bool} (h : Tk w F p rem bad) (hk : Keeps S w w') (hs : ∀ b, F b → b < w.heap.size → ¬ S b) (hp : ¬ S p) : Tk w' F p rem bad := by
  obtain ⟨lv, rows, h1, h2, h3, h4, h5⟩ := h
  exact ⟨lv, rows, h1.keep hk hp, h2.keepF hk h3 hs, h3, h4.keep hk hs, h5⟩
def nextS (k : Int) (rem : List Tv) (bad : Bool) : Tv × List Tv × Bool :=
  match rem with
  | [] => (.zero, [], true)
  | x :: r => if x.kind = k ∧ x.tag = 0 then (x, r, bad) else (.zero, [], true)
def partS (t : Int) (rem : List Tv) (bad : Bool) : Tv × List Tv × Bool :=
  match rem with
  | [] => (.zero, [], true)
  | x :: r => if x.kind = 2 ∧ x.tag = t then (x, r, bad) else (.zero, [], true)
def NxRes (w : World) (F : Nat → Prop) (p : Nat) (r : Tv × List Tv × Bool) (e : Ending) (w' : World) : Prop :=
  ∃ cs, e = .returned (.agg cs.toArray) ∧ TvF w' F r.1 cs ∧ Tk w' F p r.2.1 r.2.2 ∧ Keeps (fun b => b = p ∨ w.heap.size ≤ b) w w'
set_option maxHeartbeats 4000000 in
set_option maxRecDepth 100000 in
theorem take_any (x : Tv) (F : Nat → Prop) (cs : List Value) (w : World) (h : TvF w F x cs) (hF : ∀ b, F b → b < w.heap.size) :
    Calls Try.prog 34 #[.agg cs.toArray] w fun e w' => ∃ p, e = .returned (.pointer (some ⟨p, 0, none⟩)) ∧ Tk w' F p x.l false ∧ Below w.heap.size w w' ∧ w.heap.size ≤ p := by
  obtain ⟨bv, lv, rows, rfl, h1, h2, h3, h4, h5⟩ := h.open_
  obtain ⟨a, c, rfl, hc, hm⟩ := h3.form
  obtain ⟨a1, c1, rfl, hc1, hm1⟩ := h1.form
  have H3 := hqZ h3
  have H4 := hqZ h4
  have H5 := hqZ h5
  clear h h1 h2 h3 h4 h5
  go_enter Try.func34, Try.ntmps34
  go_wp2_with fail
  go_ret
  have hb : Below w.heap.size w ((w.alloc (.cells [.int .i64 x.kind, .int .i64 x.tag, .int .u64 (x.n : Int), .slice a1 x.b.length c1, .slice a x.l.length c].toArray 38)).alloc (.cells [.slice a x.l.length c, .bool false].toArray 137)) :=
    ((Below.refl _ _).alloc (Nat.le_refl _) _).alloc (by simp) _
  refine ⟨w.heap.size + 1, rfl, ⟨_, rows, Blk.at_ (by simp), H3.out.below hb, H4.out, H5.out.below hb, fun h => ?_⟩, hb, by omega⟩
  have := hF _ h
  omega
set_option maxHeartbeats 4000000 in
set_option maxRecDepth 100000 in
theorem next_any (k : Int) (rem : List Tv) (bad : Bool) (p : Nat) (F : Nat → Prop) (w : World) (h : Tk w F p rem bad) :
    Calls Try.prog 56 #[.pointer (some ⟨p, 0, none⟩), .int .i64 k] w (NxRes w F p (nextS k rem bad)) := by
  obtain ⟨lv, rows, h1, h2, h3, h4, h5⟩ := h
  obtain ⟨a, cap, rfl, hcap, hm⟩ := h2.form
  unfold maxLen at hm
  have hpl := h1.lt
  obtain ⟨W0, hW0⟩ : ∃ W0, W0 = w.alloc (.cells zs5.toArray 38) := ⟨_, rfl⟩
  obtain ⟨q, hq⟩ : ∃ q, q = w.heap.size := ⟨_, rfl⟩
  have hn0 : Blk W0 q zs5 38 := by rw [hW0, hq]; exact Blk.new _ _ _
  have HQS := hqZ hq
  have hqp : q ≠ p := by omega
  have HPQ : Hid (p ≠ q) := hqZ (by omega)
  have hend : ∀ W : World, Keeps (fun b => b = p ∨ w.heap.size ≤ b) w W → Blk W p [.slice none 0 0, .bool true] 137 → Tk W F p [] true :=
    fun W hk hb => ⟨_, [], hb, Sl.nil _ _ _, by simp, rfl, h5⟩
  have HEND := hqZ hend
  have HK0 : Hid (Keeps (fun b => b = p ∨ w.heap.size ≤ b) w W0) := hqZ (by rw [hW0]; exact (Keeps.refl _ _).alloc _ (.inr (Nat.le_refl _)))
  have hB0 : Below w.heap.size w W0 := by rw [hW0]; exact (Below.refl _ _).alloc (Nat.le_refl _) _
  replace h1 := h1.below hB0 hpl
  have c0 := h1.cell 0
  have f0 := h1.frozen 0
  have f1 := h1.frozen 1
  have c1 : W0.cell? ⟨p, 1, none⟩ = some (.bool bad) := h1.cell 1
  simp only [List.getElem?_cons_zero] at c0
  have H2 := hqZ (h2.below hB0)
  have H3 := hqZ h3
  have H4 := hqZ h4
  have H2w := hqZ h2
  have H5 := hqZ h5
  clear hend h3 h5 h4 h2
  cases rem with
  | nil =>
    have HR : Hid (nextS k [] bad = (.zero, [], true)) := hqZ rfl
    simp only [List.length_nil] at *
    obtain ⟨W2, hW2⟩ : ∃ W2, W2 = (W0.setCell ⟨p, 1, none⟩ (.bool true)).setCell ⟨p, 0, none⟩ (.slice none 0 0) := ⟨_, rfl⟩
    have HP2 : Hid (Blk W2 p [.slice none 0 0, .bool true] 137) := hqZ (by rw [hW2]; exact (h1.set 1 (.bool true)).set 0 (.slice none 0 0))
    have HQ2 : Hid (Blk W2 q zs5 38) := hqZ (by rw [hW2]; exact (hn0.set_other (p := ⟨p, 1, none⟩) hqp _).set_other (p := ⟨p, 0, none⟩) hqp _)
    have HK2 : Hid (Keeps (fun b => b = p ∨ w.heap.size ≤ b) w W2) := hqZ (by rw [hW2]; exact (HK0.out.setCell (p := ⟨p, 1, none⟩) (.inl rfl) _).setCell (p := ⟨p, 0, none⟩) (.inl rfl) _)
    clear h1 hn0
    go_enter Try.func56, Try.ntmps56
    go_upto_region 1 with fail
    show Code.wp _ _ _ _ (w.alloc (.cells zs5.toArray 38))
    rw [← hW0, ← hq]
    clear hW0 hq
    go_upto_region 3 with fail
    show Code.wp _ _ _ _ ((W0.setCell ⟨p, 1, none⟩ (.bool true)).setCell ⟨p, 0, none⟩ (.slice none 0 0))
    rw [← hW2]
    clear hW2
    go_wp2_with ((with_reducible show wpList _ _ _ (⟨none, .store _ (.tmp 4) (.tmp 39), _, _, _, _⟩ :: _) _ _); refine wpList_stAgg rfl (.tmp 4) (.tmp 39) aggDer rfl rfl (vs := zs5) rfl rfl HQ2.out (Nat.le_refl _) (by intro u hu; simp [zs5] at hu; rcases hu with rfl | rfl | rfl <;> rfl) ?_)
    intro w3 h3 k3
    have H3' : Hid (Blk w3 q zs5 38) := hqZ (by simpa [zs5] using h3)
    have HK3 : Hid (Keeps (fun b => b = p ∨ w.heap.size ≤ b) w w3) := hqZ (HK2.out.trans (k3.mono (fun b hb => .inr (by rw [hb, HQS.out]; exact Nat.le_refl _))))
    have HP3 := hqZ (HP2.out.keep k3 HPQ.out)
    clear h3 k3
    go_wp2_with fail
    rw [HR.out]
    exact bodyPost_ret (results_agg rfl aggDer rfl (cs := zs5) rfl H3'.out.cellsAll) rfl ⟨_, rfl, TvF.zero _ _, HEND.out w3 HK3.out HP3.out, HK3.out⟩
  | cons x r =>
    obtain ⟨r0, rs, e, hx, hr⟩ := H4.out
    subst e
    have hlen : ((x :: r).length : Int) = (r.length : Int) + 1 := by simp
    have hln : (x :: r).length = r.length + 1 := rfl
    obtain ⟨bv, lv2, rows2, e, hb1, hb2, hb3, hb4, hb5⟩ := hx.open_
    obtain ⟨b, off, rfl, hc⟩ := H2.out.addr (by rw [H2.out.1, hln]; omega)
    have cK := hc 0 (.int .i64 x.kind) (by simp [e])
    have cT := hc 1 (.int .i64 x.tag) (by simp [e])
    have hC5 : CellsAt W0 b off r0 := fun j u hj => hc j u (by rw [List.getElem?_append_left (List.getElem?_eq_some_iff.1 hj).1]; exact hj)
    have HC5 := hqZ hC5
    have HL5 := hqZ hx.length
    have HX := hqZ hx
    have HRS := hqZ hr
    have HB3 := hqZ (H3.out (by simp) b rfl)
    simp only [Nat.add_zero] at cK
    have hlz : ((((x :: r).length : Nat) : Int) == 0) = false := by simp; omega
    have hlp : 0 < (x :: r).length := by simp
    clear hc hC5 hx hr e hb1 hb2 hb3 hb4 hb5
    by_cases hk : x.kind = k
    · by_cases ht : x.tag = 0
      · have HR : Hid (nextS k (x :: r) bad = (x, r, bad)) := hqZ (by unfold nextS; exact if_pos ⟨hk, ht⟩)
        rw [hk] at cK
        rw [ht] at cT
        obtain ⟨q1, hq1⟩ : ∃ q1, q1 = W0.heap.size := ⟨_, rfl⟩
        have HG : Hid (Blk (W0.alloc (.cells zs5.toArray 38)) W0.heap.size zs5 38) := hqZ (Blk.new _ _ _)
        have HK1 : Hid (Keeps (fun b => b = p ∨ w.heap.size ≤ b) w (W0.alloc (.cells zs5.toArray 38))) := hqZ (HK0.out.alloc _ (.inr hB0.size))
        have HP1 : Hid (Blk (W0.alloc (.cells zs5.toArray 38)) p [.slice (some ⟨b, off, none⟩) (x :: r).length cap, .bool bad] 137) := hqZ (h1.alloc _)
        have HQ1 : Hid (Blk (W0.alloc (.cells zs5.toArray 38)) q zs5 38) := hqZ (hn0.alloc _)
        have hqlt := hn0.lt
        have HNE : Hid (p ≠ W0.heap.size ∧ q ≠ W0.heap.size ∧ w.heap.size ≤ W0.heap.size) := hqZ ⟨by have := h1.lt; omega, by omega, hB0.size⟩
        have HON := hqZ HX.out.one
        have HSL : Hid (∀ W, (Instr.sliceAt 36 (.slice (some ⟨b, off, none⟩) (r.length + 1) cap) (some (.int .i64 1)) none none).run Try.prog W = .ok (.slice (cutZ b off cap 1 5) r.length (cap - 1)) W) := hqZ (fun W => run_sliceZ Try.underlying36 szDer b off (r.length + 1) cap 1 (by omega) (by simpa using hcap) W)
        have HSR : Hid (Sl w 5 (.slice (cutZ b off cap 1 5) r.length (cap - 1)) r.length rs) := hqZ (by
          have h := H2w.out.tailZ 1 (by simp)
          rw [Nat.one_mul, List.drop_append_of_le_length (by rw [HL5.out]; exact Nat.le_refl _), List.drop_of_length_le (by rw [HL5.out]; exact Nat.le_refl _), List.nil_append] at h
          exact h)
        have hFR : 0 < r.length → ∀ y, (Value.slice (cutZ b off cap 1 5) r.length (cap - 1)).ownBlock = some y → F y := fun _ y hy => by
          have : b = y := by
            unfold cutZ at hy
            split at hy <;> simpa [Value.ownBlock] using hy
          rw [← this]; exact HB3.out
        have HFR := hqZ hFR
        have hBF : F b := HB3.out
        have hbp : b ≠ p := fun e => H5.out (by rw [← e]; exact hBF)
        rw [show (x :: r).length = r.length + 1 from rfl] at c0
        clear hcap hn0 h1 hlz hlen hln hFR hlp hqlt
        go_enter Try.func56, Try.ntmps56
        go_upto_region 1 with fail
        show Code.wp _ _ _ _ (w.alloc (.cells zs5.toArray 38))
        rw [← hW0, ← hq]
        clear hW0 hq
        go_wp2_with (first | ((with_reducible show wpList _ _ _ (⟨some 45, _, _, _, _, _⟩ :: _) _ _); refine wpList_ldAgg rfl (.tmp 44) aggDer rfl rfl (cs := r0) HL5.out HC5.out ?_) | ((with_reducible show wpList _ _ _ (⟨none, .store _ (.tmp 5) (.tmp 45), _, _, _, _⟩ :: _) _ _); refine wpList_stAgg rfl (.tmp 5) (.tmp 45) aggDer rfl rfl (vs := r0) rfl HL5.out HG.out (Nat.le_refl _) HON.out ?_))
        intro w4 h4 k4
        have H4' : Hid (Blk w4 W0.heap.size r0 38) := hqZ (by simpa [zs5] using h4)
        have HK4 : Hid (Keeps (fun b => b = p ∨ w.heap.size ≤ b) w w4) := hqZ (HK1.out.trans (k4.mono (fun b hb => .inr (by rw [hb]; exact HNE.out.2.2))))
        have hp4 := HP1.out.keep k4 HNE.out.1
        have HQ4 := hqZ (HQ1.out.keep k4 HNE.out.2.1)
        have c40 : w4.cell? ⟨p, 0, none⟩ = some (.slice (some ⟨b, off, none⟩) (r.length + 1) cap) := hp4.cell 0
        have f40 := hp4.frozen 0
        obtain ⟨W5, hW5⟩ : ∃ W5, W5 = w4.setCell ⟨p, 0, none⟩ (.slice (cutZ b off cap 1 5) r.length (cap - 1)) := ⟨_, rfl⟩
        have HP5 : Hid (Blk W5 p [.slice (cutZ b off cap 1 5) r.length (cap - 1), .bool bad] 137) := hqZ (by rw [hW5]; exact hp4.set 0 _)
        have HK5 : Hid (Keeps (fun b => b = p ∨ w.heap.size ≤ b) w W5) := hqZ (by rw [hW5]; exact HK4.out.setCell (p := ⟨p, 0, none⟩) (.inl rfl) _)
        have HQ5 : Hid (Blk W5 q zs5 38) := hqZ (by rw [hW5]; exact HQ4.out.set_other (p := ⟨p, 0, none⟩) hqp _)
        have HV5 : Hid (Blk W5 W0.heap.size r0 38) := hqZ (by rw [hW5]; exact H4'.out.set_other (p := ⟨p, 0, none⟩) (fun e => HNE.out.1 e.symm) _)
        clear h4 k4 hp4
        rw [← hq1] at *
        go_upto_region 6 with ((with_reducible show wpList _ _ _ (⟨some 51, _, _, _, _, _⟩ :: _) _ _); refine wpList_val rfl (exec_sliceL rfl (HSL.out _)) ?_)
        show Code.wp _ _ _ _ (w4.setCell ⟨p, 0, none⟩ (.slice (cutZ b off cap 1 5) r.length (cap - 1)))
        rw [← hW5]
        clear hW5
        go_wp2_with (first | ((with_reducible show wpList _ _ _ (⟨some 54, _, _, _, _, _⟩ :: _) _ _); refine wpList_ldAgg rfl (.tmp 5) aggDer rfl rfl (cs := r0) HL5.out HV5.out.cellsAll ?_) | ((with_reducible show wpList _ _ _ (⟨none, .store _ (.tmp 4) (.tmp 54), _, _, _, _⟩ :: _) _ _); refine wpList_stAgg rfl (.tmp 4) (.tmp 54) aggDer rfl rfl (vs := r0) rfl HL5.out HQ5.out (Nat.le_refl _) HON.out ?_))
        intro w6 h6 k6
        have H6 : Hid (Blk w6 q r0 38) := hqZ (by simpa [zs5] using h6)
        have HK6 : Hid (Keeps (fun b => b = p ∨ w.heap.size ≤ b) w w6) := hqZ (HK5.out.trans (k6.mono (fun b hb => .inr (by rw [hb, HQS.out]; exact Nat.le_refl _))))
        have HP6 := hqZ (HP5.out.keep k6 HPQ.out)
        clear h6 k6
        go_wp2_with fail
        rw [HR.out]
        have hs : ∀ y, F y → y < w.heap.size → ¬ (y = p ∨ w.heap.size ≤ y) := fun y hy hl h => by
          rcases h with h | h
          · exact H5.out (by rw [← h]; exact hy)
          · omega
        exact bodyPost_ret (results_agg rfl aggDer rfl (cs := r0) HL5.out H6.out.cellsAll) rfl ⟨r0, rfl, HX.out.keep HK6.out hs, ⟨_, rs, HP6.out, HSR.out.keepF HK6.out HFR.out hs, HFR.out, HRS.out.keep HK6.out hs, H5.out⟩, HK6.out⟩
      · have HR : Hid (nextS k (x :: r) bad = (.zero, [], true)) := hqZ (by unfold nextS; exact if_neg (fun h => ht h.2))
        have htb : (x.tag != 0) = true := by simpa using ht
        rw [hk] at cK
        generalize x.tag = xt at *
        generalize (x :: r).length = N at *
        clear hlen hln ht
        obtain ⟨W2, hW2⟩ : ∃ W2, W2 = (W0.setCell ⟨p, 1, none⟩ (.bool true)).setCell ⟨p, 0, none⟩ (.slice none 0 0) := ⟨_, rfl⟩
        have HP2 : Hid (Blk W2 p [.slice none 0 0, .bool true] 137) := hqZ (by rw [hW2]; exact (h1.set 1 (.bool true)).set 0 (.slice none 0 0))
        have HQ2 : Hid (Blk W2 q zs5 38) := hqZ (by rw [hW2]; exact (hn0.set_other (p := ⟨p, 1, none⟩) hqp _).set_other (p := ⟨p, 0, none⟩) hqp _)
        have HK2 : Hid (Keeps (fun b => b = p ∨ w.heap.size ≤ b) w W2) := hqZ (by rw [hW2]; exact (HK0.out.setCell (p := ⟨p, 1, none⟩) (.inl rfl) _).setCell (p := ⟨p, 0, none⟩) (.inl rfl) _)
        clear h1 hn0
        go_enter Try.func56, Try.ntmps56
        go_upto_region 1 with fail
        show Code.wp _ _ _ _ (w.alloc (.cells zs5.toArray 38))
        rw [← hW0, ← hq]
        clear hW0 hq
        go_upto_region 3 with fail
        show Code.wp _ _ _ _ ((W0.setCell ⟨p, 1, none⟩ (.bool true)).setCell ⟨p, 0, none⟩ (.slice none 0 0))
        rw [← hW2]
        clear hW2
        go_wp2_with ((with_reducible show wpList _ _ _ (⟨none, .store _ (.tmp 4) (.tmp 39), _, _, _, _⟩ :: _) _ _); refine wpList_stAgg rfl (.tmp 4) (.tmp 39) aggDer rfl rfl (vs := zs5) rfl rfl HQ2.out (Nat.le_refl _) (by intro u hu; simp [zs5] at hu; rcases hu with rfl | rfl | rfl <;> rfl) ?_)
        intro w3 h3 k3
        have H3' : Hid (Blk w3 q zs5 38) := hqZ (by simpa [zs5] using h3)
        have HK3 : Hid (Keeps (fun b => b = p ∨ w.heap.size ≤ b) w w3) := hqZ (HK2.out.trans (k3.mono (fun b hb => .inr (by rw [hb, HQS.out]; exact Nat.le_refl _))))
        have HP3 := hqZ (HP2.out.keep k3 HPQ.out)
        clear h3 k3
        go_wp2_with fail
        rw [HR.out]
        exact bodyPost_ret (results_agg rfl aggDer rfl (cs := zs5) rfl H3'.out.cellsAll) rfl ⟨_, rfl, TvF.zero _ _, HEND.out w3 HK3.out HP3.out, HK3.out⟩
    · have HR : Hid (nextS k (x :: r) bad = (.zero, [], true)) := hqZ (by unfold nextS; exact if_neg (fun h => hk h.1))
      have hkb : (x.kind != k) = true := by simpa using hk
      generalize x.kind = xk at *
      generalize (x :: r).length = N at *
      clear hlen hln hk
      obtain ⟨W2, hW2⟩ : ∃ W2, W2 = (W0.setCell ⟨p, 1, none⟩ (.bool true)).setCell ⟨p, 0, none⟩ (.slice none 0 0) := ⟨_, rfl⟩
      have HP2 : Hid (Blk W2 p [.slice none 0 0, .bool true] 137) := hqZ (by rw [hW2]; exact (h1.set 1 (.bool true)).set 0 (.slice none 0 0))
      have HQ2 : Hid (Blk W2 q zs5 38) := hqZ (by rw [hW2]; exact (hn0.set_other (p := ⟨p, 1, none⟩) hqp _).set_other (p := ⟨p, 0, none⟩) hqp _)
      have HK2 : Hid (Keeps (fun b => b = p ∨ w.heap.size ≤ b) w W2) := hqZ (by rw [hW2]; exact (HK0.out.setCell (p := ⟨p, 1, none⟩) (.inl rfl) _).setCell (p := ⟨p, 0, none⟩) (.inl rfl) _)
      clear h1 hn0
      go_enter Try.func56, Try.ntmps56
      go_upto_region 1 with fail
      show Code.wp _ _ _ _ (w.alloc (.cells zs5.toArray 38))
      rw [← hW0, ← hq]
      clear hW0 hq
      go_upto_region 3 with fail
      show Code.wp _ _ _ _ ((W0.setCell ⟨p, 1, none⟩ (.bool true)).setCell ⟨p, 0, none⟩ (.slice none 0 0))
      rw [← hW2]
      clear hW2
      go_wp2_with ((with_reducible show wpList _ _ _ (⟨none, .store _ (.tmp 4) (.tmp 39), _, _, _, _⟩ :: _) _ _); refine wpList_stAgg rfl (.tmp 4) (.tmp 39) aggDer rfl rfl (vs := zs5) rfl rfl HQ2.out (Nat.le_refl _) (by intro u hu; simp [zs5] at hu; rcases hu with rfl | rfl | rfl <;> rfl) ?_)
      intro w3 h3 k3
      have H3' : Hid (Blk w3 q zs5 38) := hqZ (by simpa [zs5] using h3)
      have HK3 : Hid (Keeps (fun b => b = p ∨ w.heap.size ≤ b) w w3) := hqZ (HK2.out.trans (k3.mono (fun b hb => .inr (by rw [hb, HQS.out]; exact Nat.le_refl _))))
      have HP3 := hqZ (HP2.out.keep k3 HPQ.out)
      clear h3 k3
      go_wp2_with fail
      rw [HR.out]
      exact bodyPost_ret (results_agg rfl aggDer rfl (cs := zs5) rfl H3'.out.cellsAll) rfl ⟨_, rfl, TvF.zero _ _, HEND.out w3 HK3.out HP3.out, HK3.out⟩
set_option maxHeartbeats 4000000 in
set_option maxRecDepth 100000 in
theorem part_any (k : Int) (rem : List Tv) (bad : Bool) (p : Nat) (F : Nat → Prop) (w : World) (h : Tk w F p rem bad) :
    Calls Try.prog 58 #[.pointer (some ⟨p, 0, none⟩), .int .i64 k] w (NxRes w F p (partS k rem bad)) := by
  obtain ⟨lv, rows, h1, h2, h3, h4, h5⟩ := h
  obtain ⟨a, cap, rfl, hcap, hm⟩ := h2.form
  unfold maxLen at hm
  have hpl := h1.lt
  obtain ⟨W0, hW0⟩ : ∃ W0, W0 = w.alloc (.cells zs5.toArray 38) := ⟨_, rfl⟩
  obtain ⟨q, hq⟩ : ∃ q, q = w.heap.size := ⟨_, rfl⟩
  have hn0 : Blk W0 q zs5 38 := by rw [hW0, hq]; exact Blk.new _ _ _
  have HQS := hqZ hq
  have hqp : q ≠ p := by omega
  have HPQ : Hid (p ≠ q) := hqZ (by omega)
  have hend : ∀ W : World, Keeps (fun b => b = p ∨ w.heap.size ≤ b) w W → Blk W p [.slice none 0 0, .bool true] 137 → Tk W F p [] true :=
    fun W hk hb => ⟨_, [], hb, Sl.nil _ _ _, by simp, rfl, h5⟩
  have HEND := hqZ hend
  have HK0 : Hid (Keeps (fun b => b = p ∨ w.heap.size ≤ b) w W0) := hqZ (by rw [hW0]; exact (Keeps.refl _ _).alloc _ (.inr (Nat.le_refl _)))
  have hB0 : Below w.heap.size w W0 := by rw [hW0]; exact (Below.refl _ _).alloc (Nat.le_refl _) _
  replace h1 := h1.below hB0 hpl
  have c0 := h1.cell 0
  have f0 := h1.frozen 0
  have f1 := h1.frozen 1
  have c1 : W0.cell? ⟨p, 1, none⟩ = some (.bool bad) := h1.cell 1
  simp only [List.getElem?_cons_zero] at c0
  have H2 := hqZ (h2.below hB0)
  have H3 := hqZ h3
  have H4 := hqZ h4
  have H2w := hqZ h2
  have H5 := hqZ h5
  clear hend h3 h5 h4 h2
  cases rem with
  | nil =>
    have HR : Hid (partS k [] bad = (.zero, [], true)) := hqZ rfl
    simp only [List.length_nil] at *
    obtain ⟨W2, hW2⟩ : ∃ W2, W2 = (W0.setCell ⟨p, 1, none⟩ (.bool true)).setCell ⟨p, 0, none⟩ (.slice none 0 0) := ⟨_, rfl⟩
    have HP2 : Hid (Blk W2 p [.slice none 0 0, .bool true] 137) := hqZ (by rw [hW2]; exact (h1.set 1 (.bool true)).set 0 (.slice none 0 0))
    have HQ2 : Hid (Blk W2 q zs5 38) := hqZ (by rw [hW2]; exact (hn0.set_other (p := ⟨p, 1, none⟩) hqp _).set_other (p := ⟨p, 0, none⟩) hqp _)
    have HK2 : Hid (Keeps (fun b => b = p ∨ w.heap.size ≤ b) w W2) := hqZ (by rw [hW2]; exact (HK0.out.setCell (p := ⟨p, 1, none⟩) (.inl rfl) _).setCell (p := ⟨p, 0, none⟩) (.inl rfl) _)
    clear h1 hn0
    go_enter Try.func58, Try.ntmps58
    go_upto_region 1 with fail
    show Code.wp _ _ _ _ (w.alloc (.cells zs5.toArray 38))
    rw [← hW0, ← hq]
    clear hW0 hq
    go_upto_region 3 with fail
    show Code.wp _ _ _ _ ((W0.setCell ⟨p, 1, none⟩ (.bool true)).setCell ⟨p, 0, none⟩ (.slice none 0 0))
    rw [← hW2]
    clear hW2
    go_wp2_with ((with_reducible show wpList _ _ _ (⟨none, .store _ (.tmp 4) (.tmp 39), _, _, _, _⟩ :: _) _ _); refine wpList_stAgg rfl (.tmp 4) (.tmp 39) aggDer rfl rfl (vs := zs5) rfl rfl HQ2.out (Nat.le_refl _) (by intro u hu; simp [zs5] at hu; rcases hu with rfl | rfl | rfl <;> rfl) ?_)
    intro w3 h3 k3
    have H3' : Hid (Blk w3 q zs5 38) := hqZ (by simpa [zs5] using h3)
    have HK3 : Hid (Keeps (fun b => b = p ∨ w.heap.size ≤ b) w w3) := hqZ (HK2.out.trans (k3.mono (fun b hb => .inr (by rw [hb, HQS.out]; exact Nat.le_refl _))))
    have HP3 := hqZ (HP2.out.keep k3 HPQ.out)
    clear h3 k3
    go_wp2_with fail
    rw [HR.out]
    exact bodyPost_ret (results_agg rfl aggDer rfl (cs := zs5) rfl H3'.out.cellsAll) rfl ⟨_, rfl, TvF.zero _ _, HEND.out w3 HK3.out HP3.out, HK3.out⟩
  | cons x r =>
    obtain ⟨r0, rs, e, hx, hr⟩ := H4.out
    subst e
    have hlen : ((x :: r).length : Int) = (r.length : Int) + 1 := by simp
    have hln : (x :: r).length = r.length + 1 := rfl
    obtain ⟨bv, lv2, rows2, e, hb1, hb2, hb3, hb4, hb5⟩ := hx.open_
    obtain ⟨b, off, rfl, hc⟩ := H2.out.addr (by rw [H2.out.1, hln]; omega)
    have cK := hc 0 (.int .i64 x.kind) (by simp [e])
    have cT := hc 1 (.int .i64 x.tag) (by simp [e])
    have hC5 : CellsAt W0 b off r0 := fun j u hj => hc j u (by rw [List.getElem?_append_left (List.getElem?_eq_some_iff.1 hj).1]; exact hj)
    have HC5 := hqZ hC5
    have HL5 := hqZ hx.length
    have HX := hqZ hx
    have HRS := hqZ hr
    have HB3 := hqZ (H3.out (by simp) b rfl)
    simp only [Nat.add_zero] at cK
    have hlz : ((((x :: r).length : Nat) : Int) == 0) = false := by simp; omega
    have hlp : 0 < (x :: r).length := by simp
    clear hc hC5 hx hr e hb1 hb2 hb3 hb4 hb5
    by_cases hk : x.kind = 2
    · by_cases ht : x.tag = k
      · have HR : Hid (partS k (x :: r) bad = (x, r, bad)) := hqZ (by unfold partS; exact if_pos ⟨hk, ht⟩)
        rw [hk] at cK
        rw [ht] at cT
        obtain ⟨q1, hq1⟩ : ∃ q1, q1 = W0.heap.size := ⟨_, rfl⟩
        have HG : Hid (Blk (W0.alloc (.cells zs5.toArray 38)) W0.heap.size zs5 38) := hqZ (Blk.new _ _ _)
        have HK1 : Hid (Keeps (fun b => b = p ∨ w.heap.size ≤ b) w (W0.alloc (.cells zs5.toArray 38))) := hqZ (HK0.out.alloc _ (.inr hB0.size))
        have HP1 : Hid (Blk (W0.alloc (.cells zs5.toArray 38)) p [.slice (some ⟨b, off, none⟩) (x :: r).length cap, .bool bad] 137) := hqZ (h1.alloc _)
        have HQ1 : Hid (Blk (W0.alloc (.cells zs5.toArray 38)) q zs5 38) := hqZ (hn0.alloc _)
        have hqlt := hn0.lt
        have HNE : Hid (p ≠ W0.heap.size ∧ q ≠ W0.heap.size ∧ w.heap.size ≤ W0.heap.size) := hqZ ⟨by have := h1.lt; omega, by omega, hB0.size⟩
        have HON := hqZ HX.out.one
        have HSL : Hid (∀ W, (Instr.sliceAt 36 (.slice (some ⟨b, off, none⟩) (r.length + 1) cap) (some (.int .i64 1)) none none).run Try.prog W = .ok (.slice (cutZ b off cap 1 5) r.length (cap - 1)) W) := hqZ (fun W => run_sliceZ Try.underlying36 szDer b off (r.length + 1) cap 1 (by omega) (by simpa using hcap) W)
        have HSR : Hid (Sl w 5 (.slice (cutZ b off cap 1 5) r.length (cap - 1)) r.length rs) := hqZ (by
          have h := H2w.out.tailZ 1 (by simp)
          rw [Nat.one_mul, List.drop_append_of_le_length (by rw [HL5.out]; exact Nat.le_refl _), List.drop_of_length_le (by rw [HL5.out]; exact Nat.le_refl _), List.nil_append] at h
          exact h)
        have hFR : 0 < r.length → ∀ y, (Value.slice (cutZ b off cap 1 5) r.length (cap - 1)).ownBlock = some y → F y := fun _ y hy => by
          have : b = y := by
            unfold cutZ at hy
            split at hy <;> simpa [Value.ownBlock] using hy
          rw [← this]; exact HB3.out
        have HFR := hqZ hFR
        have hBF : F b := HB3.out
        have hbp : b ≠ p := fun e => H5.out (by rw [← e]; exact hBF)
        rw [show (x :: r).length = r.length + 1 from rfl] at c0
        clear hcap hn0 h1 hlz hlen hln hFR hlp hqlt
        go_enter Try.func58, Try.ntmps58
        go_upto_region 1 with fail
        show Code.wp _ _ _ _ (w.alloc (.cells zs5.toArray 38))
        rw [← hW0, ← hq]
        clear hW0 hq
        go_wp2_with (first | ((with_reducible show wpList _ _ _ (⟨some 45, _, _, _, _, _⟩ :: _) _ _); refine wpList_ldAgg rfl (.tmp 44) aggDer rfl rfl (cs := r0) HL5.out HC5.out ?_) | ((with_reducible show wpList _ _ _ (⟨none, .store _ (.tmp 5) (.tmp 45), _, _, _, _⟩ :: _) _ _); refine wpList_stAgg rfl (.tmp 5) (.tmp 45) aggDer rfl rfl (vs := r0) rfl HL5.out HG.out (Nat.le_refl _) HON.out ?_))
        intro w4 h4 k4
        have H4' : Hid (Blk w4 W0.heap.size r0 38) := hqZ (by simpa [zs5] using h4)
        have HK4 : Hid (Keeps (fun b => b = p ∨ w.heap.size ≤ b) w w4) := hqZ (HK1.out.trans (k4.mono (fun b hb => .inr (by rw [hb]; exact HNE.out.2.2))))
        have hp4 := HP1.out.keep k4 HNE.out.1
        have HQ4 := hqZ (HQ1.out.keep k4 HNE.out.2.1)
        have c40 : w4.cell? ⟨p, 0, none⟩ = some (.slice (some ⟨b, off, none⟩) (r.length + 1) cap) := hp4.cell 0
        have f40 := hp4.frozen 0
        obtain ⟨W5, hW5⟩ : ∃ W5, W5 = w4.setCell ⟨p, 0, none⟩ (.slice (cutZ b off cap 1 5) r.length (cap - 1)) := ⟨_, rfl⟩
        have HP5 : Hid (Blk W5 p [.slice (cutZ b off cap 1 5) r.length (cap - 1), .bool bad] 137) := hqZ (by rw [hW5]; exact hp4.set 0 _)
        have HK5 : Hid (Keeps (fun b => b = p ∨ w.heap.size ≤ b) w W5) := hqZ (by rw [hW5]; exact HK4.out.setCell (p := ⟨p, 0, none⟩) (.inl rfl) _)
        have HQ5 : Hid (Blk W5 q zs5 38) := hqZ (by rw [hW5]; exact HQ4.out.set_other (p := ⟨p, 0, none⟩) hqp _)
        have HV5 : Hid (Blk W5 W0.heap.size r0 38) := hqZ (by rw [hW5]; exact H4'.out.set_other (p := ⟨p, 0, none⟩) (fun e => HNE.out.1 e.symm) _)
        clear h4 k4 hp4
        rw [← hq1] at *
        go_upto_region 6 with ((with_reducible show wpList _ _ _ (⟨some 51, _, _, _, _, _⟩ :: _) _ _); refine wpList_val rfl (exec_sliceL rfl (HSL.out _)) ?_)
        show Code.wp _ _ _ _ (w4.setCell ⟨p, 0, none⟩ (.slice (cutZ b off cap 1 5) r.length (cap - 1)))
        rw [← hW5]
        clear hW5
        go_wp2_with (first | ((with_reducible show wpList _ _ _ (⟨some 54, _, _, _, _, _⟩ :: _) _ _); refine wpList_ldAgg rfl (.tmp 5) aggDer rfl rfl (cs := r0) HL5.out HV5.out.cellsAll ?_) | ((with_reducible show wpList _ _ _ (⟨none, .store _ (.tmp 4) (.tmp 54), _, _, _, _⟩ :: _) _ _); refine wpList_stAgg rfl (.tmp 4) (.tmp 54) aggDer rfl rfl (vs := r0) rfl HL5.out HQ5.out (Nat.le_refl _) HON.out ?_))
        intro w6 h6 k6
        have H6 : Hid (Blk w6 q r0 38) := hqZ (by simpa [zs5] using h6)
        have HK6 : Hid (Keeps (fun b => b = p ∨ w.heap.size ≤ b) w w6) := hqZ (HK5.out.trans (k6.mono (fun b hb => .inr (by rw [hb, HQS.out]; exact Nat.le_refl _))))
        have HP6 := hqZ (HP5.out.keep k6 HPQ.out)
        clear h6 k6
        go_wp2_with fail
        rw [HR.out]
        have hs : ∀ y, F y → y < w.heap.size → ¬ (y = p ∨ w.heap.size ≤ y) := fun y hy hl h => by
          rcases h with h | h
          · exact H5.out (by rw [← h]; exact hy)
          · omega
        exact bodyPost_ret (results_agg rfl aggDer rfl (cs := r0) HL5.out H6.out.cellsAll) rfl ⟨r0, rfl, HX.out.keep HK6.out hs, ⟨_, rs, HP6.out, HSR.out.keepF HK6.out HFR.out hs, HFR.out, HRS.out.keep HK6.out hs, H5.out⟩, HK6.out⟩
      · have HR : Hid (partS k (x :: r) bad = (.zero, [], true)) := hqZ (by unfold partS; exact if_neg (fun h => ht h.2))
        have htb : (x.tag != k) = true := by simpa using ht
        rw [hk] at cK
        generalize x.tag = xt at *
        generalize (x :: r).length = N at *
        clear hlen hln ht
        obtain ⟨W2, hW2⟩ : ∃ W2, W2 = (W0.setCell ⟨p, 1, none⟩ (.bool true)).setCell ⟨p, 0, none⟩ (.slice none 0 0) := ⟨_, rfl⟩
        have HP2 : Hid (Blk W2 p [.slice none 0 0, .bool true] 137) := hqZ (by rw [hW2]; exact (h1.set 1 (.bool true)).set 0 (.slice none 0 0))
        have HQ2 : Hid (Blk W2 q zs5 38) := hqZ (by rw [hW2]; exact (hn0.set_other (p := ⟨p, 1, none⟩) hqp _).set_other (p := ⟨p, 0, none⟩) hqp _)
        have HK2 : Hid (Keeps (fun b => b = p ∨ w.heap.size ≤ b) w W2) := hqZ (by rw [hW2]; exact (HK0.out.setCell (p := ⟨p, 1, none⟩) (.inl rfl) _).setCell (p := ⟨p, 0, none⟩) (.inl rfl) _)
        clear h1 hn0
        go_enter Try.func58, Try.ntmps58
        go_upto_region 1 with fail
        show Code.wp _ _ _ _ (w.alloc (.cells zs5.toArray 38))
        rw [← hW0, ← hq]
        clear hW0 hq
        go_upto_region 3 with fail
        show Code.wp _ _ _ _ ((W0.setCell ⟨p, 1, none⟩ (.bool true)).setCell ⟨p, 0, none⟩ (.slice none 0 0))
        rw [← hW2]
        clear hW2
        go_wp2_with ((with_reducible show wpList _ _ _ (⟨none, .store _ (.tmp 4) (.tmp 39), _, _, _, _⟩ :: _) _ _); refine wpList_stAgg rfl (.tmp 4) (.tmp 39) aggDer rfl rfl (vs := zs5) rfl rfl HQ2.out (Nat.le_refl _) (by intro u hu; simp [zs5] at hu; rcases hu with rfl | rfl | rfl <;> rfl) ?_)
        intro w3 h3 k3
        have H3' : Hid (Blk w3 q zs5 38) := hqZ (by simpa [zs5] using h3)
        have HK3 : Hid (Keeps (fun b => b = p ∨ w.heap.size ≤ b) w w3) := hqZ (HK2.out.trans (k3.mono (fun b hb => .inr (by rw [hb, HQS.out]; exact Nat.le_refl _))))
        have HP3 := hqZ (HP2.out.keep k3 HPQ.out)
        clear h3 k3
        go_wp2_with fail
        rw [HR.out]
        exact bodyPost_ret (results_agg rfl aggDer rfl (cs := zs5) rfl H3'.out.cellsAll) rfl ⟨_, rfl, TvF.zero _ _, HEND.out w3 HK3.out HP3.out, HK3.out⟩
    · have HR : Hid (partS k (x :: r) bad = (.zero, [], true)) := hqZ (by unfold partS; exact if_neg (fun h => hk h.1))
      have hkb : (x.kind != 2) = true := by simpa using hk
      generalize x.kind = xk at *
      generalize (x :: r).length = N at *
      clear hlen hln hk
      obtain ⟨W2, hW2⟩ : ∃ W2, W2 = (W0.setCell ⟨p, 1, none⟩ (.bool true)).setCell ⟨p, 0, none⟩ (.slice none 0 0) := ⟨_, rfl⟩
      have HP2 : Hid (Blk W2 p [.slice none 0 0, .bool true] 137) := hqZ (by rw [hW2]; exact (h1.set 1 (.bool true)).set 0 (.slice none 0 0))
      have HQ2 : Hid (Blk W2 q zs5 38) := hqZ (by rw [hW2]; exact (hn0.set_other (p := ⟨p, 1, none⟩) hqp _).set_other (p := ⟨p, 0, none⟩) hqp _)
      have HK2 : Hid (Keeps (fun b => b = p ∨ w.heap.size ≤ b) w W2) := hqZ (by rw [hW2]; exact (HK0.out.setCell (p := ⟨p, 1, none⟩) (.inl rfl) _).setCell (p := ⟨p, 0, none⟩) (.inl rfl) _)
      clear h1 hn0
      go_enter Try.func58, Try.ntmps58
      go_upto_region 1 with fail
      show Code.wp _ _ _ _ (w.alloc (.cells zs5.toArray 38))
      rw [← hW0, ← hq]
      clear hW0 hq
      go_upto_region 3 with fail
      show Code.wp _ _ _ _ ((W0.setCell ⟨p, 1, none⟩ (.bool true)).setCell ⟨p, 0, none⟩ (.slice none 0 0))
      rw [← hW2]
      clear hW2
      go_wp2_with ((with_reducible show wpList _ _ _ (⟨none, .store _ (.tmp 4) (.tmp 39), _, _, _, _⟩ :: _) _ _); refine wpList_stAgg rfl (.tmp 4) (.tmp 39) aggDer rfl rfl (vs := zs5) rfl rfl HQ2.out (Nat.le_refl _) (by intro u hu; simp [zs5] at hu; rcases hu with rfl | rfl | rfl <;> rfl) ?_)
      intro w3 h3 k3
      have H3' : Hid (Blk w3 q zs5 38) := hqZ (by simpa [zs5] using h3)
      have HK3 : Hid (Keeps (fun b => b = p ∨ w.heap.size ≤ b) w w3) := hqZ (HK2.out.trans (k3.mono (fun b hb => .inr (by rw [hb, HQS.out]; exact Nat.le_refl _))))
      have HP3 := hqZ (HP2.out.keep k3 HPQ.out)
      clear h3 k3
      go_wp2_with fail
      rw [HR.out]
      exact bodyPost_ret (results_agg rfl aggDer rfl (cs := zs5) rfl H3'.out.cellsAll) rfl ⟨_, rfl, TvF.zero _ _, HEND.out w3 HK3.out HP3.out, HK3.out⟩
end Go.Proofs.Ytpjkidcfidmfaaa
