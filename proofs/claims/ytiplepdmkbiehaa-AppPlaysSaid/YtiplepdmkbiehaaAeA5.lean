/- Texts of this proof, one behind the other: AppS, AppI, DerCount, DerLaw2, AppW, Conv, ConvS, Name, Name2, NameTx, AppC, AppL, AppH, AppE, AppN. -/
import Derived.Test.YtiplepdmkbiehaaAeA4
import Derived.Lib.ConvBytes
import Derived.ArgAppend
import Derived.Lib.BufferRead
import Derived.Test.YtiplepdmkbiehaaProg
import Derived.Lib.OthersKept
import Derived.Lib.RuneCount
namespace Go.Proofs.Ytiplepdmkbiehaa
set_option linter.unusedSimpArgs false
set_option linter.unusedVariables false
open Go.RowKit
set_option maxRecDepth 100000 in
theorem appFull_any (a q : Nat) (P : List Nat × List Nat) (A : AppF) (l : List Res) (w : World) (h : Hold w (appR a q P A :: l)) :
    Calls Try.prog 23 #[.pointer (some ⟨a, 0, none⟩)] w fun e w' => e = .returned (.bool (decide (16 ≤ A.waits.length))) ∧ Hold w' (appR a q P A :: l) := by
  have HC0 := hI h
  obtain ⟨ob, ib, nb, wv, lv, h⟩ := appR_open h
  obtain ⟨wa, wc, rfl, hw1, hw2⟩ := waitsR_form (v := wv) (ws := A.waits) h (by simp)
  have c5 : w.cell? ⟨a, 5, none⟩ = some (.slice wa A.waits.length wc) := h.blk0.cell 5
  clear h
  unfold maxLen at hw2
  go_enter Try.func23, Try.ntmps23
  go_wp2_with fail
  go_ret
  exact ⟨congrArg (fun b => Ending.returned (.bool b)) (decide_eq_decide.2 (by omega)), HC0.out⟩
set_option maxRecDepth 100000 in
theorem appFull_eq (a q : Nat) (P : List Nat × List Nat) (A : AppF) (l : List Res) (w : World) (h : Hold w (appR a q P A :: l)) :
    Calls Try.prog 23 #[.pointer (some ⟨a, 0, none⟩)] w fun e w' => e = .returned (.bool (decide (16 ≤ A.waits.length))) ∧ w' = w := by
  have HC0 := hI h
  obtain ⟨ob, ib, nb, wv, lv, h⟩ := appR_open h
  obtain ⟨wa, wc, rfl, hw1, hw2⟩ := waitsR_form (v := wv) (ws := A.waits) h (by simp)
  have c5 : w.cell? ⟨a, 5, none⟩ = some (.slice wa A.waits.length wc) := h.blk0.cell 5
  clear h
  unfold maxLen at hw2
  go_enter Try.func23, Try.ntmps23
  go_wp2_with fail
  go_ret
  exact ⟨congrArg (fun b => Ending.returned (.bool b)) (decide_eq_decide.2 (by omega)), rfl⟩
theorem logCells_snoc (e : EvF) (d : Value) : ∀ {es : List EvF} {ds : List Value}, ds.length = es.length → logCells (es ++ [e]) (ds ++ [d]) = logCells es ds ++ evCells d e
  | [], [], _ => by simp [logCells]
  | [], _ :: _, h => by simp at h
  | _ :: _, [], h => by simp at h
  | x :: es, y :: ds, h => by simp [logCells, logCells_snoc e d (by simpa using h : ds.length = es.length)]
theorem logR_snoc {W : World} {v dv : Value} {es : List EvF} {e : EvF} {ds : List Value} {l : List Res} (h : Hold W (.own 54 4 v (es.length + 1) (logCells es ds ++ evCells dv e) :: sumsR (ds ++ [dv]) (es.map (·.data) ++ [e.data]) :: l)) (hd : ds.length = es.length) : Hold W (logR v (es ++ [e]) :: l) := by
  refine logR_shut (ds := ds ++ [dv]) ?_
  rw [List.length_append, logCells_snoc _ _ hd, List.map_append]
  exact h
def hapA (A : AppF) (e : EvF) : AppF := { A with log := A.log ++ [e] }
set_option maxRecDepth 100000 in
set_option maxHeartbeats 1000000 in
theorem appHappen_any (a q : Nat) (P : List Nat × List Nat) (A : AppF) (k id : Int) (s : ByteArray) (dv : Value) (d : List UInt8) (l : List Res) (w : World) (h : Hold w (appR a q P A :: .row dv d :: l)) (hn : A.log.length ≤ 1099511627776) :
    Calls Try.prog 52 #[.pointer (some ⟨a, 0, none⟩), .int .i64 k, .int .i64 id, .string s, dv] w fun e w' => e = .returned (.tuple #[]) ∧ Hold w' (appR a q P (hapA A ⟨k, id, s, d⟩) :: l) := by
  obtain ⟨ia, outs, ins, names, waits, log⟩ := A
  obtain ⟨ob, ib, nb, wv, lv, h⟩ := appR_open h
  obtain ⟨da, dc, rfl, _⟩ := (h.rowOf (v := dv) (b := d) (by simp)).form
  obtain ⟨ds, h⟩ := logR_open h.pull6
  have hds : ds.length = log.length := by simpa using sumsR_len h.tail
  have hown := h.own0.1
  obtain ⟨la, lc, rfl, _⟩ := hown.sl.form
  have c6 : w.cell? ⟨a, 6, none⟩ = some (.slice la log.length lc) := h.tail.tail.blk0.cell 6
  have HA := hI (h.alloc (.cells #[.int .i64 k, .int .i64 id, .string s, .slice da d.length dc] 54))
  have HOW : Hid (Own (w.alloc (.cells #[.int .i64 k, .int .i64 id, .string s, .slice da d.length dc] 54)) 0 54 4 (.slice la log.length lc) log.length (logCells log ds) ∧ _) := hI HA.out.own0
  have HSL : Hid (Sl (w.alloc (.cells #[.int .i64 k, .int .i64 id, .string s, .slice da d.length dc] 54)) 4 (.slice (some ⟨w.heap.size, 0, none⟩) 1 1) 1 [.int .i64 k, .int .i64 id, .string s, .slice da d.length dc]) := hI (Sl.lit rfl rfl (by simp [Value.oneCell']) (by unfold maxLen; decide))
  have HDS := hI hds
  have HN : Hid (log.length ≤ 1099511627776) := hI hn
  clear h hds hown hn
  go_enter Try.func52, Try.ntmps52
  go_wp2_with ((with_reducible show wpList _ _ _ (⟨some 21, _, _, _, _, _⟩ :: _) _ _); refine wpList_app2 rfl (.tmp 14) (.tmp 20) elEv rfl 0 HOW.out.1 HOW.out.2 HSL.out (by have := HN.out; unfold maxLen; omega) (by have := HN.out; omega) (Nat.zero_le _) ?_)
  intro v' w' ho hk hv
  have hc := HA.out.append (B := 0) ho (hk.mono fun k h => by simpa using h) (fun k h => by simpa using hv k h)
  obtain ⟨va, vc, rfl, _⟩ := ho.sl.form
  have hb := hc.tail.tail.blk0
  have c6' : w'.cell? ⟨a, 6, none⟩ = some (.slice la log.length lc) := hb.cell 6
  have f6' := hb.frozen 6
  have HC := hI (hc.pull3.set 6 (.slice va (log.length + 1) vc))
  clear ho hk hv hc hb HA HOW HSL
  go_wp2_with fail
  go_end0
  have h1 := (sumsR_snoc HC.out.pull8.pull4).pull3
  exact ⟨rfl, appR_shut (logR_snoc (e := ⟨k, id, s, d⟩) h1 HDS.out).push6⟩
/-- What is to be said waits. -/
def sayA (A : AppF) (b : List UInt8) : AppF := { A with waits := A.waits ++ [b] }
set_option maxRecDepth 100000 in
set_option maxHeartbeats 1000000 in
theorem appEvents_any (a q : Nat) (P : List Nat × List Nat) (A : AppF) (l : List Res) (w : World) (h : Hold w (appR a q P A :: l)) :
    Calls Try.prog 18 #[.pointer (some ⟨a, 0, none⟩)] w fun e w' => ∃ v, e = .returned v ∧ Hold w' (appR a q P { A with log := [] } :: logR v A.log :: l) := by
  obtain ⟨ia, outs, ins, names, waits, log⟩ := A
  obtain ⟨ob, ib, nb, wv, lv, h⟩ := appR_open h
  obtain ⟨ds, h'⟩ := logR_open h.pull6
  obtain ⟨la, lc, rfl, _⟩ := h'.own0.1.sl.form
  have c6 : w.cell? ⟨a, 6, none⟩ = some (.slice la log.length lc) := h.blk0.cell 6
  have f6 := h.blk0.frozen 6
  have HC := hI (h.set 6 (.slice none 0 0))
  clear h h'
  go_enter Try.func18, Try.ntmps18
  go_wp2_with fail
  go_ret
  refine ⟨_, rfl, ?_⟩
  have hc := HC.out
  exact appR_shut (logR_nil hc.pull6).swap.push7.push6
set_option maxRecDepth 100000 in
set_option maxHeartbeats 2000000 in
theorem appSay_any (a q : Nat) (P : List Nat × List Nat) (A : AppF) (t : Int) (lv : Value) (ts : List Tv) (rows : List Value) (F : Nat → Prop) (l : List Res) (w : World) (h : Hold w (appR a q P A :: l)) (hs : Sl w 5 lv ts.length rows) (hF : 0 < ts.length → ∀ y, lv.ownBlock = some y → F y) (ht : TvsF w F ts rows)
    (hnw : Nw (.mk 2 t 0 [] ts)) (hlen : (writeS (.mk 2 t 0 [] ts)).length ≤ 1073741824) (hok : (wrS (.mk 2 t 0 [] ts)).2 = 0) (hn : A.waits.length ≤ 1099511627776) :
    Calls Try.prog 25 #[.pointer (some ⟨a, 0, none⟩), .int .i64 t, lv] w fun e w' => e = .returned (.int .i64 0) ∧ Hold w' (appR a q P (sayA A (wrS (.mk 2 t 0 [] ts)).1) :: l) := by
  obtain ⟨ia, outs, ins, names, waits, log⟩ := A
  obtain ⟨x, hx⟩ : ∃ x, x = Tv.mk 2 t 0 [] ts := ⟨_, rfl⟩
  rw [← hx] at hnw hlen hok ⊢
  have HX := hI hx
  obtain ⟨la, lc, rfl, -, -⟩ := hs.form
  have HN : Hid (waits.length ≤ 1099511627776) := hI hn
  have HNW := hI hnw
  have HLEN := hI hlen
  obtain ⟨bs, er, hbs⟩ : ∃ bs er, wrS x = (bs, er) := ⟨_, _, rfl⟩
  have HB := hI hbs
  rw [hbs] at hok ⊢
  simp only at hok
  subst hok
  have HC := hI h
  have HT : Hid (TvF w F x [.int .i64 2, .int .i64 t, .int .u64 ((0 : Nat) : Int), .slice none 0 0, .slice la ts.length lc]) := hI (by
    rw [hx]
    exact ⟨.slice none 0 0, .slice la ts.length lc, rows, rfl, Sl.nil _ _ _, by simp, hs, hF, ht⟩)
  have HSQ := hI (derSeq_any t (.slice la ts.length lc) ts.length lc la rfl w)
  clear h hs hF ht hnw hlen hbs hn hx
  go_enter Try.func25, Try.ntmps25
  go_wp2_with fail
  refine HSQ.out.mono ?_
  rintro e w1 ⟨rfl, hb⟩
  have HC := hI (HC.out.step hb)
  have HWR := hI (derWriteO_any x F _ w1 (HT.out.below hb) HNW.out (fun _ => HLEN.out))
  clear hb HSQ HT
  go_wp2_with fail
  refine HWR.out.mono ?_
  rw [HB.out]
  rintro e w2 ⟨v2, rfl, ho, hb⟩
  have hc := HC.out.addRow hb ho.bs (fun k hl hk => (Own.ge ho hl hk).1)
  obtain ⟨va, vc, rfl, -, -⟩ := ho.bs.form
  obtain ⟨ob, ib, nb, wv, lv, hc⟩ := appR_open hc.swap
  obtain ⟨vs, hc⟩ := waitsR_open hc.pull5
  obtain ⟨wa, wc, rfl, -, -⟩ := hc.ownZ0.sl.form
  have hb2 := hc.tail.tail.blk0
  have c5 : w2.cell? ⟨a, 5, none⟩ = some (.slice wa waits.length wc) := hb2.cell 5
  have HA := hI (hc.alloc (.cells #[.slice va bs.length vc] 40))
  have HSL : Hid (Sl (w2.alloc (.cells #[.slice va bs.length vc] 40)) 1 (.slice (some ⟨w2.heap.size, 0, none⟩) 1 1) 1 [.slice va bs.length vc]) := hI (Sl.lit rfl rfl (by simp [Value.oneCell']) (by unfold maxLen; decide))
  have HOZ := hI HA.out.ownZ0
  clear hc hb2 ho hb HWR HC
  simp only
  go_wp2_with ((with_reducible show wpList _ _ _ (⟨some 25, _, _, _, _, _⟩ :: _) _ _); refine wpList_appZ rfl (.tmp 22) (.tmp 24) elWords rfl 0 HOZ.out HSL.out (by decide) (by have := HN.out; unfold maxLen; omega) (by have := HN.out; omega) (Nat.zero_le _) ?_)
  intro v' w' ho hk hv
  have hc := HA.out.appendZ (B := 0) ho (hk.mono fun k h => by simpa using h) (fun k h => by simpa using hv k h)
  obtain ⟨g, o, cap, rfl, -, -, -, -⟩ := ho.form (by omega)
  have hb := hc.tail.tail.blk0
  have c5' : w'.cell? ⟨a, 5, none⟩ = some (.slice wa waits.length wc) := hb.cell 5
  have f5' := hb.frozen 5
  have HC := hI (hc.pull3.set 5 (.slice (some ⟨g, o, none⟩) (waits.length + 1) cap))
  clear ho hk hv hc hb HA HOZ HSL c5
  go_wp2_with fail
  go_ret
  have h1 := waitsR_snoc (sumsR_snoc HC.out.pull8.pull4).pull3
  exact ⟨rfl, appR_shut h1.push5⟩
end Go.Proofs.Ytiplepdmkbiehaa
namespace Go.Proofs.Ytiplepdmkbiehaa
set_option linter.unusedSimpArgs false
set_option linter.unusedVariables false
open Go.RowKit Go.Maps Go.MapKept Go.WideMaps
theorem appR_in {W : World} {a q : Nat} {P : List Nat × List Nat} {A : AppF} {l : List Res} (k : Int) (h : Hold W (appR a q P A :: l)) (hk : hasV A.ins k = true) : ∃ p R, getV (ptrM P.2 A.ins) k (.pointer none) = .pointer (some ⟨p, 0, none⟩) ∧
    Hold W (inR p (getV A.ins k InF.nil) :: R :: l) ∧ ∀ (W' : World) (x' : InF) (l' : List Res), Hold W' (inR p x' :: R :: l') → Hold W' (appR a q P { A with ins := setV A.ins k x' } :: l') := by
  obtain ⟨ia, outs, ins, names, waits, log⟩ := A
  obtain ⟨ob, ib, nb, wv, lv, h⟩ := appR_open h
  have h := insR_iff.1 h.pull3
  obtain ⟨p, R0, e, h1, h2⟩ := ptrsR_focus k InF.nil h.swap hk
  refine ⟨p, Res.all [R0, mapV Try.prog 2 kI ib (ptrM P.2 ins), _, _, _, _, _], e, (Hold.app.2 h1.push8).swap, fun W' x' l' h' => ?_⟩
  have h3 := h2 (Hold.app.1 h'.swap).pull8
  have h4 : Hold W' (insR ib P.2 (setV ins k x') :: _) := insR_iff.2 (by rw [ptrM_set]; exact h3.swap)
  exact appR_shut h4.push3
theorem appR_out {W : World} {a q : Nat} {P : List Nat × List Nat} {A : AppF} {l : List Res} (k : Int) (h : Hold W (appR a q P A :: l)) (hk : hasV A.outs k = true) : ∃ p R, getV (ptrM P.1 A.outs) k (.pointer none) = .pointer (some ⟨p, 0, none⟩) ∧
    Hold W (outR p (getV A.outs k OutF.nil) :: R :: l) ∧ ∀ (W' : World) (x' : OutF) (l' : List Res), Hold W' (outR p x' :: R :: l') → Hold W' (appR a q P { A with outs := setV A.outs k x' } :: l') := by
  obtain ⟨ia, outs, ins, names, waits, log⟩ := A
  obtain ⟨ob, ib, nb, wv, lv, h⟩ := appR_open h
  have h := outsR_iff.1 h.swap
  obtain ⟨p, R0, e, h1, h2⟩ := ptrsR_focus k OutF.nil h.swap hk
  refine ⟨p, Res.all [R0, mapV Try.prog 2 kI ob (ptrM P.1 outs), _, _, _, _, _], e, (Hold.app.2 h1.push8).swap, fun W' x' l' h' => ?_⟩
  have h3 := h2 (Hold.app.1 h'.swap).pull8
  have h4 : Hold W' (outsR ob P.1 (setV outs k x') :: _) := outsR_iff.2 (by rw [ptrM_set]; exact h3.swap)
  exact appR_shut h4.swap
theorem appR_inP {W : World} {a q : Nat} {P : List Nat × List Nat} {A : AppF} {l : List Res} {k : Int} {p : Nat} (h : Hold W (appR a q P A :: l)) (hk : hasV A.ins k = true) (hp : getV (ptrM P.2 A.ins) k (.pointer none) = .pointer (some ⟨p, 0, none⟩)) : ∃ R,
    Hold W (inR p (getV A.ins k InF.nil) :: R :: l) ∧ ∀ (W' : World) (x' : InF) (l' : List Res), Hold W' (inR p x' :: R :: l') → Hold W' (appR a q P { A with ins := setV A.ins k x' } :: l') := by
  obtain ⟨p', R, hp', h, hback⟩ := appR_in k h hk
  rw [hp] at hp'
  simp only [Value.pointer.injEq, Option.some.injEq, Addr.mk.injEq, and_true] at hp'
  subst hp'
  exact ⟨R, h, hback⟩
theorem appR_outP {W : World} {a q : Nat} {P : List Nat × List Nat} {A : AppF} {l : List Res} {k : Int} {p : Nat} (h : Hold W (appR a q P A :: l)) (hk : hasV A.outs k = true) (hp : getV (ptrM P.1 A.outs) k (.pointer none) = .pointer (some ⟨p, 0, none⟩)) : ∃ R,
    Hold W (outR p (getV A.outs k OutF.nil) :: R :: l) ∧ ∀ (W' : World) (x' : OutF) (l' : List Res), Hold W' (outR p x' :: R :: l') → Hold W' (appR a q P { A with outs := setV A.outs k x' } :: l') := by
  obtain ⟨p', R, hp', h, hback⟩ := appR_out k h hk
  rw [hp] at hp'
  simp only [Value.pointer.injEq, Option.some.injEq, Addr.mk.injEq, and_true] at hp'
  subst hp'
  exact ⟨R, h, hback⟩
/-- What can be read of an end. -/
structure AppAt (W : World) (a q : Nat) (P : List Nat × List Nat) (A : AppF) (ob ib nb : Nat) : Prop where
  c0 : W.cell? ⟨a, 0, none⟩ = some (provV q)
  c1 : W.cell? ⟨a, 1, none⟩ = some (.int .i64 A.id)
  c2 : W.cell? ⟨a, 2, none⟩ = some (.map (some ob))
  c3 : W.cell? ⟨a, 3, none⟩ = some (.map (some ib))
  c4 : W.cell? ⟨a, 4, none⟩ = some (.map (some nb))
  m2 : MapAt Try.prog 2 kI W ob (ptrM P.1 A.outs)
  m3 : MapAt Try.prog 2 kI W ib (ptrM P.2 A.ins)
  m4 : MapAt Try.prog 2 kI W nb (namV A.names)
  l1 : P.1.length = A.outs.length
  l2 : P.2.length = A.ins.length
theorem AppAt.outHas {W : World} {a q : Nat} {P : List Nat × List Nat} {A : AppF} {ob ib nb : Nat} (h : AppAt W a q P A ob ib nb) (k : Int) : hasV (ptrM P.1 A.outs) k = hasV A.outs k := hasV_keys k (ptrM_keys h.l1)
theorem AppAt.inHas {W : World} {a q : Nat} {P : List Nat × List Nat} {A : AppF} {ob ib nb : Nat} (h : AppAt W a q P A ob ib nb) (k : Int) : hasV (ptrM P.2 A.ins) k = hasV A.ins k := hasV_keys k (ptrM_keys h.l2)
theorem appR_at {W : World} {a q : Nat} {P : List Nat × List Nat} {A : AppF} {l : List Res} (h : Hold W (appR a q P A :: l)) : ∃ ob ib nb, AppAt W a q P A ob ib nb := by
  obtain ⟨ia, outs, ins, names, waits, log⟩ := A
  obtain ⟨ob, ib, nb, wv, lv, h⟩ := appR_open h
  have ho := outsR_iff.1 h.swap
  have hi := insR_iff.1 h.pull3
  refine ⟨ob, ib, nb, h.blk0.cell 0, h.blk0.cell 1, h.blk0.cell 2, h.blk0.cell 3, h.blk0.cell 4, ho.mapVOf List.mem_cons_self, hi.mapVOf List.mem_cons_self, h.mapVOf (by simp), ptrsR_len ho.swap, ptrsR_len hi.swap⟩
theorem zIn (w : World) : (zeroValue 86).run Try.prog w = .ok (.pointer none) w := by kernel_rfl
theorem zOut (w : World) : (zeroValue 66).run Try.prog w = .ok (.pointer none) w := by kernel_rfl
theorem zStr (w : World) : (zeroValue 9).run Try.prog w = .ok (.string ⟨#[]⟩) w := by kernel_rfl
theorem namV_get (L : List (Int × ByteArray)) (k : Int) : getV (namV L) k (.string ⟨#[]⟩) = .string (getV L k ⟨#[]⟩) := getV_map (fun s => Value.string s) L k ⟨#[]⟩
/-- An entry that a loop meets. -/
theorem ptrs_entry {β : Type} {r : Nat → β → Res} {W : World} {ps : List Nat} {L : List (Int × β)} {l : List Res} {s : Int} {v : Value} (hd : (ptrM ps L).Pairwise (fun x y => x.1 ≠ y.1)) (hm : (s, v) ∈ ptrM ps L) (h : Hold W (ptrsR r ps L :: l)) :
    hasV L s = true ∧ v = getV (ptrM ps L) s (.pointer none) := by
  have h1 : hasV (ptrM ps L) s = true := List.any_eq_true.2 ⟨_, hm, by simp⟩
  have h2 := getV_mem h1 (.pointer none)
  have h3 := keyV_inj hd hm h2 rfl
  exact ⟨by rw [← hasV_keys s (ptrM_keys (ptrsR_len h))]; exact h1, congrArg Prod.snd h3⟩
theorem ptrs_keys {β : Type} {ps : List Nat} {L : List (Int × β)} (h : ps.length = L.length) (hd : (ptrM ps L).Pairwise (fun x y => x.1 ≠ y.1)) : L.Pairwise (fun x y => x.1 ≠ y.1) := by
  have h1 : ((ptrM ps L).map (·.1)).Pairwise (· ≠ ·) := List.pairwise_map.2 hd
  rw [ptrM_keys h] at h1
  exact List.pairwise_map.1 h1
theorem kI_inv {key : Value} {kl : Lit} (h : keyOf Try.prog 2 key = some kl) : ∃ s : Int, key = .int .i64 s ∧ kl = kI s := by
  obtain ⟨x, rfl, rfl, _⟩ := Maps.keyOf_int_inv Try.underlying2 h
  exact ⟨x, rfl, rfl⟩
theorem appR_setId {W : World} {a q : Nat} {P : List Nat × List Nat} {A : AppF} {l : List Res} (h : Hold W (appR a q P A :: l)) (n : Nat) : W.cell? ⟨a, 1, none⟩ = some (.int .i64 A.id) ∧ W.frozen? ⟨a, 1, none⟩ = false ∧ Hold (W.setCell ⟨a, 1, none⟩ (.int .i64 n)) (appR a q P { A with id := n } :: l) := by
  obtain ⟨ia, outs, ins, names, waits, log⟩ := A
  obtain ⟨ob, ib, nb, wv, lv, h⟩ := appR_open h
  exact ⟨h.blk0.cell 1, h.blk0.frozen 1, appR_shut (h.set 1 (.int .i64 n))⟩
/-- A file is added. -/
theorem appR_addIn {W W' : World} {a q : Nat} {P : List Nat × List Nat} {A : AppF} {l : List Res} {ib p : Nat} {x : InF} {k : Int} (h : Hold W (inR p x :: appR a q P A :: l)) (c3 : W.cell? ⟨a, 3, none⟩ = some (.map (some ib))) (hno : hasV A.ins k = false)
    (hm : MapAt Try.prog 2 kI W' ib (putV (ptrM P.2 A.ins) k (.pointer (some ⟨p, 0, none⟩)))) (hk : Keeps (fun y => y = ib ∨ W.heap.size ≤ y) W W') : Hold W' (appR a q (P.1, P.2 ++ [p]) { A with ins := A.ins ++ [(k, x)] } :: l) := by
  obtain ⟨ia, outs, ins, names, waits, log⟩ := A
  obtain ⟨ob, ib', nb, wv, lv, h⟩ := appR_open h.swap
  have e : W.cell? ⟨a, 3, none⟩ = some (.map (some ib')) := h.blk0.cell 3
  rw [c3] at e
  simp only [Option.some.injEq, Value.map.injEq] at e
  subst e
  have h := insR_iff.1 h.pull3
  have hlen : P.2.length = ins.length := ptrsR_len h.swap
  have hno' : hasV (ptrM P.2 ins) k = false := (hasV_keys k (ptrM_keys hlen)).trans hno
  rw [putV_hasnt hno', ← ptrM_snoc p (k, x) hlen] at hm
  have h1 := h.mapVTurn hm hk
  have h2 : Hold W' (insR ib (P.2 ++ [p]) (ins ++ [(k, x)]) :: _) := insR_iff.2 (ptrsR_snoc (r := inR) (x := (k, x)) (h1.front (m := [_, _, _, _, _, _, _, _]) (l := l) [1, 7, 0, 2, 3, 4, 5, 6] 8 (by decide))).swap
  exact appR_shut (P := (P.1, P.2 ++ [p])) h2.push3
theorem appR_addOut {W W' : World} {a q : Nat} {P : List Nat × List Nat} {A : AppF} {l : List Res} {ob p : Nat} {x : OutF} {k : Int} (h : Hold W (outR p x :: appR a q P A :: l)) (c2 : W.cell? ⟨a, 2, none⟩ = some (.map (some ob))) (hno : hasV A.outs k = false)
    (hm : MapAt Try.prog 2 kI W' ob (putV (ptrM P.1 A.outs) k (.pointer (some ⟨p, 0, none⟩)))) (hk : Keeps (fun y => y = ob ∨ W.heap.size ≤ y) W W') : Hold W' (appR a q (P.1 ++ [p], P.2) { A with outs := A.outs ++ [(k, x)] } :: l) := by
  obtain ⟨ia, outs, ins, names, waits, log⟩ := A
  obtain ⟨ob', ib, nb, wv, lv, h⟩ := appR_open h.swap
  have e : W.cell? ⟨a, 2, none⟩ = some (.map (some ob')) := h.blk0.cell 2
  rw [c2] at e
  simp only [Option.some.injEq, Value.map.injEq] at e
  subst e
  have h := outsR_iff.1 h.swap
  have hlen : P.1.length = outs.length := ptrsR_len h.swap
  have hno' : hasV (ptrM P.1 outs) k = false := (hasV_keys k (ptrM_keys hlen)).trans hno
  rw [putV_hasnt hno', ← ptrM_snoc p (k, x) hlen] at hm
  have h1 := h.mapVTurn hm hk
  have h2 : Hold W' (outsR ob (P.1 ++ [p]) (outs ++ [(k, x)]) :: _) := outsR_iff.2 (ptrsR_snoc (r := outR) (x := (k, x)) (h1.front (m := [_, _, _, _, _, _, _, _]) (l := l) [1, 7, 0, 2, 3, 4, 5, 6] 8 (by decide))).swap
  exact appR_shut (P := (P.1 ++ [p], P.2)) h2.swap
theorem namV_put {L : List (Int × ByteArray)} {k : Int} (h : hasV L k = false) (s : ByteArray) : putV (namV L) k (.string s) = namV (L ++ [(k, s)]) := by
  have h2 : hasV (namV L) k = false := (hasV_map (fun s => Value.string s) L k).trans h
  rw [putV_hasnt h2]
  unfold namV
  simp
theorem appR_addName {W W' : World} {a q : Nat} {P : List Nat × List Nat} {A : AppF} {l : List Res} {nb : Nat} {s : ByteArray} {k : Int} (h : Hold W (appR a q P A :: l)) (c4 : W.cell? ⟨a, 4, none⟩ = some (.map (some nb))) (hno : hasV A.names k = false)
    (hm : MapAt Try.prog 2 kI W' nb (putV (namV A.names) k (.string s))) (hk : Keeps (fun y => y = nb ∨ W.heap.size ≤ y) W W') : Hold W' (appR a q P { A with names := A.names ++ [(k, s)] } :: l) := by
  obtain ⟨ia, outs, ins, names, waits, log⟩ := A
  obtain ⟨ob, ib, nb', wv, lv, h⟩ := appR_open h
  have e : W.cell? ⟨a, 4, none⟩ = some (.map (some nb')) := h.blk0.cell 4
  rw [c4] at e
  simp only [Option.some.injEq, Value.map.injEq] at e
  subst e
  rw [namV_put hno] at hm
  exact appR_shut (h.pull4.mapVTurn hm hk).push4
/-- A file has come, or is no good. -/
def endedA (A : AppF) (id : Int) (i : InF) (e : Int) : AppF := if e = 0 ∧ i.st = 2 then hapA A ⟨5, id, ⟨#[]⟩, i.data⟩ else if e = 23 then hapA A ⟨6, id, ⟨#[]⟩, []⟩ else A
set_option maxRecDepth 100000 in
set_option maxHeartbeats 2000000 in
theorem appEnded_any (a q : Nat) (P : List Nat × List Nat) (A : AppF) (id e : Int) (p : Nat) (l : List Res) (w : World) (h : Hold w (appR a q P A :: l)) (hk : hasV A.ins id = true) (hp : getV (ptrM P.2 A.ins) id (.pointer none) = .pointer (some ⟨p, 0, none⟩))
    (hd : (getV A.ins id InF.nil).data.length ≤ 2048) (hn : A.log.length ≤ 1099511627776) :
    Calls Try.prog 33 #[.pointer (some ⟨a, 0, none⟩), .int .i64 id, .pointer (some ⟨p, 0, none⟩), .int .i64 e] w fun en w' => en = .returned (.tuple #[]) ∧ Hold w' (appR a q P (endedA A id (getV A.ins id InF.nil) e) :: l) := by
  have HC0 := hI h
  obtain ⟨p', R, hp', h, hback⟩ := appR_in id h hk
  rw [hp] at hp'
  simp only [Value.pointer.injEq, Option.some.injEq, Addr.mk.injEq, and_true] at hp'
  subst hp'
  obtain ⟨i, hi⟩ : ∃ i, i = getV A.ins id InF.nil := ⟨_, rfl⟩
  have HSET : Hid (setV A.ins id i = A.ins) := hI (by rw [hi]; exact setV_get _ _ _ hk)
  rw [← hi] at h hd ⊢
  have HB := hI hback
  have HC := hI h
  have HN := hI hn
  obtain ⟨st, size, sum, data⟩ := i
  obtain ⟨_, _, _, _, -, -, -, -, h⟩ := inR_open h
  have c0 : w.cell? ⟨p, 0, none⟩ = some (.int .i64 st) := h.blk0.cell 0
  clear h hback hn hi hk hp
  by_cases he : e = 0
  · subst he
    by_cases hs : st = 2
    · subst hs
      have HE : Hid (endedA A id ⟨2, size, sum, data⟩ 0 = hapA A ⟨5, id, ⟨#[]⟩, data⟩) := hI (by rw [endedA, if_pos ⟨rfl, rfl⟩])
      rw [HE.out]
      go_enter Try.func33, Try.ntmps33
      go_wp2_with fail
      refine (inBytes_any p ⟨2, size, sum, data⟩ (R :: l) w HC.out hd).mono ?_
      rintro e w1 ⟨v, rfl, hc⟩
      have h1 := HB.out w1 _ _ hc.push3
      rw [HSET.out] at h1
      obtain ⟨ra, rc, rfl, -, -⟩ := hc.row0.form
      have HHAP := hI (appHappen_any a q P A 5 id ⟨#[]⟩ _ data l w1 h1 HN.out)
      clear h1 hc HB HC
      go_wp2_with fail
      refine HHAP.out.mono ?_
      rintro e w2 ⟨rfl, hc⟩
      have HC := hI hc
      clear hc HHAP
      go_wp2_with fail
      go_end0
      exact ⟨rfl, HC.out⟩
    · have HE : Hid (endedA A id ⟨st, size, sum, data⟩ 0 = A) := hI (by rw [endedA, if_neg (fun h => hs h.2), if_neg (by decide)])
      have hs' : (st == 2) = false := by simpa using hs
      rw [HE.out]
      clear hs
      go_enter Try.func33, Try.ntmps33
      go_wp2_with fail
      go_end0
      exact ⟨rfl, HC0.out⟩
  · have he' : (e == 0) = false := by simpa using he
    by_cases h23 : e = 23
    · subst h23
      have HE : Hid (endedA A id ⟨st, size, sum, data⟩ 23 = hapA A ⟨6, id, ⟨#[]⟩, []⟩) := hI (by rw [endedA, if_neg (fun h => he h.1), if_pos rfl])
      rw [HE.out]
      have HHAP := hI (appHappen_any a q P A 6 id ⟨#[]⟩ (.slice none 0 0) [] l w HC0.out.addNilRow.swap HN.out)
      clear he
      go_enter Try.func33, Try.ntmps33
      go_wp2_with fail
      refine HHAP.out.mono ?_
      rintro e w2 ⟨rfl, hc⟩
      have HC := hI hc
      clear hc HHAP
      go_wp2_with fail
      go_end0
      exact ⟨rfl, HC.out⟩
    · have HE : Hid (endedA A id ⟨st, size, sum, data⟩ e = A) := hI (by rw [endedA, if_neg (fun h => he h.1), if_neg h23])
      have h23' : (e == 23) = false := by simpa using h23
      rw [HE.out]
      clear he h23
      go_enter Try.func33, Try.ntmps33
      go_wp2_with fail
      go_end0
      exact ⟨rfl, HC0.out⟩
end Go.Proofs.Ytiplepdmkbiehaa
namespace Go.Proofs.Ytiplepdmkbiehaa
set_option linter.unusedSimpArgs false
set_option linter.unusedVariables false
open Go.RowKit
mutual
/-- No bytes are longer than memory has room for. -/
def Bw : Tv → Prop
  | .mk _ _ _ b l => b.length ≤ 140737488351232 ∧ BsW l
def BsW : List Tv → Prop
  | [] => True
  | x :: l => Bw x ∧ BsW l
end
theorem BsW.mem : ∀ {l : List Tv}, BsW l → ∀ x ∈ l, Bw x
  | [], _, x, hx => by simp at hx
  | y :: l, h, x, hx => by
    rcases List.mem_cons.1 hx with e | hx
    · rw [e]; exact h.1
    · exact h.2.mem x hx
theorem BsW.of : ∀ {l : List Tv}, (∀ x ∈ l, Bw x) → BsW l
  | [], _ => trivial
  | y :: l, h => ⟨h y (by simp), BsW.of (fun x hx => h x (by simp [hx]))⟩
/-- What is counted bounds what is written. -/
theorem shortB_le8 (n : Nat) : (shortB n).length ≤ 8 := (shortB_few n).1
theorem headS_le (k t : Int) (n : Nat) : (headS k t n).length ≤ 10 := by
  unfold headS
  split
  · simp
  · have := shortB_le8 n
    simp
    omega
end Go.Proofs.Ytiplepdmkbiehaa
namespace Go.Proofs.Ytiplepdmkbiehaa
set_option linter.unusedSimpArgs false
set_option linter.unusedVariables false
theorem getN_shortR : ∀ (f n : Nat), 0 < f → n < 256 ^ f → getN (shortR f n) = n ∧ (1 ≤ n → (shortR f n).getD 0 0 ≠ 0) ∧ 0 < (shortR f n).length
  | 0, n, h, _ => by omega
  | f + 1, n, _, hn => by
    rw [shortR]
    by_cases h : n < 256
    · rw [if_pos h]
      refine ⟨?_, fun h1 => ?_, by simp⟩
      · show getN ([] ++ [UInt8.ofNat n]) = n
        rw [getN_snoc]
        have : (UInt8.ofNat n).toNat = n := by simp; omega
        rw [this]
        simp [getN]
      · simp
        intro e
        have := congrArg UInt8.toNat e
        simp at this
        omega
    · rw [if_neg h]
      have hf : 0 < f := by
        rcases Nat.eq_zero_or_pos f with e | e
        · subst e; omega
        · exact e
      have hq : n / 256 < 256 ^ f := by
        rw [Nat.pow_succ] at hn
        exact Nat.div_lt_of_lt_mul (by rw [Nat.mul_comm]; exact hn)
      obtain ⟨h1, h2, h3⟩ := getN_shortR f (n / 256) hf hq
      refine ⟨?_, fun _ => ?_, by simp⟩
      · rw [getN_snoc, h1]
        have : (UInt8.ofNat (n % 256)).toNat = n % 256 := by simp
        rw [this]
        omega
      · rw [List.getD_eq_getElem?_getD, List.getElem?_append_left h3, ← List.getD_eq_getElem?_getD]
        exact h2 (by omega)
theorem pow64 : (256 : Nat) ^ 8 = 18446744073709551616 := by decide
theorem getN_shortB (n : Nat) (hn : n < 18446744073709551616) : getN (shortB n) = n := by
  rw [shortB_eq n (by rw [pow64]; exact hn)]
  exact (getN_shortR 8 n (by decide) (by rw [pow64]; exact hn)).1
theorem shortB_first (n : Nat) (hn : n < 18446744073709551616) : ¬ (1 < (shortB n).length ∧ (shortB n).getD 0 0 = 0) := by
  rintro ⟨h1, h2⟩
  rw [shortB_eq n (by rw [pow64]; exact hn)] at h1 h2
  by_cases h : n < 256
  · rw [shortR, if_pos h] at h1
    simp at h1
  · exact (getN_shortR 8 n (by decide) (by rw [pow64]; exact hn)).2.1 (by omega) h2
theorem shortB_len (n : Nat) (hn : n < 65536) : (shortB n).length = if n < 256 then 1 else 2 := by
  rw [shortB_eq n (by rw [pow64]; omega), shortR]
  split
  · rfl
  · rw [shortR, if_pos (by omega)]
    rfl
theorem getD1_cons (x y : UInt8) (l : List UInt8) : (x :: y :: l).getD 1 0 = y := rfl
/-- The first bytes say how many follow. -/
theorem size_of_head (k t : Int) (m : Nat) (rest : List UInt8) (hm : m ≤ 4096) (hr : m ≤ rest.length) : sizeS (headS k t m ++ rest) = (m, (headS k t m).length, 0) := by
  unfold headS
  by_cases h : m < 128
  · rw [if_pos h]
    generalize UInt8.ofNat (k * 64 + t).toNat = f
    have hc : (UInt8.ofNat m).toNat = m := by simp; omega
    simp only [List.cons_append, List.nil_append, sizeS, getD1_cons, List.length_cons, hc]
    rw [if_neg (by omega), if_pos h, if_neg (by omega)]
    rfl
  · rw [if_neg h]
    generalize UInt8.ofNat (k * 64 + t).toNat = f
    have hl := shortB_len m (by omega)
    have hg := getN_shortB m (by omega)
    generalize shortB m = s at hl hg
    have hs : s.length = 1 ∨ s.length = 2 := by rw [hl]; split <;> simp
    have hc : (UInt8.ofNat (128 + s.length)).toNat = 128 + s.length := by simp; omega
    have htake : ((f :: UInt8.ofNat (128 + s.length) :: (s ++ rest)).drop 2).take (128 + s.length - 128) = s := by
      simp only [List.drop_succ_cons, List.drop_zero]
      rw [show 128 + s.length - 128 = s.length by omega, List.take_left]
    simp only [List.cons_append, sizeS, getD1_cons, hc, htake, hg, List.length_cons, List.length_append]
    rw [if_neg (by omega), if_neg (by omega), if_neg (by omega), if_neg (by omega), if_neg (by
      rintro (h1 | ⟨h1, h2⟩)
      · omega
      · rw [if_pos h2] at hl; omega), if_neg (by omega)]
    rw [show 128 + s.length - 126 = s.length + 1 + 1 by omega]
theorem headS_first (k t : Int) (m : Nat) (rest : List UInt8) : (headS k t m ++ rest).getD 0 0 = UInt8.ofNat (k * 64 + t).toNat := by
  unfold headS
  split <;> rfl
theorem headS_pos (k t : Int) (m : Nat) : 2 ≤ (headS k t m).length := by
  unfold headS
  split <;> simp
theorem writeS_two (x : Tv) : 2 ≤ (writeS x).length := by
  rw [writeS_eq, List.length_append]
  have := headS_pos x.kind x.tag (bodyS x).length
  omega
theorem listS_write {d : Nat} (hd : ∀ x : Tv, rightS d x = true → Nw x → (writeS x).length ≤ 4096 → ∀ rest, readS d (writeS x ++ rest) = (x, (writeS x).length, 0)) :
    ∀ (l : List Tv) (f : Nat), (∀ x ∈ l, rightS d x = true ∧ Nw x) → (writesS l).length ≤ 4096 → (writesS l).length ≤ f → listS (readS d) f (writesS l) = (l, 0)
  | [], f, _, _, _ => listS_nil _ _
  | x :: l, f, h, hl, hf => by
    have h2 := writeS_two x
    rw [writesS, List.length_append] at hl hf
    obtain ⟨f, rfl⟩ : ∃ g, f = g + 1 := ⟨f - 1, by omega⟩
    have hx := hd x (h x (by simp)).1 (h x (by simp)).2 (by omega) (writesS l)
    have hne : writeS x ++ writesS l ≠ [] := by
      intro e
      have h3 := congrArg List.length e
      rw [List.length_append, List.length_nil] at h3
      omega
    rw [writesS, listS_ok hne hx, List.drop_left, listS_write hd l f (fun y hy => h y (by simp [hy])) (by omega) (by omega)]
/-- What is written is read as it, whatever stands behind. -/
theorem readS_write : ∀ (d : Nat) (x : Tv), rightS d x = true → Nw x → (writeS x).length ≤ 4096 → ∀ rest, readS d (writeS x ++ rest) = (x, (writeS x).length, 0)
  | 0, x, h, _, _, _ => by simp [rightS] at h
  | d + 1, .mk k t n b l, h, hn, hlen, rest => by
    have hw := writeS_eq (.mk k t n b l)
    simp only [Tv.kind, Tv.tag] at hw
    have hbody : bodyS (.mk k t n b l) = bodyOf k n b (writesS l) := rfl
    rw [rightS] at h
    simp only [Bool.and_eq_true, decide_eq_true_eq] at h
    obtain ⟨⟨ht0, ht1⟩, hkind⟩ := h
    have hbl : (bodyS (.mk k t n b l)).length ≤ 4096 := by rw [hw, List.length_append] at hlen; omega
    have hsz := size_of_head k t (bodyS (.mk k t n b l)).length (bodyS (.mk k t n b l) ++ rest) hbl (by simp)
    have hfirst := headS_first k t (bodyS (.mk k t n b l)).length (bodyS (.mk k t n b l) ++ rest)
    have htotal : (writeS (.mk k t n b l)).length = (headS k t (bodyS (.mk k t n b l)).length).length + (bodyS (.mk k t n b l)).length := by rw [hw, List.length_append]
    have hdrop : ((headS k t (bodyS (.mk k t n b l)).length ++ (bodyS (.mk k t n b l) ++ rest)).drop (headS k t (bodyS (.mk k t n b l)).length).length).take (bodyS (.mk k t n b l)).length = bodyS (.mk k t n b l) := by
      rw [List.drop_left, List.take_left]
    have hdrop0 : (headS k t (bodyS (.mk k t n b l)).length ++ (bodyS (.mk k t n b l) ++ rest)).drop (headS k t (bodyS (.mk k t n b l)).length).length = bodyS (.mk k t n b l) ++ rest := List.drop_left
    rw [htotal, hw, List.append_assoc, readS, hsz]
    simp only [hfirst, hdrop0, List.take_left]
    rw [if_neg (by decide)]
    generalize hbd : bodyS (.mk k t n b l) = bd at *
    split at hkind
    · rename_i hk
      subst hk
      simp only [Bool.and_eq_true, decide_eq_true_eq] at hkind
      obtain ⟨rfl, hl0⟩ := hkind
      obtain rfl := List.eq_nil_of_length_eq_zero hl0
      have hbs : bd = shortB n := by rw [hbody]; rfl
      have hf : (UInt8.ofNat ((0 : Int) * 64 + t).toNat).toNat = t.toNat := by simp; omega
      rw [hf, if_neg (by omega), if_pos (by omega)]
      have hfew := shortB_few n
      have hgb : getB bd = (n, true) := by
        unfold getB
        rw [hbs, if_neg (by omega), getN_shortB n hn.1]
      rw [hgb, if_neg (by
        rintro (h1 | ⟨h1, h2⟩)
        · simp at h1
        · refine shortB_first n hn.1 ⟨by rw [← hbs]; exact h1, ?_⟩
          have e3 : (bd ++ rest).getD 0 0 = (shortB n).getD 0 0 := by rw [List.getD_eq_getElem?_getD, List.getD_eq_getElem?_getD, List.getElem?_append_left (by omega), hbs]
          rw [← e3]
          exact h2), show ((t.toNat % 64 : Nat) : Int) = t by omega]
    · split at hkind
      · rename_i hk0 hk
        subst hk
        simp only [Bool.and_eq_true, decide_eq_true_eq] at hkind
        obtain ⟨rfl, hl0⟩ := hkind
        obtain rfl := List.eq_nil_of_length_eq_zero hl0
        have hbs : bd = b := by rw [hbody]; rfl
        have hf : (UInt8.ofNat ((1 : Int) * 64 + t).toNat).toNat = 64 + t.toNat := by simp; omega
        rw [hf, if_neg (by omega), if_neg (by omega), if_pos (by omega), hbs, show (((64 + t.toNat) % 64 : Nat) : Int) = t by omega]
      · split at hkind
        · rename_i hk0 hk1 hk
          subst hk
          simp only [Bool.and_eq_true, decide_eq_true_eq] at hkind
          obtain ⟨⟨hall, rfl⟩, rfl⟩ := hkind
          have hbs : bd = writesS l := by rw [hbody]; rfl
          have hf : (UInt8.ofNat ((2 : Int) * 64 + t).toNat).toNat = 128 + t.toNat := by simp; omega
          have hls := listS_write (fun x h1 h2 h3 => readS_write d x h1 h2 h3) l bd.length (fun x hx => ⟨List.all_eq_true.1 hall x hx, hn.2.mem x hx⟩) (by rw [← hbs]; exact hbl) (by rw [hbs]; exact Nat.le_refl _)
          rw [← hbs] at hls
          rw [hf, if_neg (by omega), if_neg (by omega), if_neg (by omega), hls]
          simp only [if_true]
          rw [show (((128 + t.toNat) % 64 : Nat) : Int) = t by omega]
        · simp at hkind
theorem wholeS_write {x : Tv} (h : rightS 8 x = true) (hn : Nw x) (hl : (writeS x).length ≤ 4096) : wholeS (writeS x) = (x, 0) := by
  have := readS_write 8 x h hn hl []
  rw [List.append_nil] at this
  unfold wholeS
  rw [if_neg (by omega), this]
  simp
theorem wrS_cases (x : Tv) : (wrS x = ([], 7) ∧ rightS 8 x = false) ∨ (wrS x = ([], 20) ∧ rightS 8 x = true ∧ 4096 < (writeS x).length) ∨ (wrS x = (writeS x, 0) ∧ rightS 8 x = true ∧ (writeS x).length ≤ 4096) := by
  unfold wrS
  by_cases h : rightS 8 x = false
  · rw [if_pos h]; exact .inl ⟨rfl, h⟩
  · have ht : rightS 8 x = true := by simpa using h
    rw [if_neg h]
    by_cases hl : 4096 < (writeS x).length
    · rw [if_pos hl]; exact .inr (.inl ⟨rfl, ht, hl⟩)
    · rw [if_neg hl]; exact .inr (.inr ⟨rfl, ht, by omega⟩)
end Go.Proofs.Ytiplepdmkbiehaa
namespace Go.Proofs.Ytiplepdmkbiehaa
set_option linter.unusedSimpArgs false
set_option linter.unusedVariables false
open Go.RowKit
def numT (n : Nat) : Tv := .mk 0 0 n [] []
def rawT (b : List UInt8) : Tv := .mk 1 0 0 b []
def LeafT (x : Tv) : Prop := (∃ n, n < 18446744073709551616 ∧ x = numT n) ∨ ∃ b, b.length ≤ 900 ∧ x = rawT b
theorem LeafT.num {n : Nat} (h : n < 18446744073709551616) : LeafT (numT n) := .inl ⟨n, h, rfl⟩
theorem LeafT.raw {b : List UInt8} (h : b.length ≤ 900) : LeafT (rawT b) := .inr ⟨b, h, rfl⟩
theorem LeafT.right {x : Tv} (h : LeafT x) (d : Nat) : rightS (d + 1) x = true := by
  rcases h with ⟨n, _, rfl⟩ | ⟨b, _, rfl⟩ <;> simp [numT, rawT, rightS]
theorem LeafT.nw {x : Tv} (h : LeafT x) : Nw x := by
  rcases h with ⟨n, hn, rfl⟩ | ⟨b, _, rfl⟩
  · exact ⟨hn, trivial⟩
  · exact ⟨by decide, trivial⟩
theorem LeafT.len {x : Tv} (h : LeafT x) : (writeS x).length ≤ 910 := by
  rcases h with ⟨n, hn, rfl⟩ | ⟨b, hb, rfl⟩
  · unfold numT writeS
    rw [List.length_append]
    have h1 := headS_le 0 0 (bodyOf 0 n [] (writesS [])).length
    have h2 : (bodyOf 0 n [] (writesS [])).length ≤ 8 := by unfold bodyOf; simpa using shortB_le8 n
    omega
  · unfold rawT writeS
    rw [List.length_append]
    have h1 := headS_le 1 0 (bodyOf 1 0 b (writesS [])).length
    have h2 : (bodyOf 1 0 b (writesS [])).length ≤ 900 := by unfold bodyOf; simpa using hb
    omega
theorem leaves_len : ∀ {ts : List Tv}, (∀ x ∈ ts, LeafT x) → (writesS ts).length ≤ 910 * ts.length
  | [], _ => by simp [writesS]
  | x :: ts, h => by
    rw [writesS, List.length_append, List.length_cons]
    have h1 := (h x (List.mem_cons_self)).len
    have h2 := leaves_len (fun y hy => h y (List.mem_cons_of_mem _ hy))
    omega
theorem leaves_nw : ∀ {ts : List Tv}, (∀ x ∈ ts, LeafT x) → NsW ts
  | [], _ => trivial
  | x :: ts, h => ⟨(h x (List.mem_cons_self)).nw, leaves_nw (fun y hy => h y (List.mem_cons_of_mem _ hy))⟩
def wordT (t : Int) (ts : List Tv) : Tv := .mk 2 t 0 [] ts
structure WordOk (t : Int) (ts : List Tv) : Prop where
  wr : wrS (wordT t ts) = (writeS (wordT t ts), 0)
  rd : wholeS (writeS (wordT t ts)) = (wordT t ts, 0)
  nw : Nw (wordT t ts)
  len : (writeS (wordT t ts)).length ≤ 4096
theorem wordOk {t : Int} {ts : List Tv} (h0 : 0 ≤ t) (h1 : t ≤ 30) (hl : ts.length ≤ 4) (h : ∀ x ∈ ts, LeafT x) : WordOk t ts := by
  have hr : rightS 8 (wordT t ts) = true := by
    unfold wordT rightS
    simp only [h0, h1, decide_true, Bool.true_and, Bool.and_true]
    simp
    intro x hx
    exact (h x hx).right 6
  have hn : Nw (wordT t ts) := ⟨by decide, leaves_nw h⟩
  have hlen : (writeS (wordT t ts)).length ≤ 4096 := by
    unfold wordT writeS
    rw [List.length_append]
    have h1 := headS_le 2 t (bodyOf 2 0 [] (writesS ts)).length
    have h2 : (bodyOf 2 0 [] (writesS ts)).length = (writesS ts).length := by unfold bodyOf; simp
    have h3 := leaves_len h
    omega
  refine ⟨?_, wholeS_write hr hn hlen, hn, hlen⟩
  rcases wrS_cases (wordT t ts) with ⟨_, h2⟩ | ⟨_, _, h2⟩ | ⟨h2, _⟩
  · rw [hr] at h2; cases h2
  · omega
  · exact h2
/-- A row that a conversion has laid: its cells, the spare ones too; only behind its end it is marked. -/
def Cv (w : World) (g n cap : Nat) (cs : List Value) : Prop :=
  cs.length = n ∧ (∀ u ∈ cs, u.oneCell' = true) ∧ n ≤ cap ∧ cap ≤ maxLen ∧ ∃ cur : Array Value, w.heap[g]? = some (.cells cur 5 (cur.size, cur.size + 1)) ∧ cur.size = cap ∧ cur.toList.take n = cs
theorem Cv.sl {w : World} {g n cap : Nat} {cs : List Value} (h : Cv w g n cap cs) : Sl w 1 (.slice (some ⟨g, 0, none⟩) n cap) n cs := by
  obtain ⟨h1, h2, h3, h4, cur, h5, h6, h7⟩ := h
  refine ⟨by omega, h2, _, cap, rfl, h3, h4, fun h => by simp at h, .inr ⟨g, 0, rfl, fun j u hj => ?_⟩⟩
  have hjl : j < n := by have := (List.getElem?_eq_some_iff.1 hj).1; omega
  rw [← h7, List.getElem?_take, if_pos hjl] at hj
  rw [Nat.zero_add, cell_of_row w g j cur _ _ h5, ← Array.getElem?_toList]
  exact hj
theorem Cv.below {w w' : World} {g n cap : Nat} {cs : List Value} (h : Cv w g n cap cs) (hk : Below w.heap.size w w') : Cv w' g n cap cs := by
  obtain ⟨h1, h2, h3, h4, cur, h5, h6, h7⟩ := h
  exact ⟨h1, h2, h3, h4, cur, (hk.block g (block_lt h5)).trans h5, h6, h7⟩
theorem Cv.alloc {w : World} {g n cap : Nat} {cs : List Value} (h : Cv w g n cap cs) (o : Obj) : Cv (w.alloc o) g n cap cs := h.below ((Below.refl _ _).alloc (Nat.le_refl _) _)
theorem run_conv (w : World) (s : ByteArray) (hs : s.size ≤ 281474976710656) : ∃ cap w', (convert 9 40 (.string s)).run Try.prog w = .ok (.slice (some ⟨w.heap.size, 0, none⟩) s.size cap) w' ∧
    Cv w' w.heap.size s.size cap (bCells s.data.toList) ∧ Below w.heap.size w w' ∧ w'.heap.size = w.heap.size + 1 := by
  have hge := grownCap_ge w s.size 0 5
  have hle := grownCap_le_maxLen w s.size 0 5 (by unfold maxLen; omega)
  have hl : s.data.toList.length = s.size := rfl
  refine ⟨_, _, Lib.run_convert_string_bytes w 9 40 5 s Try.underlying9 Try.underlying40 Try.underlying5, ⟨by rw [bCells_length, hl], bCells_one _, hge, hle, Lib.bytesCells w 5 s, Lib.bytesWorld_at_new w _ s, ?_, ?_⟩, ⟨?_, ?_, ?_, ?_, fun k hk => Lib.bytesWorld_at_old w _ s k hk⟩, Lib.bytesWorld_size w _ s⟩
  · simp only [Lib.bytesCells, Array.size_append, Array.size_map, Array.size_replicate]
    rw [show s.data.size = s.size from rfl]
    omega
  · simp only [Lib.bytesCells, Array.toList_append, Array.toList_map]
    rw [List.take_append_of_le_length (by simp), List.take_of_length_le (by simp)]
    rfl
  · rfl
  · rfl
  · rfl
  · rw [Lib.bytesWorld_size]; omega
theorem wpList_conv {ops : Array Oper} {rest : List Oper} {o : Oper} {a : Act} {w : World} {Q : Exit → Act → World → Prop} (hgd : Region.wanted o (yielded ops a.tmps) = true) (x : Operand)
    (ho : o.op = .convert 9 40 x) {s : ByteArray} (hx : a.eval x = .string s) (hs : s.size ≤ 281474976710656)
    (h : ∀ cap w', Cv w' w.heap.size s.size cap (bCells s.data.toList) → Below w.heap.size w w' → w'.heap.size = w.heap.size + 1 → wpList Try.prog ops Q rest (a.put o.dst (.slice (some ⟨w.heap.size, 0, none⟩) s.size cap)) w') : wpList Try.prog ops Q (o :: rest) a w := by
  obtain ⟨cap, w', hr, h2, h3, h4⟩ := run_conv w s hs
  refine wpList_want hgd fun K hK => ?_
  unfold Oper.wp execOp
  simp only [ho, hx, Sem.run_bind, Sem.run_pure, Result.andThen_ok, hr]
  exact hK _ _ (h cap w' h2 h3 h4)
/-- A text of bytes. -/
def tx (l : List UInt8) : ByteArray := ⟨l.toArray⟩
theorem tx_size (l : List UInt8) : (tx l).size = l.length := by simp [tx, ByteArray.size]
theorem run_convS (w : World) (v : Value) (l : List UInt8) (h : Bs w v l) : (convert 40 9 v).run Try.prog w = .ok (.string (tx l)) w := by
  obtain ⟨a, cap, rfl, hcap, hm⟩ := h.form
  by_cases h0 : l.length = 0
  · obtain rfl : l = [] := List.eq_nil_of_length_eq_zero h0
    cases a with
    | none => exact Lib.run_convert_nil_bytes w _ _ _ cap Try.underlying40 Try.underlying5 Try.underlying9
    | some a => exact run_convert_bytes_back w _ _ _ a cap [] Try.underlying40 Try.underlying5 Try.underlying9 (fun j hj => by simp at hj)
  · obtain ⟨b, off, rfl, hc⟩ := h.addr (by rw [bCells_length]; omega)
    refine run_convert_bytes_back w _ _ _ ⟨b, off, none⟩ cap l Try.underlying40 Try.underlying5 Try.underlying9 (fun j hj => ?_)
    rw [Addr.add_lit]
    exact hc j _ (bCells_get l j hj)
theorem exec_convS {o : Oper} {a : Act} {W : World} {x : Operand} (ho : o.op = .convert 40 9 x) {v : Value} {l : List UInt8} (hx : a.eval x = v) (h : Bs W v l) : (execOp a.eval o).run Try.prog W = .ok (.value (.string (tx l))) W := by
  unfold execOp
  simp only [ho, hx, Sem.run_bind, Sem.run_pure, run_convS W v l h, Result.andThen_ok]
theorem flatten_at {α : Type} {n : Nat} (f : α → List Value) (hf : ∀ x, (f x).length = n) : ∀ (l : List α) (k j : Nat) (h : k < l.length), j < n → ((l.map f).flatten)[k * n + j]? = (f l[k])[j]?
  | [], k, j, h, _ => by simp at h
  | x :: l, 0, j, h, hj => by
    simp only [List.map_cons, List.flatten_cons, Nat.zero_mul, Nat.zero_add, List.getElem_cons_zero]
    rw [List.getElem?_append_left (by rw [hf]; exact hj)]
  | x :: l, k + 1, j, h, hj => by
    simp only [List.map_cons, List.flatten_cons, List.getElem_cons_succ]
    rw [List.getElem?_append_right (by rw [hf, Nat.add_mul]; omega), hf, show (k + 1) * n + j - n = k * n + j by rw [Nat.add_mul]; omega]
    exact flatten_at f hf l k j (by simpa using h) hj
/-- Runes from one to another one. -/
abbrev Sp := Int × Int
def Sp.cells (x : Sp) : List Value := [.int .i32 x.1, .int .i32 x.2]
def spCells (l : List Sp) : List Value := (l.map Sp.cells).flatten
def Sp.has (r : Int) (x : Sp) : Bool := decide (x.1 ≤ r) && decide (r ≤ x.2)
def inB (r : Int) (l : List Sp) : Bool := l.any (Sp.has r)
set_option maxRecDepth 100000 in
theorem in_any (r : Int) (v : Value) (l : List Sp) (w : World) (h : Sl w 2 v l.length (spCells l)) :
    Calls Try.prog 40 #[.int .i32 r, v] w fun e w' => e = .returned (.bool (inB r l)) ∧ Below w.heap.size w w' := by
  obtain ⟨a, cap, rfl, hcap, hcm⟩ := h.form
  unfold maxLen at hcm
  have HS := hI h
  have hcl : (spCells l).length = l.length * 2 := h.1
  clear h
  go_enter Try.func40, Try.ntmps40
  go_wp2_with fail
  go_loopw [9] (fun i wr => ∃ k : Nat, k ≤ l.length ∧ i = .int .i64 k ∧ (l.take k).any (Sp.has r) = false ∧ Below w.heap.size w wr) (fun i _ => l.length - (intOf i).toNat)
  case atStart => exact ⟨0, Nat.zero_le _, rfl, rfl, Below.refl _ _⟩
  case round =>
    obtain ⟨k, hk, rfl, hno, hB⟩ := hrel
    have HNO := hI hno
    have HB := hI hB
    clear hno hB
    by_cases hlt : k < l.length
    · have hlt1 : (k : Int) < (l.length : Int) := by omega
      obtain ⟨b, off, rfl, hcell⟩ := HS.out.addr (by omega)
      have c0 : wr.cell? ⟨b, off + k * 2, none⟩ = some (.int .i32 l[k].1) := below_cell HB.out (hcell _ _ (flatten_at (n := 2) Sp.cells (fun _ => rfl) l k 0 hlt (by omega)))
      have c1 : wr.cell? ⟨b, off + k * 2 + 1, none⟩ = some (.int .i32 l[k].2) := below_cell HB.out (hcell _ _ (flatten_at (n := 2) Sp.cells (fun _ => rfl) l k 1 hlt (by omega)))
      clear hcell
      have HN : Hid (Sp.has r l[k] = false → (l.take (k + 1)).any (Sp.has r) = false) := hI (by
        intro h
        rw [List.take_succ_eq_append_getElem hlt, List.any_append, HNO.out]
        simp [h])
      have HY : Hid (Sp.has r l[k] = true → inB r l = true) := hI (by
        intro h
        exact List.any_eq_true.2 ⟨l[k], List.getElem_mem hlt, h⟩)
      have hB' : ∀ o, Below w.heap.size w (wr.alloc o) := fun o => HB.out.alloc HB.out.size o
      have HBA := hI hB'
      clear hB'
      have HE : Hid (Sp.has r l[k] = (decide (l[k].1 ≤ r) && decide (r ≤ l[k].2))) := hI rfl
      generalize l[k] = x at *
      obtain ⟨lo, hi⟩ := x
      by_cases h1 : lo ≤ r
      · by_cases h2 : r ≤ hi
        · go_wp2_with fail
          go_ret
          rw [HY.out (by rw [HE.out]; simp [h1, h2])]
          exact ⟨rfl, HBA.out _⟩
        · go_wp2_with fail
          go_roundw
          case rel => exact ⟨k + 1, by omega, by go_num, HN.out (by rw [HE.out]; simp [h2]), HBA.out _⟩
          case measure => simp [intOf]; omega
      · go_wp2_with fail
        go_roundw
        case rel => exact ⟨k + 1, by omega, by go_num, HN.out (by rw [HE.out]; simp [h1]), HBA.out _⟩
        case measure => simp [intOf]; omega
    · obtain rfl : k = l.length := by omega
      go_wp2_with fail
      go_ret
      have h := HNO.out
      rw [List.take_length] at h
      rw [show inB r l = false from h]
      exact ⟨rfl, HB.out⟩
def letL : List Sp := [(97, 122), (224, 246), (248, 254), (945, 961), (963, 969), (1072, 1103)]
def numL : List Sp := [(48, 57), (45, 45)]
def letB (r : Int) : Bool := inB r letL
def numB (r : Int) : Bool := inB r numL
theorem Sl.spans {w : World} {cs : Array Value} {T : TypeId} {b : Nat} (l : List Sp) (hb : w.heap.size = b) (hc : cs.toList = spCells l) (hl : (spCells l).length = l.length * 2) (h1 : ∀ u ∈ spCells l, u.oneCell' = true) (hn : l.length ≤ maxLen) :
    Sl (w.alloc (.cells cs T)) 2 (.slice (some ⟨b, 0, none⟩) l.length l.length) l.length (spCells l) := by
  have := Sl.lit (w := w) (cs := cs) (T := T) (sz := 2) (n := l.length) hb (by rw [hc]; exact hl) (by rw [hc]; exact h1) hn
  rw [hc] at this
  exact this
theorem letter_any (r : Int) (w : World) :
    Calls Try.prog 39 #[.int .i32 r] w fun e w' => e = .returned (.bool (letB r)) ∧ Below w.heap.size w w' := by
  go_enter Try.func39, Try.ntmps39
  go_wp2_with fail
  refine (in_any r _ letL _ (Sl.spans letL rfl rfl rfl (by decide) (by decide))).mono ?_
  rw [show inB r letL = letB r from rfl]
  rintro e w1 ⟨rfl, hb1⟩
  have HB := hI (((Below.refl w.heap.size w).alloc (Nat.le_refl _) _).trans (hb1.mono (by simp)))
  clear hb1
  go_wp2_with fail
  go_ret
  exact ⟨rfl, HB.out⟩
set_option maxHeartbeats 2000000 in
theorem refLetter_any (r s : Int) (w : World) (h0 : -2147483648 ≤ r) (h1 : r ≤ 2147483647) (h2 : 0 ≤ s) (h3 : s ≤ 32) :
    Calls Try.prog 29 #[.int .i64 r, .int .i64 s] w fun e w' => e = .returned (.bool (letB (r + s))) ∧ w = w' := by
  obtain ⟨x, hx⟩ : ∃ x, x = r + s := ⟨_, rfl⟩
  have hw : wrap64 (r + s) = x := by rw [wrap64]; omega
  have HX := hI hx
  rw [← hx]
  clear h0 h1 h2 h3 hx
  go_enter Try.func29, Try.ntmps29
  rcases (by omega : x < 97 ∨ (97 ≤ x ∧ x ≤ 122) ∨ (122 < x ∧ x < 224) ∨ (224 ≤ x ∧ x ≤ 246) ∨ (246 < x ∧ x < 248) ∨ (248 ≤ x ∧ x ≤ 254) ∨ (254 < x ∧ x < 945) ∨ (945 ≤ x ∧ x ≤ 961) ∨ (961 < x ∧ x < 963) ∨ (963 ≤ x ∧ x ≤ 969) ∨ (969 < x ∧ x < 1072) ∨ (1072 ≤ x ∧ x ≤ 1103) ∨ 1103 < x) with
    k | ⟨k, k'⟩ | ⟨k, k'⟩ | ⟨k, k'⟩ | ⟨k, k'⟩ | ⟨k, k'⟩ | ⟨k, k'⟩ | ⟨k, k'⟩ | ⟨k, k'⟩ | ⟨k, k'⟩ | ⟨k, k'⟩ | ⟨k, k'⟩ | k <;>
  · have hb : letB x = (decide (97 ≤ x ∧ x ≤ 122 ∨ 224 ≤ x ∧ x ≤ 246 ∨ 248 ≤ x ∧ x ≤ 254 ∨ 945 ≤ x ∧ x ≤ 961 ∨ 963 ≤ x ∧ x ≤ 969 ∨ 1072 ≤ x ∧ x ≤ 1103)) := by
      simp only [letB, inB, letL, List.any_cons, List.any_nil, Sp.has, Bool.or_false, Bool.decide_or, Bool.decide_and]
    first
    | have HL := hI (hb.trans (decide_eq_true (by omega)))
    | have HL := hI (hb.trans (decide_eq_false (by omega)))
    clear hb
    go_wp2_with fail
    go_ret
    rw [HL.out]
    refine ⟨congrArg (fun b => Ending.returned (Value.bool b)) ?_, rfl⟩
    first
    | rfl
    | (simp [decide_eq_false_iff_not]; omega)
/-- The runes of a text, each with where it begins. -/
def rsF (s : ByteArray) : Nat → Nat → List (Nat × Int)
  | 0, _ => []
  | f + 1, p => if p < s.size then (p, ((Utf8.decode s p).1 : Int)) :: rsF s f (p + (Utf8.decode s p).2) else []
def rs (s : ByteArray) (p : Nat) : List (Nat × Int) := rsF s (s.size - p) p
theorem rsF_more (s : ByteArray) : ∀ (f f' p : Nat), s.size ≤ p + f → s.size ≤ p + f' → rsF s f p = rsF s f' p
  | 0, 0, _, _, _ => rfl
  | 0, f' + 1, p, h, _ => by simp [rsF, show ¬ p < s.size from by omega]
  | f + 1, 0, p, _, h => by simp [rsF, show ¬ p < s.size from by omega]
  | f + 1, f' + 1, p, h, h' => by
    by_cases hp : p < s.size
    · have := Lib.decode_width_pos s p hp
      simp only [rsF, if_pos hp]
      rw [rsF_more s f f' _ (by omega) (by omega)]
    · simp [rsF, hp]
theorem rs_step (s : ByteArray) (p : Nat) (h : p < s.size) : rs s p = (p, ((Utf8.decode s p).1 : Int)) :: rs s (p + (Utf8.decode s p).2) := by
  have := Lib.decode_width_pos s p h
  unfold rs
  obtain ⟨f, hf⟩ : ∃ f, s.size - p = f + 1 := ⟨s.size - p - 1, by omega⟩
  rw [hf]
  simp only [rsF, if_pos h]
  rw [rsF_more s f (s.size - (p + (Utf8.decode s p).2)) _ (by omega) (by omega)]
theorem rs_end (s : ByteArray) (p : Nat) (h : ¬ p < s.size) : rs s p = [] := by
  unfold rs
  rw [show s.size - p = 0 from by omega]
  rfl
/-- An iterator stands at a place. -/
def It (w : World) (k : Nat) (s : ByteArray) (p : Nat) : Prop := w.heap[k]? = some (.stringIter s p)
theorem It.pos {w : World} {k : Nat} {s : ByteArray} {p : Nat} (h : It w k s p) : w.iterPos k = p := by simp [World.iterPos, show w.heap[k]? = _ from h]
theorem It.lt {w : World} {k : Nat} {s : ByteArray} {p : Nat} (h : It w k s p) : k < w.heap.size := block_lt h
theorem It.below {w w' : World} {k B : Nat} {s : ByteArray} {p : Nat} (h : It w k s p) (hb : Below B w w') (hk : k < B) : It w' k s p := (hb.block k hk).trans h
theorem It.keep {w w' : World} {k : Nat} {S : Nat → Prop} {s : ByteArray} {p : Nat} (h : It w k s p) (hb : Keeps S w w') (hk : ¬ S k) : It w' k s p := (hb.block k hk).trans h
/-- One step of an iterator: what it gives, and the world then, as a variable. -/
theorem It.next {P : Program} {w0 wr : World} {k B : Nat} {s : ByteArray} {pos : Nat} (h : It wr k s pos) (hp : pos < s.size) (hB : Below B w0 wr) (hk : B ≤ k) :
    ∃ W, (∀ ty, (Instr.next (.pointer (some ⟨k, 0, none⟩)) true ty).run P wr = .ok (.tuple #[.bool true, .int .i64 pos, .int .i32 (Utf8.decode s pos).1]) W) ∧ It W k s (pos + (Utf8.decode s pos).2) ∧ Below B w0 W ∧ Keeps (fun j => j = k) wr W :=
  ⟨_, fun ty => Lib.run_next_any_at wr k s pos ty h hp, Lib.iterAt_heap wr k s pos _ h, Lib.below_iterAt hB hk s _,
    ⟨rfl, rfl, rfl, by rw [Lib.iterAt_size]; exact Nat.le_refl _, fun j hj => Lib.iterAt_other wr k j s _ hj⟩⟩
def rightF : List (Nat × Int) → Nat → Bool
  | [], n => decide (1 ≤ n) && decide (n ≤ 16)
  | (i, r) :: l, n => if letB r then rightF l (n + 1) else if i = 0 then false else if numB r then rightF l (n + 1) else false
def rightB (s : ByteArray) : Bool := rightF (rs s 0) 0
set_option maxHeartbeats 1000000 in
set_option maxRecDepth 100000 in
theorem right_any (s : ByteArray) (w : World) (hs : s.size ≤ maxLen) :
    Calls Try.prog 21 #[.string s] w fun e w' => e = .returned (.bool (rightB s)) ∧ Below w.heap.size w w' := by
  unfold maxLen at hs
  go_enter Try.func21, Try.ntmps21
  go_wp2_with fail
  go_loopw [3] (fun n wr => ∃ (pos q : Nat), n = .int .i64 q ∧ It wr w.heap.size s pos ∧ q ≤ pos ∧ Below w.heap.size w wr ∧ rightF (rs s pos) q = rightB s) (fun _ wr => s.size - wr.iterPos w.heap.size)
  case atStart => exact ⟨0, 0, rfl, World.iter_heap w s 0, Nat.le_refl _, (Below.refl _ _).alloc (Nat.le_refl _) _, rfl⟩
  case round =>
    obtain ⟨pos, q, rfl, hit, hq, hB, hR⟩ := hrel
    have HP0 := hI hit.pos
    have HR := hI hR
    clear hR
    by_cases hp : pos < s.size
    · obtain ⟨W, hnx, hit2, hB2, _⟩ := hit.next (P := Try.prog) hp hB (Nat.le_refl _)
      have hwd := Lib.decode_width_pos s pos hp
      have hstep := rs_step s pos hp
      obtain ⟨c, hc⟩ : ∃ c : Int, c = ((Utf8.decode s pos).1 : Int) := ⟨_, rfl⟩
      obtain ⟨wd, hw⟩ : ∃ wd, wd = (Utf8.decode s pos).2 := ⟨_, rfl⟩
      rw [← hc, ← hw] at hstep
      rw [← hc] at hnx
      rw [← hw] at hit2 hwd
      have HS := hI hstep
      have HI := hI hit2
      have HB := hI hB2
      clear hstep hit2 hB2 hB hit hc hw
      go_wp2_with fail
      refine (letter_any c W).mono ?_
      obtain ⟨L, hL⟩ : ∃ L, L = letB c := ⟨_, rfl⟩
      rw [← hL]
      have HL := hI hL
      clear hL
      rintro e w1 ⟨rfl, hb1⟩
      have HI1 := hI (HI.out.below hb1 HI.out.lt)
      have HB1 := hI (HB.out.trans (hb1.mono HB.out.size))
      clear hb1 HI HB hnx
      cases L with
      | true =>
        have HF : Hid (rightF (rs s (pos + wd)) (q + 1) = rightB s) := hI (by
          rw [← HR.out, HS.out, rightF, ← HL.out, if_pos rfl])
        go_wp2_with fail
        go_roundw
        case rel => exact ⟨pos + wd, q + 1, by go_num, HI1.out, by omega, HB1.out, HF.out⟩
        case measure => rw [HI1.out.pos, HP0.out]; omega
      | false =>
        by_cases hp0 : pos = 0
        · subst hp0
          have HF : Hid (rightB s = false) := hI (by
            rw [← HR.out, HS.out, rightF, ← HL.out]
            simp)
          go_wp2_with fail
          go_ret
          rw [HF.out]
          exact ⟨rfl, HB1.out⟩
        · have hp1 : ((pos : Int) == 0) = false := by simp; omega
          have HN0 := hI hp0
          clear hp0
          go_wp2_with fail
          refine (in_any c _ numL _ (Sl.spans numL rfl rfl rfl (by decide) (by decide))).mono ?_
          obtain ⟨M, hM⟩ : ∃ M, M = numB c := ⟨_, rfl⟩
          rw [show inB c numL = numB c from rfl, ← hM]
          have HM := hI hM
          clear hM
          rintro e w2 ⟨rfl, hb2⟩
          have HI2 := hI (It.below (It.below HI1.out ((Below.refl w1.heap.size w1).alloc (Nat.le_refl _) _) HI1.out.lt) hb2 (by have := HI1.out.lt; simp; omega))
          have HB2 := hI ((HB1.out.alloc HB1.out.size _).trans (hb2.mono (by have := HB1.out.size; simp; omega)))
          clear hb2 HI1 HB1
          cases M with
          | true =>
            have HF : Hid (rightF (rs s (pos + wd)) (q + 1) = rightB s) := hI (by
              rw [← HR.out, HS.out, rightF, ← HL.out, ← HM.out]
              simp [HN0.out])
            go_wp2_with fail
            go_roundw
            case rel => exact ⟨pos + wd, q + 1, by go_num, HI2.out, by omega, HB2.out, HF.out⟩
            case measure => rw [HI2.out.pos, HP0.out]; omega
          | false =>
            have HF : Hid (rightB s = false) := hI (by
              rw [← HR.out, HS.out, rightF, ← HL.out, ← HM.out]
              simp)
            go_wp2_with fail
            go_ret
            rw [HF.out]
            exact ⟨rfl, HB2.out⟩
    · have hnx : ∀ ty, (Instr.next (.pointer (some ⟨w.heap.size, 0, none⟩)) true ty).run Try.prog wr = .ok (.tuple #[.bool false]) wr := fun ty => Lib.run_next_end_at wr _ s pos ty hit hp
      have HF : Hid (rightB s = (decide (1 ≤ q) && decide (q ≤ 16))) := hI (by rw [← HR.out, rs_end s pos hp, rightF])
      have HB := hI hB
      clear hB hit
      rcases (by omega : q < 1 ∨ (1 ≤ q ∧ q ≤ 16) ∨ 16 < q) with h | ⟨h, h'⟩ | h
      · have h1 : ¬ (1 : Int) ≤ (q : Int) := by omega
        have HG := hI (HF.out.trans (show _ = false by rw [decide_eq_false (by omega : ¬ 1 ≤ q)]; rfl))
        clear h
        go_wp2_with fail
        go_ret
        rw [HG.out]
        exact ⟨rfl, HB.out⟩
      · have h1 : (1 : Int) ≤ (q : Int) := by omega
        have h2 : (q : Int) ≤ 16 := by omega
        have HG := hI (HF.out.trans (show _ = true by rw [decide_eq_true h, decide_eq_true h']; rfl))
        clear h h'
        go_wp2_with fail
        go_ret
        rw [HG.out]
        exact ⟨rfl, HB.out⟩
      · have h1 : (1 : Int) ≤ (q : Int) := by omega
        have h2 : ¬ (q : Int) ≤ 16 := by omega
        have HG := hI (HF.out.trans (show _ = false by rw [decide_eq_false (by omega : ¬ q ≤ 16)]; simp))
        clear h
        go_wp2_with fail
        go_ret
        rw [HG.out]
        exact ⟨rfl, HB.out⟩
def textF (most : Int) : List (Nat × Int) → Nat → Bool
  | [], n => decide ((n : Int) ≤ most)
  | (_, r) :: l, n => if r < 32 then false else if r = 127 then false else if r = 65533 then false else textF most l (n + 1)
def textB (s : ByteArray) (most : Int) : Bool := textF most (rs s 0) 0
set_option maxHeartbeats 1000000 in
set_option maxRecDepth 100000 in
theorem text_any (s : ByteArray) (most : Int) (w : World) (hs : s.size ≤ maxLen) :
    Calls Try.prog 38 #[.string s, .int .i64 most] w fun e w' => e = .returned (.bool (textB s most)) ∧ Below w.heap.size w w' := by
  unfold maxLen at hs
  go_enter Try.func38, Try.ntmps38
  go_wp2_with fail
  go_loopw [5] (fun n wr => ∃ (pos q : Nat), n = .int .i64 q ∧ It wr w.heap.size s pos ∧ q ≤ pos ∧ Below w.heap.size w wr ∧ textF most (rs s pos) q = textB s most) (fun _ wr => s.size - wr.iterPos w.heap.size)
  case atStart => exact ⟨0, 0, rfl, World.iter_heap w s 0, Nat.le_refl _, (Below.refl _ _).alloc (Nat.le_refl _) _, rfl⟩
  case round =>
    obtain ⟨pos, q, rfl, hit, hq, hB, hR⟩ := hrel
    have HP0 := hI hit.pos
    have HR := hI hR
    clear hR
    by_cases hp : pos < s.size
    · obtain ⟨W, hnx, hit2, hB2, _⟩ := hit.next (P := Try.prog) hp hB (Nat.le_refl _)
      have hwd := Lib.decode_width_pos s pos hp
      have hstep := rs_step s pos hp
      obtain ⟨c, hc⟩ : ∃ c : Int, c = ((Utf8.decode s pos).1 : Int) := ⟨_, rfl⟩
      obtain ⟨wd, hw⟩ : ∃ wd, wd = (Utf8.decode s pos).2 := ⟨_, rfl⟩
      rw [← hc, ← hw] at hstep
      rw [← hc] at hnx
      rw [← hw] at hit2 hwd
      have HS := hI hstep
      have HI := hI hit2
      have HB := hI hB2
      clear hstep hit2 hB2 hB hit hc hw
      by_cases h1 : c < 32
      · have HF : Hid (textB s most = false) := hI (by rw [← HR.out, HS.out, textF, if_pos h1])
        go_wp2_with fail
        go_ret
        rw [HF.out]
        exact ⟨rfl, HB.out⟩
      by_cases h2 : c = 127
      · have HF : Hid (textB s most = false) := hI (by rw [← HR.out, HS.out, textF, if_neg h1, if_pos h2])
        subst h2
        go_wp2_with fail
        go_ret
        rw [HF.out]
        exact ⟨rfl, HB.out⟩
      by_cases h3 : c = 65533
      · have HF : Hid (textB s most = false) := hI (by rw [← HR.out, HS.out, textF, if_neg h1, if_neg h2, if_pos h3])
        subst h3
        go_wp2_with fail
        go_ret
        rw [HF.out]
        exact ⟨rfl, HB.out⟩
      have HF : Hid (textF most (rs s (pos + wd)) (q + 1) = textB s most) := hI (by rw [← HR.out, HS.out, textF, if_neg h1, if_neg h2, if_neg h3])
      have h2' : (c == 127) = false := by simpa using h2
      have h3' : (c == 65533) = false := by simpa using h3
      go_wp2_with fail
      go_roundw
      case rel => exact ⟨pos + wd, q + 1, by go_num, HI.out, by omega, HB.out, HF.out⟩
      case measure => rw [HI.out.pos, HP0.out]; omega
    · have hnx : ∀ ty, (Instr.next (.pointer (some ⟨w.heap.size, 0, none⟩)) true ty).run Try.prog wr = .ok (.tuple #[.bool false]) wr := fun ty => Lib.run_next_end_at wr _ s pos ty hit hp
      have HF : Hid (textB s most = decide ((q : Int) ≤ most)) := hI (by rw [← HR.out, rs_end s pos hp, textF])
      have HB := hI hB
      clear hB hit
      go_wp2_with fail
      go_ret
      rw [HF.out]
      exact ⟨rfl, HB.out⟩
def TF : Nat → Prop := fun _ => True
theorem tvf_raw {w : World} {v : Value} {b : List UInt8} (h : Bs w v b) : TvF w TF (rawT b) [.int .i64 1, .int .i64 0, .int .u64 0, v, .slice none 0 0] :=
  ⟨v, .slice none 0 0, [], rfl, h, fun _ _ _ => trivial, Sl.nil _ _ _, by simp, rfl⟩
theorem tvf_num (w : World) (n : Nat) : TvF w TF (numT n) [.int .i64 0, .int .i64 0, .int .u64 n, .slice none 0 0, .slice none 0 0] :=
  ⟨.slice none 0 0, .slice none 0 0, [], rfl, Sl.nil _ _ _, fun _ _ _ => trivial, Sl.nil _ _ _, by simp, rfl⟩
/-- A word, as the bytes that wait. -/
def enc (t : Int) (ts : List Tv) : List UInt8 := writeS (wordT t ts)
/-- say, of a word. -/
theorem appSay_word (a q : Nat) (P : List Nat × List Nat) (A : AppF) (t : Int) (lv : Value) (ts : List Tv) (rows : List Value) (l : List Res) (w : World) (h : Hold w (appR a q P A :: l)) (hs : Sl w 5 lv ts.length rows) (ht : TvsF w TF ts rows) (hk : WordOk t ts) (hn : A.waits.length ≤ 1099511627776) :
    Calls Try.prog 25 #[.pointer (some ⟨a, 0, none⟩), .int .i64 t, lv] w fun e w' => e = .returned (.int .i64 0) ∧ Hold w' (appR a q P (sayA A (enc t ts)) :: l) := by
  have := appSay_any a q P A t lv ts rows TF l w h hs (fun _ _ _ => trivial) ht hk.nw (by have := hk.len; unfold wordT at this; omega) (by have := hk.wr; unfold wordT at this; rw [this]) hn
  have e : (wrS (.mk 2 t 0 [] ts)).1 = enc t ts := by have := hk.wr; unfold wordT at this; rw [this]; rfl
  rw [e] at this
  exact this
def chatA (A : AppF) (s : ByteArray) : AppF × Int :=
  if textB s 200 = false then (A, 4) else if 16 ≤ A.waits.length then (A, 8) else (sayA A (enc 1 [rawT s.data.toList]), 0)
set_option maxRecDepth 100000 in
set_option maxHeartbeats 2000000 in
theorem appChat_any (a q : Nat) (P : List Nat × List Nat) (A : AppF) (s : ByteArray) (l : List Res) (w : World) (h : Hold w (appR a q P A :: l)) (hs : s.size ≤ 900) (hn : A.waits.length ≤ 1099511627776) :
    Calls Try.prog 17 #[.pointer (some ⟨a, 0, none⟩), .string s] w fun e w' => e = .returned (.int .i64 (chatA A s).2) ∧ Hold w' (appR a q P (chatA A s).1 :: l) := by
  have HC := hI h
  have HN := hI hn
  have HTX := hI (text_any s 200 w (by unfold maxLen; omega))
  obtain ⟨tb, htb⟩ : ∃ tb, tb = textB s 200 := ⟨_, rfl⟩
  have HTB := hI htb
  rw [← htb] at HTX
  clear h hn htb
  cases tb with
  | false =>
    have HR : Hid (chatA A s = (A, 4)) := hI (by rw [chatA, if_pos HTB.out.symm])
    rw [HR.out]
    go_enter Try.func17, Try.ntmps17
    go_wp2_with fail
    refine HTX.out.mono ?_
    rintro e w1 ⟨rfl, hb⟩
    have HC := hI (HC.out.step hb)
    clear hb HTX
    go_wp2_with fail
    go_ret
    exact ⟨rfl, HC.out⟩
  | true =>
    by_cases hf : 16 ≤ A.waits.length
    · have HR : Hid (chatA A s = (A, 8)) := hI (by rw [chatA, if_neg (by rw [← HTB.out]; decide), if_pos hf])
      have hfd : decide (16 ≤ A.waits.length) = true := by simpa using hf
      rw [HR.out]
      clear hf
      go_enter Try.func17, Try.ntmps17
      go_wp2_with fail
      refine HTX.out.mono ?_
      rintro e w1 ⟨rfl, hb⟩
      have HC := hI (HC.out.step hb)
      clear hb HTX
      go_wp2_with fail
      refine (appFull_any a q P A l w1 HC.out).mono ?_
      rintro e w2 ⟨rfl, hc⟩
      have HC := hI hc
      clear hc
      rw [hfd]
      go_wp2_with fail
      go_ret
      exact ⟨rfl, HC.out⟩
    · have HR : Hid (chatA A s = (sayA A (enc 1 [rawT s.data.toList]), 0)) := hI (by rw [chatA, if_neg (by rw [← HTB.out]; decide), if_neg hf])
      have hfd : decide (16 ≤ A.waits.length) = false := by simpa using hf
      have hsl : s.data.toList.length = s.size := rfl
      have HW : Hid (WordOk 1 [rawT s.data.toList]) := hI (wordOk (by decide) (by decide) (by simp) (by simp only [List.mem_singleton, forall_eq]; exact LeafT.raw (by rw [hsl]; exact hs)))
      rw [HR.out]
      clear hf
      go_enter Try.func17, Try.ntmps17
      go_wp2_with fail
      refine HTX.out.mono ?_
      rintro e w1 ⟨rfl, hb⟩
      have HC := hI (HC.out.step hb)
      clear hb HTX
      go_wp2_with fail
      refine (appFull_any a q P A l w1 HC.out).mono ?_
      rintro e w2 ⟨rfl, hc⟩
      have HC := hI hc
      clear hc
      rw [hfd]
      go_wp2_with ((with_reducible show wpList _ _ _ (⟨some 14, _, _, _, _, _⟩ :: _) _ _); refine wpList_conv rfl (.tmp 13) rfl (s := s) rfl (by omega) ?_; intro cap w3 hcv hbv hsz)
      have HC := hI (HC.out.step hbv)
      have HRW := hI (derRaw_any _ s.data.toList w3 (Sl.bs hcv.sl rfl hsl) (by rw [hsl]; omega))
      clear hcv hbv hsz
      go_wp2_with fail
      refine HRW.out.mono ?_
      rintro e w4 ⟨v4, rfl, hb4, hbl⟩
      obtain ⟨ra, rc, rfl, -, -⟩ := hb4.form
      have HSAY := hI (appSay_word a q P A 1 (.slice (some ⟨w4.heap.size, 0, none⟩) 1 1) [rawT s.data.toList] [.int .i64 1, .int .i64 0, .int .u64 0, .slice ra s.data.toList.length rc, .slice none 0 0] l (w4.alloc (.cells #[.int .i64 1, .int .i64 0, .int .u64 0, .slice ra s.data.toList.length rc, .slice none 0 0] 76)) ((HC.out.step hbl).alloc _) (Sl.lit rfl rfl (by simp [Value.oneCell']) (by unfold maxLen; decide)) ⟨_, [], rfl, tvf_raw (hb4.alloc _), rfl⟩ HW.out HN.out)
      clear hb4 hbl HRW HC
      go_wp2_with fail
      refine HSAY.out.mono ?_
      rintro e w5 ⟨rfl, hc⟩
      have HC := hI hc
      clear hc HSAY
      go_wp2_with fail
      go_ret
      exact ⟨rfl, HC.out⟩
def liveB (s : Int) : Bool := decide (s = 0) || decide (s = 1)
def liveN (ss : List Int) : Nat := ss.countP liveB
def intC (s : Int) : Value := .int .i64 s
theorem liveN_snoc (ss : List Int) (s : Int) : liveN (ss ++ [s]) = liveN ss + if liveB s = true then 1 else 0 := by
  unfold liveN
  rw [List.countP_append, List.countP_cons, List.countP_nil, Nat.zero_add]
theorem liveN_le (ss : List Int) : liveN ss ≤ ss.length := List.countP_le_length
set_option maxRecDepth 100000 in
set_option maxHeartbeats 1000000 in
theorem live_any (v : Value) (ss : List Int) (w : World) (h : Sl w 1 v ss.length (ss.map intC)) :
    Calls Try.prog 22 #[v] w fun e w' => e = .returned (.int .i64 (liveN ss)) ∧ w' = w := by
  obtain ⟨a, c, rfl, hc, hm⟩ := h.form
  have HS := hI h
  unfold maxLen at hm
  clear h
  go_enter Try.func22, Try.ntmps22
  go_wp2_with fail
  go_loopw [3, 8] (fun n i wr => ∃ j : Nat, j ≤ ss.length ∧ i = .int .i64 j ∧ n = .int .i64 (liveN (ss.take j)) ∧ wr = w) (fun _ i _ => ss.length - (intOf i).toNat)
  case atStart => exact ⟨0, Nat.zero_le _, rfl, rfl, rfl⟩
  case round =>
    obtain ⟨j, hj, rfl, rfl, rfl⟩ := hrel
    have hle := liveN_le (ss.take j)
    rw [List.length_take] at hle
    by_cases hlt : j < ss.length
    · obtain ⟨b, o, rfl, hcell⟩ := HS.out.addr (by rw [List.length_map]; omega)
      have hx := hcell j (intC ss[j]) (by rw [List.getElem?_map, List.getElem?_eq_getElem hlt]; rfl)
      have hji : (j : Int) < ss.length := by omega
      have hsn : liveN (ss.take (j + 1)) = liveN (ss.take j) + if liveB ss[j] = true then 1 else 0 := by
        rw [← liveN_snoc, List.take_append_getElem hlt]
      obtain ⟨x, hxx⟩ : ∃ x, x = ss[j] := ⟨_, rfl⟩
      rw [← hxx] at hx hsn
      unfold intC at hx
      obtain ⟨m, hmm⟩ : ∃ m, m = liveN (ss.take j) := ⟨_, rfl⟩
      rw [← hmm] at hle hsn ⊢
      have HSN := hI hsn
      clear hxx hmm hsn hcell
      by_cases h0 : x = 0
      · subst h0
        have HL : Hid (liveB 0 = true) := hI rfl
        go_wp2_with fail
        go_roundw
        case rel => exact ⟨j + 1, by omega, by go_num, by rw [HSN.out, HL.out]; go_num, trivial⟩
        case measure => simp [intOf]; omega
      · have h0' : (x == 0) = false := by simpa using h0
        by_cases h1 : x = 1
        · subst h1
          have HL : Hid (liveB 1 = true) := hI rfl
          clear h0
          go_wp2_with fail
          go_roundw
          case rel => exact ⟨j + 1, by omega, by go_num, by rw [HSN.out, HL.out]; go_num, trivial⟩
          case measure => simp [intOf]; omega
        · have h1' : (x == 1) = false := by simpa using h1
          have HL : Hid (liveB x = false) := hI (by simp [liveB, h0, h1])
          clear h0 h1
          go_wp2_with fail
          go_roundw
          case rel => exact ⟨j + 1, by omega, by go_num, by rw [HSN.out, HL.out]; go_num, trivial⟩
          case measure => simp [intOf]; omega
    · obtain rfl : j = ss.length := by omega
      rw [List.take_length]
      go_wp2_with fail
      go_ret
      exact ⟨rfl, rfl⟩
/-- How many files are under way of those that a loop is still to meet. -/
def leftN {β : Type} (f : β → Int) (L : List (Int × β)) (left : Lit → Bool) : Nat := L.countP fun x => left (kI x.1) && liveB (f x.2)
theorem leftN_all {β : Type} {f : β → Int} {L : List (Int × β)} {left : Lit → Bool} (h : ∀ x ∈ L, left (kI x.1) = true) : leftN f L left = liveN (L.map fun x => f x.2) := by
  unfold leftN liveN
  rw [List.countP_map]
  refine List.countP_congr fun x hx => ?_
  rw [h x hx]
  simp
theorem leftN_none {β : Type} {f : β → Int} {L : List (Int × β)} {left : Lit → Bool} (h : ∀ kl, left kl = false) : leftN f L left = 0 := by
  unfold leftN
  rw [List.countP_eq_zero]
  intro x _
  simp [h]
theorem leftN_same {β : Type} {f : β → Int} {left : Lit → Bool} {s : Int} : ∀ {L : List (Int × β)}, (∀ x ∈ L, x.1 ≠ s) → leftN f L (fun z => left z && !z.sameKey (kI s)) = leftN f L left := by
  intro L h
  unfold leftN
  refine List.countP_congr fun x hx => ?_
  simp only [kI_inj x.1 s]
  simp [h x hx]
theorem leftN_take {β : Type} {f : β → Int} {left : Lit → Bool} {s : Int} {o : β} : ∀ {L : List (Int × β)}, L.Pairwise (fun x y => x.1 ≠ y.1) → (s, o) ∈ L → left (kI s) = true → leftN f L left = leftN f L (fun z => left z && !z.sameKey (kI s)) + if liveB (f o) = true then 1 else 0
  | [], _, hm, _ => by simp at hm
  | x :: L, hd, hm, hl => by
    obtain ⟨h1, h2⟩ := List.pairwise_cons.1 hd
    have e : ∀ left' : Lit → Bool, leftN f (x :: L) left' = leftN f L left' + if (left' (kI x.1) && liveB (f x.2)) = true then 1 else 0 := fun left' => by
      unfold leftN
      rw [List.countP_cons]
    rw [e, e]
    rcases List.mem_cons.1 hm with rfl | hm
    · rw [leftN_same (fun y hy => (h1 y hy).symm)]
      simp only [kI_inj s s, hl]
      simp
    · have h3 := leftN_take (f := f) h2 hm hl
      have h4 : x.1 ≠ s := fun e2 => h1 _ hm e2
      rw [h3]
      simp only [kI_inj x.1 s, h4, decide_false, Bool.not_false, Bool.and_true]
      omega
theorem elInt : Elem Try.prog 58 3 1 8 (.int .i64 0) := by
  refine Elem.mk Try.underlying58 ?_ rfl (by decide)
  kernel_rfl
def heardA (A : AppF) (s : ByteArray) : AppF × Int := if textB s 200 = false then (A, 4) else (hapA A ⟨0, 0, s, []⟩, 0)
set_option maxRecDepth 100000 in
set_option maxHeartbeats 2000000 in
theorem appHeard_any (a q : Nat) (P : List Nat × List Nat) (A : AppF) (s : ByteArray) (l : List Res) (w : World) (h : Hold w (appR a q P A :: l)) (hs : s.size ≤ 1048576) (hn : A.log.length ≤ 1099511627776) :
    Calls Try.prog 46 #[.pointer (some ⟨a, 0, none⟩), .string s] w fun e w' => e = .returned (.int .i64 (heardA A s).2) ∧ Hold w' (appR a q P (heardA A s).1 :: l) := by
  have HC := hI h
  have HN := hI hn
  have HTX := hI (text_any s 200 w (by unfold maxLen; omega))
  obtain ⟨tb, htb⟩ : ∃ tb, tb = textB s 200 := ⟨_, rfl⟩
  have HTB := hI htb
  rw [← htb] at HTX
  clear h hn htb
  cases tb with
  | false =>
    have HR : Hid (heardA A s = (A, 4)) := hI (by rw [heardA, if_pos HTB.out.symm])
    rw [HR.out]
    go_enter Try.func46, Try.ntmps46
    go_wp2_with fail
    refine HTX.out.mono ?_
    rintro e w1 ⟨rfl, hb⟩
    have HC := hI (HC.out.step hb)
    clear hb HTX
    go_wp2_with fail
    go_ret
    exact ⟨rfl, HC.out⟩
  | true =>
    have HR : Hid (heardA A s = (hapA A ⟨0, 0, s, []⟩, 0)) := hI (by rw [heardA, if_neg (by rw [← HTB.out]; decide)])
    rw [HR.out]
    go_enter Try.func46, Try.ntmps46
    go_wp2_with fail
    refine HTX.out.mono ?_
    rintro e w1 ⟨rfl, hb⟩
    have HHAP := hI (appHappen_any a q P A 0 0 s (.slice none 0 0) [] l w1 (HC.out.step hb).addNilRow.swap HN.out)
    clear hb HTX HC
    go_wp2_with fail
    refine HHAP.out.mono ?_
    rintro e w2 ⟨rfl, hc⟩
    have HC := hI hc
    clear hc HHAP
    go_wp2_with fail
    go_ret
    exact ⟨rfl, HC.out⟩
/-- Is a value in a list as words have them? -/
def oddT (x : Tv) : Bool := decide (x.tag ≠ 0) || (decide (x.kind = 0) && decide (1099511627776 < x.n))
set_option maxRecDepth 100000 in
set_option maxHeartbeats 1000000 in
theorem shape1_any (x : Tv) (cs : List Value) (w : World) (h : TvF w TF x cs) :
    Calls Try.prog 61 #[.agg cs.toArray] w fun e w' => e = .returned (.bool (oddT x)) ∧ Below w.heap.size w w' := by
  obtain ⟨bv, lv, rows, rfl, hb, -, hl, -, -⟩ := h.open_
  obtain ⟨ab, cb, rfl, -, -⟩ := hb.form
  obtain ⟨al, cl, rfl, -, -⟩ := hl.form
  obtain ⟨k, t, n, b, l⟩ := x
  simp only [Tv.kind, Tv.tag, Tv.n, Tv.b, Tv.l]
  have HBB : Hid (Below w.heap.size w (w.alloc (.cells #[.int .i64 k, .int .i64 t, .int .u64 n, .slice ab b.length cb, .slice al l.length cl] 76))) := hI ((Below.refl _ _).alloc (Nat.le_refl _) _)
  clear h hb hl
  by_cases ht : t = 0
  · subst ht
    by_cases hk : k = 0
    · subst hk
      by_cases hn : 1099511627776 < n
      · have hn' : (1099511627776 : Int) < n := by omega
        have HE : Hid (oddT (.mk 0 0 n b l) = true) := hI (by simp [oddT, Tv.tag, Tv.kind, Tv.n, hn])
        clear hn
        go_enter Try.func61, Try.ntmps61
        go_wp2_with fail
        go_ret
        rw [HE.out]
        exact ⟨rfl, HBB.out⟩
      · have hn' : ¬ (1099511627776 : Int) < n := by omega
        have HE : Hid (oddT (.mk 0 0 n b l) = false) := hI (by simp [oddT, Tv.tag, Tv.kind, Tv.n, hn])
        clear hn
        go_enter Try.func61, Try.ntmps61
        go_wp2_with fail
        go_ret
        rw [HE.out]
        exact ⟨by simp, HBB.out⟩
    · have hk' : (k == 0) = false := by simpa using hk
      have HE : Hid (oddT (.mk k 0 n b l) = false) := hI (by simp [oddT, Tv.tag, Tv.kind, Tv.n, hk])
      clear hk
      go_enter Try.func61, Try.ntmps61
      go_wp2_with fail
      go_ret
      rw [HE.out]
      exact ⟨rfl, HBB.out⟩
  · have ht' : (t != 0) = true := by simpa using ht
    have HE : Hid (oddT (.mk k t n b l) = true) := hI (by simp [oddT, Tv.tag, Tv.kind, Tv.n, ht])
    clear ht
    go_enter Try.func61, Try.ntmps61
    go_wp2_with fail
    go_ret
    rw [HE.out]
    exact ⟨rfl, HBB.out⟩
set_option maxRecDepth 100000 in
set_option maxHeartbeats 1000000 in
theorem shape2_any (x : Tv) (k2 : Int) (cs : List Value) (w : World) (h : TvF w TF x cs) :
    Calls Try.prog 63 #[.agg cs.toArray, .int .i64 k2] w fun e w' => e = .returned (.bool (x.kind == k2)) ∧ Below w.heap.size w w' := by
  obtain ⟨bv, lv, rows, rfl, hb, -, hl, -, -⟩ := h.open_
  obtain ⟨ab, cb, rfl, -, -⟩ := hb.form
  obtain ⟨al, cl, rfl, -, -⟩ := hl.form
  obtain ⟨k, t, n, b, l⟩ := x
  simp only [Tv.kind, Tv.tag, Tv.n, Tv.b, Tv.l]
  have HBB : Hid (Below w.heap.size w (w.alloc (.cells #[.int .i64 k, .int .i64 t, .int .u64 n, .slice ab b.length cb, .slice al l.length cl] 76))) := hI ((Below.refl _ _).alloc (Nat.le_refl _) _)
  clear h hb hl
  go_enter Try.func63, Try.ntmps63
  go_wp2_with fail
  go_ret
  exact ⟨rfl, HBB.out⟩
set_option maxRecDepth 100000 in
set_option maxHeartbeats 2000000 in
theorem idxOdd_any (v : Value) (ts : List Tv) (rows : List Value) (w : World) (hs : Sl w 5 v ts.length rows) (ht : TvsF w TF ts rows) (hno : ∀ x ∈ ts, oddT x = false) :
    Calls Try.prog 77 #[v, .func (.func 61) #[] #[]] w fun e w' => e = .returned (.int .i64 (-1)) ∧ Below w.heap.size w w' := by
  obtain ⟨a, c, rfl, hc, hm⟩ := hs.form
  have HS := hI hs
  have HT := hI ht
  have HNO := hI hno
  unfold maxLen at hm
  clear hs ht hno
  go_enter Try.func77, Try.ntmps77
  go_wp2_with fail
  go_loopw [8] (fun i wr => ∃ j : Nat, j ≤ ts.length ∧ i = .int .i64 j ∧ Below w.heap.size w wr) (fun i _ => ts.length - (intOf i).toNat)
  case atStart => exact ⟨0, Nat.zero_le _, rfl, Below.refl _ _⟩
  case round =>
    obtain ⟨j, hj, rfl, hB⟩ := hrel
    have HB := hI hB
    by_cases hlt : j < ts.length
    · obtain ⟨bl, ol, rfl, _⟩ := HS.out.addr (by rw [HS.out.1]; omega)
      obtain ⟨r, hr, hrc⟩ := HT.out.cells HS.out j hlt
      have hcr : CellsAt wr bl (ol + j * 5) r := fun i u hi => below_cell hB (hrc i u hi)
      have hji : (j : Int) < ts.length := by omega
      have hrl := hr.length
      have HRL := hI hrl
      have HCR := hI hcr
      have hcl := shape1_any ts[j] r wr (hr.below hB)
      rw [HNO.out _ (List.getElem_mem hlt)] at hcl
      have HCALL := hI hcl
      clear hr hrc hcr hrl hcl hB
      go_wp2_with ((with_reducible show wpList _ _ _ (⟨some 15, _, _, _, _, _⟩ :: _) _ _); refine wpList_ldAgg rfl (.tmp 14) aggDer rfl rfl (cs := r) HRL.out HCR.out ?_)
      refine HCALL.out.mono ?_
      rintro e w2 ⟨rfl, hb⟩
      have HB2 : Hid (Below w.heap.size w w2) := hI (HB.out.trans (hb.mono HB.out.size))
      clear hb HCALL
      go_wp2_with fail
      go_roundw
      case rel => exact ⟨j + 1, by omega, by go_num, HB2.out⟩
      case measure => simp [intOf]; omega
    · obtain rfl : j = ts.length := by omega
      go_wp2_with fail
      go_ret
      exact ⟨rfl, HB.out⟩
set_option maxRecDepth 100000 in
set_option maxHeartbeats 1000000 in
theorem hasOdd_any (v : Value) (ts : List Tv) (rows : List Value) (w : World) (hs : Sl w 5 v ts.length rows) (ht : TvsF w TF ts rows) (hno : ∀ x ∈ ts, oddT x = false) :
    Calls Try.prog 60 #[v, .func (.func 61) #[] #[]] w fun e w' => e = .returned (.bool false) ∧ Below w.heap.size w w' := by
  have HC := hI (idxOdd_any v ts rows w hs ht hno)
  obtain ⟨a, c, rfl, -, -⟩ := hs.form
  clear hs ht hno
  go_enter Try.func60, Try.ntmps60
  go_wp2_with fail
  refine HC.out.mono ?_
  rintro e w2 ⟨rfl, hb⟩
  have HB := hI hb
  clear hb HC
  go_wp2_with fail
  go_ret
  exact ⟨rfl, HB.out⟩
set_option maxRecDepth 100000 in
set_option maxHeartbeats 2000000 in
theorem eqKinds_any (v kv : Value) (ts : List Tv) (rows : List Value) (w : World) (hs : Sl w 5 v ts.length rows) (ht : TvsF w TF ts rows) (hk : Sl w 1 kv ts.length (ts.map fun x => intC x.kind)) :
    Calls Try.prog 62 #[v, kv, .func (.func 63) #[] #[]] w fun e w' => e = .returned (.bool true) ∧ Below w.heap.size w w' := by
  obtain ⟨a, c, rfl, hc, hm⟩ := hs.form
  obtain ⟨ka, kc, rfl, hkc, hkm⟩ := hk.form
  have HS := hI hs
  have HT := hI ht
  have HK := hI hk
  unfold maxLen at hm hkm
  clear hs ht hk
  go_enter Try.func62, Try.ntmps62
  go_wp2_with fail
  go_loopw [17] (fun i wr => ∃ j : Nat, j ≤ ts.length ∧ i = .int .i64 j ∧ Below w.heap.size w wr) (fun i _ => ts.length - (intOf i).toNat)
  case atStart => exact ⟨0, Nat.zero_le _, rfl, Below.refl _ _⟩
  case round =>
    obtain ⟨j, hj, rfl, hB⟩ := hrel
    have HB := hI hB
    by_cases hlt : j < ts.length
    · obtain ⟨bl, ol, rfl, _⟩ := HS.out.addr (by rw [HS.out.1]; omega)
      obtain ⟨r, hr, hrc⟩ := HT.out.cells HS.out j hlt
      have hcr : CellsAt wr bl (ol + j * 5) r := fun i u hi => below_cell hB (hrc i u hi)
      obtain ⟨kb, ko, rfl, hkcell⟩ := HK.out.addr (by rw [List.length_map]; omega)
      have hkj := below_cell hB (hkcell j (intC ts[j].kind) (by rw [List.getElem?_map, List.getElem?_eq_getElem hlt]; rfl))
      unfold intC at hkj
      have hji : (j : Int) < ts.length := by omega
      have hrl := hr.length
      have HRL := hI hrl
      have HCR := hI hcr
      have HN := hI (Blk.new wr zs5 76)
      have HX := hI (hr.below hB)
      have HX1 := hI hr.one
      have hle := hB.size
      obtain ⟨x, hx⟩ : ∃ x, x = ts[j] := ⟨_, rfl⟩
      rw [← hx] at hkj HX
      have HKJ := hI hkj
      clear hr hrc hcr hrl hB hkcell hx hkj
      go_wp2_with (first | ((with_reducible show wpList _ _ _ (⟨some 21, _, _, _, _, _⟩ :: _) _ _); refine wpList_ldAgg rfl (.tmp 20) aggDer rfl rfl (cs := r) HRL.out HCR.out ?_) | ((with_reducible show wpList _ _ _ (⟨none, .store _ (.tmp 8) (.tmp 21), _, _, _, _⟩ :: _) _ _); refine wpList_stAgg rfl (.tmp 8) (.tmp 21) aggDer rfl rfl (vs := r) rfl HRL.out HN.out (Nat.le_refl _) HX1.out ?_))
      intro w2 h2 k2
      have h2' : Blk w2 wr.heap.size r 76 := by
        have e : (zs5.take 0 ++ r ++ zs5.drop (0 + 5)) = r := by simp [zs5]
        simpa [zs5] using h2
      have hb2 : Below wr.heap.size wr w2 := ((Below.refl _ _).alloc (Nat.le_refl _) _).trans (k2.below (by omega))
      have HB2 : Hid (Below w.heap.size w w2) := hI (HB.out.trans (hb2.mono hle))
      have HR2 := hI h2'
      have hkj2 := below_cell hb2 HKJ.out
      have HCALL := hI (shape2_any x x.kind r w2 (HX.out.below hb2))
      rw [show (x.kind == x.kind) = true from by simp] at HCALL
      clear h2 k2 h2' hb2
      go_wp2_with ((with_reducible show wpList _ _ _ (⟨some 27, _, _, _, _, _⟩ :: _) _ _); refine wpList_ldAgg rfl (.tmp 8) aggDer rfl rfl (cs := r) HRL.out HR2.out.cellsAll ?_)
      refine HCALL.out.mono ?_
      rintro e w3 ⟨rfl, hb⟩
      have HB3 : Hid (Below w.heap.size w w3) := hI (HB2.out.trans (hb.mono HB2.out.size))
      clear hb HCALL
      go_wp2_with fail
      go_roundw
      case rel => exact ⟨j + 1, by omega, by go_num, HB3.out⟩
      case measure => simp [intOf]; omega
    · obtain rfl : j = ts.length := by omega
      go_wp2_with fail
      go_ret
      exact ⟨rfl, HB.out⟩
set_option maxRecDepth 100000 in
set_option maxHeartbeats 2000000 in
theorem shape_any (t : Int) (ts : List Tv) (cs : List Value) (kv : Value) (w : World) (h : TvF w TF (wordT t ts) cs) (hk : Sl w 1 kv ts.length (ts.map fun x => intC x.kind)) (hno : ∀ x ∈ ts, oddT x = false) :
    Calls Try.prog 45 #[.agg cs.toArray, kv] w fun e w' => e = .returned (.bool true) ∧ Below w.heap.size w w' := by
  obtain ⟨bv, lv, rows, rfl, hb, -, hl, -, hts⟩ := h.open_
  obtain ⟨ab, cb, rfl, -, -⟩ := hb.form
  obtain ⟨al, cl, rfl, hcl, hml⟩ := hl.form
  obtain ⟨ka, kc, rfl, hkc, hkm⟩ := hk.form
  simp only [Tv.kind, Tv.tag, Tv.n, Tv.b, Tv.l, wordT] at hl hts hcl hml ⊢
  unfold maxLen at hml hkm
  obtain ⟨w1, hw1⟩ : ∃ w1, w1 = w.alloc (.cells #[.int .i64 2, .int .i64 t, .int .u64 ((0 : Nat) : Int), .slice ab ([] : List UInt8).length cb, .slice al ts.length cl] 76) := ⟨_, rfl⟩
  have hb1 : Below w.heap.size w w1 := by rw [hw1]; exact (Below.refl _ _).alloc (Nat.le_refl _) _
  have HB1 := hI hb1
  have HO := hI (hasOdd_any _ ts rows w1 (hl.below hb1) (hts.below hb1) hno)
  have HL := hI (hl.below hb1)
  have HTS := hI (hts.below hb1)
  have HK := hI (hk.below hb1)
  have HN : Hid (Blk w1 w.heap.size [.int .i64 2, .int .i64 t, .int .u64 ((0 : Nat) : Int), .slice ab ([] : List UInt8).length cb, .slice al ts.length cl] 76) := hI (by rw [hw1]; exact Blk.new _ _ _)
  have HW := hI hw1
  clear h hb hl hts hk hno hb1 hw1
  go_enter Try.func45, Try.ntmps45
  go_upto_region 3 with fail
  show Code.wp _ _ _ _ (w.alloc (.cells #[.int .i64 2, .int .i64 t, .int .u64 ((0 : Nat) : Int), .slice ab ([] : List UInt8).length cb, .slice al ts.length cl] 76))
  rw [← HW.out]
  have c4 : w1.cell? ⟨w.heap.size, 4, none⟩ = some (.slice al ts.length cl) := HN.out.cell 4
  have hlt := HN.out.lt
  clear HW
  go_wp2_with fail
  refine HO.out.mono ?_
  rintro e w2 ⟨rfl, hb⟩
  have HB2 : Hid (Below w.heap.size w w2) := hI (HB1.out.trans (hb.mono HB1.out.size))
  have c42 : w2.cell? ⟨w.heap.size, 4, none⟩ = some (.slice al ts.length cl) := (HN.out.below hb hlt).cell 4
  have HE := hI (eqKinds_any _ _ ts rows w2 (HL.out.below hb) (HTS.out.below hb) (HK.out.below hb))
  clear hb HO c4
  go_wp2_with fail
  refine HE.out.mono ?_
  rintro e w3 ⟨rfl, hb⟩
  have HB3 : Hid (Below w.heap.size w w3) := hI (HB2.out.trans (hb.mono HB2.out.size))
  clear hb HE
  go_wp2_with fail
  go_ret
  exact ⟨rfl, HB3.out⟩
end Go.Proofs.Ytiplepdmkbiehaa
namespace Go.Proofs.Ytiplepdmkbiehaa
set_option linter.unusedSimpArgs false
set_option linter.unusedVariables false
open Go.RowKit Go.Maps Go.MapKept Go.WideMaps
abbrev Sums := List (List UInt8)
def answerA (t : Sums) (A : AppF) (id : Int) (yes : Bool) : Sums × AppF × Int :=
  if hasV A.ins id = false then (t, A, 9)
  else if (getV A.ins id InF.nil).st ≠ 0 then (t, A, 16)
  else if 16 ≤ A.waits.length then (t, A, 8)
  else if yes = false then (t, sayA { A with ins := setV A.ins id (inRefuse (getV A.ins id InF.nil)).1 } (enc 3 [numT id.toNat, numT 0]), 0)
  else ((inAccept t (getV A.ins id InF.nil)).1, endedA { (sayA A (enc 3 [numT id.toNat, numT 1])) with ins := setV A.ins id (inAccept t (getV A.ins id InF.nil)).2.1 } id (inAccept t (getV A.ins id InF.nil)).2.1 (inAccept t (getV A.ins id InF.nil)).2.2, 0)
/-- A file that comes is no larger than files are. -/
structure InOk (i : InF) : Prop where
  s0 : 0 ≤ i.size
  s1 : i.size ≤ 2048
  d : i.data.length ≤ i.size
  sum : i.sum.length ≤ 1099511627776
theorem inWhole_data (t : Sums) (i : InF) : (inWhole t i).2.1.data = i.data := by
  unfold inWhole
  split
  · rfl
  · split <;> rfl
theorem inAccept_data (t : Sums) (i : InF) : (inAccept t i).2.1.data = i.data := by
  unfold inAccept
  split
  · rfl
  · exact inWhole_data t _
/-- Two numbers, as a list of values. -/
theorem two_nums (w : World) (m n : Nat) : TvsF w TF [numT m, numT n] [.int .i64 0, .int .i64 0, .int .u64 m, .slice none 0 0, .slice none 0 0, .int .i64 0, .int .i64 0, .int .u64 n, .slice none 0 0, .slice none 0 0] :=
  ⟨[.int .i64 0, .int .i64 0, .int .u64 m, .slice none 0 0, .slice none 0 0], [.int .i64 0, .int .i64 0, .int .u64 n, .slice none 0 0, .slice none 0 0], rfl, tvf_num w m, [.int .i64 0, .int .i64 0, .int .u64 n, .slice none 0 0, .slice none 0 0], [], rfl, tvf_num w n, rfl⟩
set_option maxRecDepth 100000 in
set_option maxHeartbeats 4000000 in
theorem appAnswer_any (a q : Nat) (P : List Nat × List Nat) (kv bv mp : Value) (t : Sums) (A : AppF) (id : Int) (yes : Bool) (l : List Res) (w : World) (h : Hold w (appR a q P A :: tabR q kv bv mp t :: l)) (h64 : -9223372036854775808 ≤ id ∧ id ≤ 9223372036854775807)
    (hid : hasV A.ins id = true → 0 ≤ id ∧ id ≤ 1099511627776 ∧ InOk (getV A.ins id InF.nil)) (hn : A.waits.length ≤ 1099511627776) (hl : A.log.length ≤ 1099511627776) (ht : t.length < 1099511627776) :
    Calls Try.prog 11 #[.pointer (some ⟨a, 0, none⟩), .int .i64 id, .bool yes] w fun e w' => e = .returned (.int .i64 (answerA t A id yes).2.2) ∧ Hold w' (appR a q P (answerA t A id yes).2.1 :: tabR q kv bv mp (answerA t A id yes).1 :: l) := by
  have HC0 := hI h
  obtain ⟨ob, ib, nb, hat⟩ := appR_at h
  have HAT := hI hat
  have c3 := hat.c3
  have HK := hI (kI_key h64)
  obtain ⟨K, hK⟩ : ∃ K, K = hasV A.ins id := ⟨_, rfl⟩
  have HKN := hI hK
  have HV : Hid (hasV (ptrM P.2 A.ins) id = K) := hI (by rw [hat.inHas, hK])
  have HN := hI hn
  have HL := hI hl
  have HT := hI ht
  cases K with
  | false =>
    have HR : Hid (answerA t A id yes = (t, A, 9)) := hI (by rw [answerA, if_pos HKN.out.symm])
    rw [HR.out]
    clear h hat hK hn hl ht hid
    go_enter Try.func11, Try.ntmps11
    go_wp2_with (at_lookup; refine wpList_lookupV_ok _ rfl _ _ _ rfl 2 86 intK kI_inj Try.underlying62 (zIn _) ib _ rfl HAT.out.m3 id HK.out ?_; rw [HV.out])
    go_ret
    exact ⟨rfl, HC0.out⟩
  | true =>
    obtain ⟨hi0, hi1, hok⟩ := hid hK.symm
    obtain ⟨p, R, hp, h1, hback⟩ := appR_in id h hK.symm
    obtain ⟨i, hi⟩ : ∃ i, i = getV A.ins id InF.nil := ⟨_, rfl⟩
    have HI := hI hi
    rw [← hi] at h1 hok
    have HP := hI hp
    have HB := hI hback
    have HF := hI h1
    have HOK := hI hok
    obtain ⟨st, size, sum, data⟩ := i
    obtain ⟨_, _, _, _, -, -, -, -, h2⟩ := inR_open h1
    have cp : w.cell? ⟨p, 0, none⟩ = some (.int .i64 st) := h2.blk0.cell 0
    clear h hat hK hn hl ht hid hp hback h1 h2 hi hok
    by_cases hst : st = 0
    rotate_left
    · have HR : Hid (answerA t A id yes = (t, A, 16)) := hI (by rw [answerA, if_neg (by rw [← HKN.out]; decide), ← HI.out, if_pos hst])
      have hst' : (st != 0) = true := by simpa using hst
      rw [HR.out]
      clear hst
      go_enter Try.func11, Try.ntmps11
      go_wp2_with (at_lookup; refine wpList_lookupV_ok _ rfl _ _ _ rfl 2 86 intK kI_inj Try.underlying62 (zIn _) ib _ rfl HAT.out.m3 id HK.out ?_; rw [HV.out, HP.out])
      go_ret
      exact ⟨rfl, HC0.out⟩
    subst hst
    by_cases hf : 16 ≤ A.waits.length
    · have HR : Hid (answerA t A id yes = (t, A, 8)) := hI (by rw [answerA, if_neg (by rw [← HKN.out]; decide), ← HI.out, if_neg (by simp), if_pos hf])
      have hfd : decide (16 ≤ A.waits.length) = true := by simpa using hf
      rw [HR.out]
      clear hf
      go_enter Try.func11, Try.ntmps11
      go_wp2_with (at_lookup; refine wpList_lookupV_ok _ rfl _ _ _ rfl 2 86 intK kI_inj Try.underlying62 (zIn _) ib _ rfl HAT.out.m3 id HK.out ?_; rw [HV.out, HP.out])
      refine (appFull_any a q P A _ w HC0.out).mono ?_
      rintro e w1 ⟨rfl, hc⟩
      have HC := hI hc
      clear hc
      rw [hfd]
      go_wp2_with fail
      go_ret
      exact ⟨rfl, HC.out⟩
    · have hfd : decide (16 ≤ A.waits.length) = false := by simpa using hf
      have hw : IntKind.u64.wrap id = id := by rw [IntKind.wrap_u64]; omega
      obtain ⟨n, rfl⟩ : ∃ n : Nat, id = n := ⟨id.toNat, by omega⟩
      cases yes with
      | false =>
        have HR : Hid (answerA t A n false = (t, sayA { A with ins := setV A.ins n ⟨3, size, sum, data⟩ } (enc 3 [numT n, numT 0]), 0)) := hI (by rw [answerA, if_neg (by rw [← HKN.out]; decide), ← HI.out, if_neg (by simp), if_neg hf, if_pos rfl]; rfl)
        rw [HR.out]
        clear hf
        go_enter Try.func11, Try.ntmps11
        go_wp2_with (at_lookup; refine wpList_lookupV_ok _ rfl _ _ _ rfl 2 86 intK kI_inj Try.underlying62 (zIn _) ib _ rfl HAT.out.m3 _ HK.out ?_; rw [HV.out, HP.out])
        refine (appFull_any a q P A _ w HC0.out).mono ?_
        rintro e w1 ⟨rfl, hc⟩
        obtain ⟨R1, hf1, hb1⟩ := appR_inP hc HKN.out.symm HP.out
        rw [← HI.out] at hf1
        have HB1 := hI hb1
        have HF1 := hI hf1
        clear hc hf1 hb1 HB HF
        rw [hfd]
        go_wp2_with fail
        refine (inRefuse_any p _ _ w1 HF1.out).mono ?_
        rintro e w2 ⟨rfl, hc⟩
        have HC := hI (HB1.out w2 _ _ hc)
        clear hc HB1 HF1
        go_wp2_with fail
        refine (derNum_any n w2).mono ?_
        rintro e w3 ⟨rfl, hb⟩
        have HC := hI (HC.out.step hb)
        clear hb
        go_wp2_with fail
        refine (derNum_any 0 w3).mono ?_
        rintro e w4 ⟨rfl, hb⟩
        have HSAY := hI (appSay_word a q P _ 3 (.slice (some ⟨w4.heap.size, 0, none⟩) 2 2) [numT n, numT 0] _ _ (w4.alloc (.cells #[.int .i64 0, .int .i64 0, .int .u64 n, .slice none 0 0, .slice none 0 0, .int .i64 0, .int .i64 0, .int .u64 0, .slice none 0 0, .slice none 0 0] 76)) ((HC.out.step hb).alloc _) (Sl.lit rfl rfl (by simp [Value.oneCell']) (by unfold maxLen; decide)) (two_nums _ n 0) (wordOk (by decide) (by decide) (by simp) (by intro x hx; simp only [List.mem_cons, List.not_mem_nil, or_false] at hx; rcases hx with rfl | rfl <;> exact LeafT.num (by omega))) HN.out)
        clear hb HC
        go_wp2_with fail
        refine HSAY.out.mono ?_
        rintro e w5 ⟨rfl, hc⟩
        have HC := hI hc
        clear hc HSAY
        go_wp2_with fail
        go_ret
        exact ⟨rfl, HC.out⟩
      | true =>
        obtain ⟨r, hr⟩ : ∃ r, r = inAccept t ⟨0, size, sum, data⟩ := ⟨_, rfl⟩
        have HR : Hid (answerA t A n true = (r.1, endedA { (sayA A (enc 3 [numT n, numT 1])) with ins := setV A.ins n r.2.1 } n r.2.1 r.2.2, 0)) := hI (by rw [answerA, if_neg (by rw [← HKN.out]; decide), ← HI.out, if_neg (by simp), if_neg hf, if_neg (by decide), hr]; rfl)
        have HRD : Hid (r.2.1.data.length ≤ 2048) := hI (by rw [hr, inAccept_data]; have h1 := HOK.out.d; have h2 := HOK.out.s1; simp only at h1 h2 ⊢; omega)
        have HRR := hI hr
        rw [HR.out]
        clear hf hr
        go_enter Try.func11, Try.ntmps11
        go_wp2_with (at_lookup; refine wpList_lookupV_ok _ rfl _ _ _ rfl 2 86 intK kI_inj Try.underlying62 (zIn _) ib _ rfl HAT.out.m3 _ HK.out ?_; rw [HV.out, HP.out])
        refine (appFull_any a q P A _ w HC0.out).mono ?_
        rintro e w1 ⟨rfl, hc⟩
        have HC := hI hc
        clear hc HB HF
        rw [hfd]
        go_wp2_with fail
        refine (derNum_any n w1).mono ?_
        rintro e w3 ⟨rfl, hb⟩
        have HC := hI (HC.out.step hb)
        clear hb
        go_wp2_with fail
        refine (derNum_any 1 w3).mono ?_
        rintro e w4 ⟨rfl, hb⟩
        have HSAY := hI (appSay_word a q P _ 3 (.slice (some ⟨w4.heap.size, 0, none⟩) 2 2) [numT n, numT 1] _ _ (w4.alloc (.cells #[.int .i64 0, .int .i64 0, .int .u64 n, .slice none 0 0, .slice none 0 0, .int .i64 0, .int .i64 0, .int .u64 1, .slice none 0 0, .slice none 0 0] 76)) ((HC.out.step hb).alloc _) (Sl.lit rfl rfl (by simp [Value.oneCell']) (by unfold maxLen; decide)) (two_nums _ n 1) (wordOk (by decide) (by decide) (by simp) (by intro x hx; simp only [List.mem_cons, List.not_mem_nil, or_false] at hx; rcases hx with rfl | rfl <;> exact LeafT.num (by omega))) HN.out)
        clear hb HC
        go_wp2_with fail
        refine HSAY.out.mono ?_
        rintro e w5 ⟨rfl, hc⟩
        obtain ⟨_, _, _, hat5⟩ := appR_at hc
        have c05 : w5.cell? ⟨a, 0, none⟩ = some (.iface 55 (.pointer (some ⟨q, 0, none⟩))) := hat5.c0
        obtain ⟨R1, hf1, hb1⟩ := appR_inP (k := n) hc HKN.out.symm HP.out
        have hf1 : Hold w5 (inR p (getV A.ins n InF.nil) :: R1 :: _) := hf1
        rw [← HI.out] at hf1
        have HACC := hI (inAccept_any p q kv bv mp t ⟨0, size, sum, data⟩ (R1 :: l) w5 hf1.pull3.swap (by have h1 := HOK.out.d; have h2 := HOK.out.s1; simp only at h1 h2 ⊢; omega) HOK.out.sum HT.out HOK.out.s0 HOK.out.s1)
        rw [← HRR.out] at HACC
        have HB1 := hI hb1
        clear hc hat5 hf1 hb1 HSAY
        go_wp2_with fail
        refine HACC.out.mono ?_
        rintro e w6 ⟨rfl, hc⟩
        have h6 := HB1.out w6 _ _ hc.pull3.swap
        have HEN := hI (appEnded_any a q P _ n r.2.2 p _ w6 h6 (by rw [show ({ (sayA A (enc 3 [numT n, numT 1])) with ins := setV (sayA A (enc 3 [numT n, numT 1])).ins n r.2.1 } : AppF).ins = setV A.ins n r.2.1 from rfl, hasV_set]; exact HKN.out.symm) (by rw [show ({ (sayA A (enc 3 [numT n, numT 1])) with ins := setV (sayA A (enc 3 [numT n, numT 1])).ins n r.2.1 } : AppF).ins = setV A.ins n r.2.1 from rfl, ptrM_set]; exact HP.out) (by
          rw [show ({ (sayA A (enc 3 [numT n, numT 1])) with ins := setV (sayA A (enc 3 [numT n, numT 1])).ins n r.2.1 } : AppF).ins = setV A.ins n r.2.1 from rfl, getV_set, if_pos ⟨rfl, HKN.out.symm⟩]
          exact HRD.out) HL.out)
        have e1 : getV (setV A.ins n r.2.1) n InF.nil = r.2.1 := by rw [getV_set, if_pos ⟨rfl, HKN.out.symm⟩]
        have HE1 := hI e1
        clear hc h6 e1 HACC HB1
        go_wp2_with fail
        refine HEN.out.mono ?_
        rintro e w7 ⟨rfl, hc⟩
        have hc : Hold w7 (appR a q P (endedA { (sayA A (enc 3 [numT n, numT 1])) with ins := setV A.ins n r.2.1 } n (getV (setV A.ins n r.2.1) n InF.nil) r.2.2) :: _) := hc
        rw [HE1.out] at hc
        have HC := hI hc
        clear hc HEN
        go_wp2_with fail
        go_ret
        exact ⟨rfl, HC.out⟩
end Go.Proofs.Ytiplepdmkbiehaa
