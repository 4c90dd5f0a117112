/- Texts of this proof, one behind the other: AppO, AppF, AppP, AppX, AppK, AppWd, AppPop. -/
import Derived.Test.YtiplepdmkbiehaaAeA5
import Derived.StillTailTactics
namespace Go.Proofs.Ytiplepdmkbiehaa
set_option linter.unusedSimpArgs false
set_option linter.unusedVariables false
open Go.RowKit Go.Maps Go.MapKept Go.WideMaps
/-- What is told of a file of one's own. -/
def tellA (A : AppF) (k id : Int) : AppF := hapA A ⟨k, id, getV A.names id ⟨#[]⟩, []⟩
def overA (A : AppF) (id : Int) (o : OutF) : AppF := if o.st = 2 then tellA A 4 id else A
set_option maxRecDepth 100000 in
set_option maxHeartbeats 2000000 in
theorem appOver_any (a q : Nat) (P : List Nat × List Nat) (A : AppF) (id : Int) (p : Nat) (l : List Res) (w : World) (h : Hold w (appR a q P A :: l)) (hk : hasV A.outs id = true) (hp : getV (ptrM P.1 A.outs) id (.pointer none) = .pointer (some ⟨p, 0, none⟩))
    (h64 : -9223372036854775808 ≤ id ∧ id ≤ 9223372036854775807) (hn : A.log.length ≤ 1099511627776) :
    Calls Try.prog 67 #[.pointer (some ⟨a, 0, none⟩), .int .i64 id, .pointer (some ⟨p, 0, none⟩)] w fun en w' => en = .returned (.tuple #[]) ∧ Hold w' (appR a q P (overA A id (getV A.outs id OutF.nil)) :: l) := by
  have HC0 := hI h
  obtain ⟨ob, ib, nb, hat⟩ := appR_at h
  have HAT := hI hat
  have c4 := hat.c4
  have HK := hI (kI_key h64)
  obtain ⟨R, h1, -⟩ := appR_outP h hk hp
  obtain ⟨o, ho⟩ : ∃ o, o = getV A.outs id OutF.nil := ⟨_, rfl⟩
  rw [← ho] at h1 ⊢
  obtain ⟨st, data, sent, ahead⟩ := o
  obtain ⟨_, _, -, -, h1⟩ := outR_open h1
  have c0 : w.cell? ⟨p, 0, none⟩ = some (.int .i64 st) := h1.blk0.cell 0
  have HHAP := hI (appHappen_any a q P A 4 id (getV A.names id ⟨#[]⟩) (.slice none 0 0) [] l w h.addNilRow.swap hn)
  have HNM := hI (namV_get A.names id)
  clear h hat h1 ho hk hp hn
  by_cases hs : st = 2
  · subst hs
    have HE : Hid (overA A id ⟨2, data, sent, ahead⟩ = tellA A 4 id) := hI (by rw [overA, if_pos rfl])
    rw [HE.out]
    go_enter Try.func67, Try.ntmps67
    go_wp2_with (at_lookup; refine wpList_lookupV _ rfl _ _ _ rfl 2 9 intK kI_inj Try.underlying63 (zStr _) nb _ rfl HAT.out.m4 id HK.out ?_; rw [HNM.out])
    refine HHAP.out.mono ?_
    rintro e w2 ⟨rfl, hc⟩
    have HC := hI hc
    clear hc HHAP
    go_wp2_with fail
    go_end0
    exact ⟨rfl, HC.out⟩
  · have HE : Hid (overA A id ⟨st, data, sent, ahead⟩ = A) := hI (by rw [overA, if_neg hs])
    have hs' : (st == 2) = false := by simpa using hs
    rw [HE.out]
    clear hs HHAP
    go_enter Try.func67, Try.ntmps67
    go_wp2_with fail
    go_end0
    exact ⟨rfl, HC0.out⟩
/-- A file that is sent is no larger than files are. -/
structure OutOk (o : OutF) : Prop where
  d : o.data.length ≤ 2048
  s : o.sent ≤ o.data.length
  a : o.ahead ≤ 4
theorem outCame_any (p : Nat) (o : OutF) (l : List Res) (w : World) (h : Hold w (outR p o :: l)) (hok : OutOk o) :
    Calls Try.prog 69 #[.pointer (some ⟨p, 0, none⟩)] w (NumRes (outCame o).2 (outR p (outCame o).1 :: l)) := by
  by_cases h0 : o.st ≠ 1 ∨ o.ahead = 0
  · have := came_no p o l w h h0
    rw [show outCame o = (o, 16) from by rw [outCame, if_pos h0]]
    exact this
  · exact came_yes p o l w h (by omega) (by omega) hok.a hok.s hok.d
def tookA (A : AppF) (id : Int) (k : Int) (r : OutF × Int) : AppF × Int :=
  if r.2 = 0 then (tellA { A with outs := setV A.outs id r.1 } k id, 0) else ({ A with outs := setV A.outs id r.1 }, r.2)
def answeredA (A : AppF) (id : Int) (yes : Bool) : AppF × Int :=
  if hasV A.outs id = false then (A, 9)
  else if yes = false then tookA A id 3 (outTurn (getV A.outs id OutF.nil) 3)
  else if (outTurn (getV A.outs id OutF.nil) 1).2 = 0 then (overA (tookA A id 2 (outTurn (getV A.outs id OutF.nil) 1)).1 id (outTurn (getV A.outs id OutF.nil) 1).1, 0)
  else tookA A id 2 (outTurn (getV A.outs id OutF.nil) 1)
def cameA (A : AppF) (id : Int) : AppF × Int :=
  if hasV A.outs id = false then (A, 9)
  else if (outCame (getV A.outs id OutF.nil)).2 = 0 then (overA { A with outs := setV A.outs id (outCame (getV A.outs id OutF.nil)).1 } id (outCame (getV A.outs id OutF.nil)).1, 0)
  else ({ A with outs := setV A.outs id (outCame (getV A.outs id OutF.nil)).1 }, (outCame (getV A.outs id OutF.nil)).2)
set_option maxRecDepth 100000 in
set_option maxHeartbeats 4000000 in
theorem appCame_any (a q : Nat) (P : List Nat × List Nat) (A : AppF) (id : Int) (l : List Res) (w : World) (h : Hold w (appR a q P A :: l)) (h64 : -9223372036854775808 ≤ id ∧ id ≤ 9223372036854775807)
    (hid : hasV A.outs id = true → OutOk (getV A.outs id OutF.nil)) (hl : A.log.length ≤ 1099511627776) :
    Calls Try.prog 50 #[.pointer (some ⟨a, 0, none⟩), .int .i64 id] w fun e w' => e = .returned (.int .i64 (cameA A id).2) ∧ Hold w' (appR a q P (cameA A id).1 :: l) := by
  have HC0 := hI h
  obtain ⟨ob, ib, nb, hat⟩ := appR_at h
  have HAT := hI hat
  have c2 := hat.c2
  have HK := hI (kI_key h64)
  obtain ⟨K, hK⟩ : ∃ K, K = hasV A.outs id := ⟨_, rfl⟩
  have HKN := hI hK
  have HV : Hid (hasV (ptrM P.1 A.outs) id = K) := hI (by rw [hat.outHas, hK])
  have HL := hI hl
  cases K with
  | false =>
    have HR : Hid (cameA A id = (A, 9)) := hI (by rw [cameA, if_pos HKN.out.symm])
    rw [HR.out]
    clear h hat hK hl hid
    go_enter Try.func50, Try.ntmps50
    go_wp2_with (at_lookup; refine wpList_lookupV_ok _ rfl _ _ _ rfl 2 66 intK kI_inj Try.underlying61 (zOut _) ob _ rfl HAT.out.m2 id HK.out ?_; rw [HV.out])
    go_ret
    exact ⟨rfl, HC0.out⟩
  | true =>
    have hok := hid hK.symm
    obtain ⟨p, _, hp, _, _⟩ := appR_out id h hK.symm
    obtain ⟨R, h1, hback⟩ := appR_outP h hK.symm hp
    obtain ⟨r, hr⟩ : ∃ r, r = outCame (getV A.outs id OutF.nil) := ⟨_, rfl⟩
    have HP := hI hp
    have HB := hI hback
    have HTK := hI (outCame_any p _ _ w h1 hok)
    rw [← hr] at HTK
    have HRR := hI hr
    have HCA : Hid (cameA A id = if r.2 = 0 then (overA { A with outs := setV A.outs id r.1 } id r.1, 0) else ({ A with outs := setV A.outs id r.1 }, r.2)) := hI (by rw [cameA, if_neg (by rw [← HKN.out]; decide), ← hr])
    clear h hat hK hl hid hp hback h1 hok hr
    obtain ⟨o2, e2⟩ := r
    simp only at HTK HRR HCA
    go_enter Try.func50, Try.ntmps50
    go_wp2_with (at_lookup; refine wpList_lookupV_ok _ rfl _ _ _ rfl 2 66 intK kI_inj Try.underlying61 (zOut _) ob _ rfl HAT.out.m2 id HK.out ?_; rw [HV.out, HP.out])
    refine HTK.out.mono ?_
    rintro e w1 ⟨rfl, hc⟩
    have h1 := HB.out w1 _ _ hc
    have HC := hI h1
    have e3 : getV (setV A.outs id o2) id OutF.nil = o2 := by rw [getV_set, if_pos ⟨rfl, HKN.out.symm⟩]
    have hov := appOver_any a q P { A with outs := setV A.outs id o2 } id p _ w1 h1 (by rw [show ({ A with outs := setV A.outs id o2 } : AppF).outs = setV A.outs id o2 from rfl, hasV_set]; exact HKN.out.symm) (by rw [show ({ A with outs := setV A.outs id o2 } : AppF).outs = setV A.outs id o2 from rfl, ptrM_set]; exact HP.out) h64 HL.out
    rw [show ({ A with outs := setV A.outs id o2 } : AppF).outs = setV A.outs id o2 from rfl, e3] at hov
    have HOV := hI hov
    clear hc h1 e3 hov HB HTK
    by_cases he : e2 = 0
    · subst he
      go_wp2_with fail
      refine HOV.out.mono ?_
      rintro e w7 ⟨rfl, hc⟩
      have HC := hI hc
      clear hc HOV
      go_wp2_with fail
      go_ret
      rw [HCA.out]; first | rw [if_pos rfl] | rw [if_pos trivial]
      exact ⟨rfl, HC.out⟩
    · have he' : (e2 == 0) = false := by simpa using he
      have HE := hI he
      clear he HOV
      go_wp2_with fail
      go_ret
      rw [HCA.out, if_neg HE.out]
      exact ⟨rfl, HC.out⟩
set_option maxRecDepth 100000 in
set_option maxHeartbeats 4000000 in
theorem appAnswered_any (a q : Nat) (P : List Nat × List Nat) (A : AppF) (id : Int) (yes : Bool) (l : List Res) (w : World) (h : Hold w (appR a q P A :: l)) (h64 : -9223372036854775808 ≤ id ∧ id ≤ 9223372036854775807)
    (hid : hasV A.outs id = true → OutOk (getV A.outs id OutF.nil)) (hl : A.log.length ≤ 1099511627775) :
    Calls Try.prog 48 #[.pointer (some ⟨a, 0, none⟩), .int .i64 id, .bool yes] w fun e w' => e = .returned (.int .i64 (answeredA A id yes).2) ∧ Hold w' (appR a q P (answeredA A id yes).1 :: l) := by
  have HC0 := hI h
  obtain ⟨ob, ib, nb, hat⟩ := appR_at h
  have HAT := hI hat
  have c2 := hat.c2
  have HK := hI (kI_key h64)
  obtain ⟨K, hK⟩ : ∃ K, K = hasV A.outs id := ⟨_, rfl⟩
  have HKN := hI hK
  have HV : Hid (hasV (ptrM P.1 A.outs) id = K) := hI (by rw [hat.outHas, hK])
  have HL := hI hl
  have HNM := hI (namV_get A.names id)
  cases K with
  | false =>
    have HR : Hid (answeredA A id yes = (A, 9)) := hI (by rw [answeredA, if_pos HKN.out.symm])
    rw [HR.out]
    clear h hat hK hl hid
    go_enter Try.func48, Try.ntmps48
    go_wp2_with (at_lookup; refine wpList_lookupV_ok _ rfl _ _ _ rfl 2 66 intK kI_inj Try.underlying61 (zOut _) ob _ rfl HAT.out.m2 id HK.out ?_; rw [HV.out])
    go_ret
    exact ⟨rfl, HC0.out⟩
  | true =>
    have hok := hid hK.symm
    obtain ⟨p, _, hp, _, _⟩ := appR_out id h hK.symm
    obtain ⟨R, h1, hback⟩ := appR_outP h hK.symm hp
    have HP := hI hp
    have HB := hI hback
    cases yes with
    | false =>
      obtain ⟨r, hr⟩ : ∃ r, r = outTurn (getV A.outs id OutF.nil) 3 := ⟨_, rfl⟩
      have HTK := hI (outRefuse_any p _ _ w h1 hok.d)
      rw [← hr] at HTK
      have HCA : Hid (answeredA A id false = tookA A id 3 r) := hI (by rw [answeredA, if_neg (by rw [← HKN.out]; decide), if_pos rfl, ← hr])
      rw [HCA.out]
      clear h hat hK hl hid hp hback h1 hok hr
      obtain ⟨o2, e2⟩ := r
      simp only at HTK ⊢
      go_enter Try.func48, Try.ntmps48
      go_wp2_with (at_lookup; refine wpList_lookupV_ok _ rfl _ _ _ rfl 2 66 intK kI_inj Try.underlying61 (zOut _) ob _ rfl HAT.out.m2 id HK.out ?_; rw [HV.out, HP.out])
      refine HTK.out.mono ?_
      rintro e w1 ⟨rfl, hc⟩
      have h1 := HB.out w1 _ _ hc
      have HC := hI h1
      obtain ⟨ob1, ib1, nb1, hat1⟩ := appR_at h1
      have HAT1 := hI hat1
      have c41 := hat1.c4
      have HHAP := hI (appHappen_any a q P { A with outs := setV A.outs id o2 } 3 id (getV A.names id ⟨#[]⟩) (.slice none 0 0) [] l w1 h1.addNilRow.swap (by have := HL.out; show A.log.length ≤ _; omega))
      clear hc h1 hat1 HB HTK
      by_cases he : e2 = 0
      · subst he
        go_wp2_with (at_lookup; refine wpList_lookupV _ rfl _ _ _ rfl 2 9 intK kI_inj Try.underlying63 (zStr _) nb1 _ rfl HAT1.out.m4 id HK.out ?_; rw [HNM.out])
        refine HHAP.out.mono ?_
        rintro e w7 ⟨rfl, hc⟩
        have HC := hI hc
        clear hc HHAP
        go_wp2_with fail
        go_ret
        exact ⟨rfl, HC.out⟩
      · have he' : (e2 == 0) = false := by simpa using he
        have HT : Hid (tookA A id 3 (o2, e2) = ({ A with outs := setV A.outs id o2 }, e2)) := hI (by rw [tookA, if_neg he])
        clear he HHAP
        go_wp2_with fail
        go_ret
        rw [HT.out]
        exact ⟨rfl, HC.out⟩
    | true =>
      obtain ⟨r, hr⟩ : ∃ r, r = outTurn (getV A.outs id OutF.nil) 1 := ⟨_, rfl⟩
      have HTK := hI (outAccept_any p _ _ w h1 hok.d)
      rw [← hr] at HTK
      have HCA : Hid (answeredA A id true = if r.2 = 0 then (overA (tookA A id 2 r).1 id r.1, 0) else tookA A id 2 r) := hI (by rw [answeredA, if_neg (by rw [← HKN.out]; decide), if_neg (by decide), ← hr])
      clear h hat hK hl hid hp hback h1 hok hr
      obtain ⟨o2, e2⟩ := r
      simp only at HTK HCA
      go_enter Try.func48, Try.ntmps48
      go_wp2_with (at_lookup; refine wpList_lookupV_ok _ rfl _ _ _ rfl 2 66 intK kI_inj Try.underlying61 (zOut _) ob _ rfl HAT.out.m2 id HK.out ?_; rw [HV.out, HP.out])
      refine HTK.out.mono ?_
      rintro e w1 ⟨rfl, hc⟩
      have h1 := HB.out w1 _ _ hc
      have HC := hI h1
      obtain ⟨ob1, ib1, nb1, hat1⟩ := appR_at h1
      have HAT1 := hI hat1
      have c41 := hat1.c4
      have HHAP := hI (appHappen_any a q P { A with outs := setV A.outs id o2 } 2 id (getV A.names id ⟨#[]⟩) (.slice none 0 0) [] l w1 h1.addNilRow.swap (by have := HL.out; show A.log.length ≤ _; omega))
      clear hc h1 hat1 HB HTK
      by_cases he : e2 = 0
      · subst he
        go_wp2_with (at_lookup; refine wpList_lookupV _ rfl _ _ _ rfl 2 9 intK kI_inj Try.underlying63 (zStr _) nb1 _ rfl HAT1.out.m4 id HK.out ?_; rw [HNM.out])
        refine HHAP.out.mono ?_
        rintro e w7 ⟨rfl, hc⟩
        have hc : Hold w7 (appR a q P (tookA A id 2 (o2, 0)).1 :: l) := hc
        have e3 : getV (setV A.outs id o2) id OutF.nil = o2 := by rw [getV_set, if_pos ⟨rfl, HKN.out.symm⟩]
        have hov := appOver_any a q P (tookA A id 2 (o2, 0)).1 id p _ w7 hc (by rw [show (tookA A id 2 (o2, 0)).1.outs = setV A.outs id o2 from rfl, hasV_set]; exact HKN.out.symm) (by rw [show (tookA A id 2 (o2, 0)).1.outs = setV A.outs id o2 from rfl, ptrM_set]; exact HP.out) h64 (by rw [show (tookA A id 2 (o2, 0)).1.log = A.log ++ [⟨2, id, getV A.names id ⟨#[]⟩, []⟩] from rfl]; have := HL.out; simp; omega)
        rw [show (tookA A id 2 (o2, 0)).1.outs = setV A.outs id o2 from rfl, e3] at hov
        have HOV := hI hov
        clear hc HHAP e3 hov
        go_wp2_with fail
        refine HOV.out.mono ?_
        rintro e w8 ⟨rfl, hc⟩
        have HC := hI hc
        clear hc HOV
        go_wp2_with fail
        go_ret
        rw [HCA.out]; first | rw [if_pos rfl] | rw [if_pos trivial]
        exact ⟨rfl, HC.out⟩
      · have he' : (e2 == 0) = false := by simpa using he
        have HT : Hid (tookA A id 2 (o2, e2) = ({ A with outs := setV A.outs id o2 }, e2)) := hI (by rw [tookA, if_neg he])
        have HE := hI he
        clear he HHAP
        go_wp2_with fail
        go_ret
        rw [HCA.out, if_neg HE.out, HT.out]
        exact ⟨rfl, HC.out⟩
def offeredA (A : AppF) (id : Int) (title : ByteArray) (size : Int) (sum : List UInt8) : AppF × Int :=
  if rightB title = false then (A, 6)
  else if hasV A.ins id = true then (A, 10)
  else if liveN (A.ins.map fun x => x.2.st) = 4 then (A, 19)
  else (hapA { A with ins := A.ins ++ [(id, ⟨0, size, sum, []⟩)] } ⟨1, id, title, []⟩, 0)
set_option maxRecDepth 100000 in
set_option maxHeartbeats 4000000 in
theorem appOffered_any (a q : Nat) (P : List Nat × List Nat) (A : AppF) (id : Int) (title : ByteArray) (size : Int) (v : Value) (sum : List UInt8) (l : List Res) (w : World) (h : Hold w (appR a q P A :: l)) (hb : Bs w v sum) (h64 : -9223372036854775808 ≤ id ∧ id ≤ 9223372036854775807)
    (htl : title.size ≤ 1048576) (hs0 : 0 ≤ size) (hs1 : size ≤ 2048) (hsl : sum.length ≤ 1099511627776) (hl : A.log.length ≤ 1099511627776) (hfew : A.ins.length ≤ 1099511627776) :
    Calls Try.prog 47 #[.pointer (some ⟨a, 0, none⟩), .int .i64 id, .string title, .int .i64 size, v] w fun e w' => e = .returned (.int .i64 (offeredA A id title size sum).2) ∧ ∃ P', Hold w' (appR a q P' (offeredA A id title size sum).1 :: l) := by
  obtain ⟨va, vc, rfl, -, -⟩ := hb.form
  have HBS := hI hb
  have HK := hI (kI_key h64)
  have HL := hI hl
  clear hb hl
  obtain ⟨ia, outs, ins, names, waits, log⟩ := A
  obtain ⟨ob, ib, nb, wv, lv, h⟩ := appR_open h
  have cm : w.cell? ⟨a, 3, none⟩ = some (.map (some ib)) := h.blk0.cell 3
  have HBACK : Hid (∀ (W : World) (m : List Res), Hold W (mapV Try.prog 2 kI ib (ptrM P.2 ins) :: ptrsR inR P.2 ins :: Res.all [.blk a [provV q, .int .i64 ia, .map (some ob), .map (some ib), .map (some nb), wv, lv] 65, outsR ob P.1 outs, mapV Try.prog 2 kI nb (namV names), waitsR wv waits, logR lv log] :: m) → Hold W (appR a q P ⟨ia, outs, ins, names, waits, log⟩ :: m)) := hI (fun W m hW => appR_shut ((insR_iff.2 hW).swap |> Hold.app.1 |> Hold.pull6 |> Hold.push3))
  have hlen : P.2.length = ins.length := ptrsR_len (insR_iff.1 h.pull3).swap
  have HC : Hid (Hold w (mapV Try.prog 2 kI ib (ptrM P.2 ins) :: ptrsR inR P.2 ins :: Res.all [.blk a [provV q, .int .i64 ia, .map (some ob), .map (some ib), .map (some nb), wv, lv] 65, outsR ob P.1 outs, mapV Try.prog 2 kI nb (namV names), waitsR wv waits, logR lv log] :: l)) := hI (insR_iff.1 (Hold.app.2 h.pull3.push6).swap)
  have HM := hI (HC.out.mapVOf (b := ib) (M := ptrM P.2 ins) List.mem_cons_self)
  obtain ⟨R, hR⟩ : ∃ R, R = Res.all [.blk a [provV q, .int .i64 ia, .map (some ob), .map (some ib), .map (some nb), wv, lv] 65, outsR ob P.1 outs, mapV Try.prog 2 kI nb (namV names), waitsR wv waits, logR lv log] := ⟨_, rfl⟩
  rw [← hR] at HBACK HC
  have HLEN := hI hlen
  have HFEW : Hid (ins.length ≤ 1099511627776) := hI hfew
  clear h hR hlen hfew
  go_enter Try.func47, Try.ntmps47
  go_wp2_with (at_range; refine wpList_rangeV _ rfl _ 62 rfl 2 86 intK kI_inj Try.underlying62 ib _ rfl HM.out ?_)
  intro w2 left0 hleft hrg hbel
  have HC2 := hI ((HC.out.rngVStart hrg hbel).addNil 3 1)
  obtain ⟨r, hr⟩ : ∃ r, r = w.heap.size := ⟨_, rfl⟩
  rw [← hr] at HC2
  rw [← hr]
  have HR0 : Hid (w.heap.size ≤ r) := hI (by omega)
  have HB2 := hI hbel
  have HL0 : Hid (liveN [] + leftN (·.st) ins left0 = liveN (ins.map fun x => x.2.st)) := hI (by
    rw [leftN_all (fun x hx => by
      rw [hleft, hasV_keys x.1 (ptrM_keys HLEN.out)]
      exact List.any_eq_true.2 ⟨x, hx, by simp⟩)]
    simp [liveN])
  have HCN : Hid (([] : List Int).length + (ptrM P.2 ins).length ≤ ins.length) := hI (by
    have := congrArg List.length (ptrM_keys HLEN.out)
    simp at this
    simp [this])
  clear hrg hbel hleft HM HC hr
  go_wp2_with fail
  go_loopw [11] (fun sv wr => ∃ (acc : List Int) (left : Lit → Bool) (cnt : Nat), Hold wr (.own 3 1 sv acc.length (acc.map intC) :: rngV Try.prog 2 kI ib r (ptrM P.2 ins) left cnt :: ptrsR inR P.2 ins :: R :: l) ∧ (∀ y, sv.ownBlock = some y → w.heap.size ≤ y) ∧ Below w.heap.size w wr ∧
    liveN acc + leftN (·.st) ins left = liveN (ins.map fun x => x.2.st) ∧ acc.length + cnt ≤ ins.length) (fun _ wr => wr.rangeLeft ib r)
  case atStart => exact ⟨[], left0, _, HC2.out, by simp [Value.ownBlock], HB2.out, HL0.out, HCN.out⟩
  case round =>
    obtain ⟨acc, left, cnt, hr, hov, hbl, hsum, hcn⟩ := hrel
    have HCR := hI hr
    have HOV := hI hov
    have HBL := hI hbl
    have HSUM := hI hsum
    have HCNT := hI hcn
    have HRG := hI hr.swap.rngVOf
    obtain ⟨sa, sc, rfl, -, -⟩ := hr.own0.1.sl.form
    clear hr hov hbl hsum hcn HC2 HL0 HB2 HCN
    go_wp2_with (at_next; refine wpList_nextV _ rfl _ rfl 2 intK kI_inj (Value.int .i64) (fun _ _ h => kI_inv h) ib r _ left cnt rfl HRG.out ?_ ?_)
    · intro hc0 hl0
      have HE : Hid (Hold wr (.own 3 1 (.slice sa acc.length sc) acc.length (acc.map intC) :: appR a q P ⟨ia, outs, ins, names, waits, log⟩ :: l)) := hI (HBACK.out _ _ HCR.out.swap.rngVEnd.swap.push4).swap
      have HLV : Hid (liveN acc = liveN (ins.map fun x => x.2.st)) := hI (by have := HSUM.out; rw [leftN_none hl0] at this; exact this)
      clear hc0 hl0 HCR HRG HSUM HCNT
      obtain ⟨ob2, ib2, nb2, hat⟩ := appR_at HE.out.tail
      have HAT := hI hat
      have c32 := hat.c3
      obtain ⟨K, hK⟩ : ∃ K, K = hasV ins id := ⟨_, rfl⟩
      have HKN := hI hK
      have HV : Hid (hasV (ptrM P.2 ins) id = K) := hI (by rw [hK]; exact hat.inHas id)
      have HH := hI (hear_any size _ sum _ wr HE.out (HBS.out.below HBL.out) hsl hs0 hs1)
      obtain ⟨B, hB⟩ : ∃ B, B = rightB title := ⟨_, rfl⟩
      have HB := hI hB
      clear hat hK hB HE
      go_wp2_with (at_lookup; refine wpList_lookupV_ok _ rfl _ _ _ rfl 2 86 intK kI_inj Try.underlying62 (zIn _) ib2 _ rfl HAT.out.m3 id HK.out ?_; rw [HV.out])
      refine HH.out.mono ?_
      rintro e w4 ⟨p, rfl, hc⟩
      have HC4 := hI hc
      have HRT := hI (right_any title w4 (by unfold maxLen; omega))
      rw [← HB.out] at HRT
      clear hc HH
      go_wp2_with fail
      refine HRT.out.mono ?_
      rintro e w5 ⟨rfl, hb⟩
      have HC5 := hI (HC4.out.step hb)
      clear hb HRT HC4
      cases B with
      | false =>
        have HR : Hid (offeredA ⟨ia, outs, ins, names, waits, log⟩ id title size sum = (⟨ia, outs, ins, names, waits, log⟩, 6)) := hI (by rw [offeredA, if_pos HB.out.symm])
        go_wp2_with fail
        go_ret
        rw [HR.out]
        exact ⟨rfl, P, HC5.out.tail.tail⟩
      | true =>
        have HB1 : Hid (¬ rightB title = false) := hI (by rw [← HB.out]; decide)
        cases K with
        | true =>
          have HR : Hid (offeredA ⟨ia, outs, ins, names, waits, log⟩ id title size sum = (⟨ia, outs, ins, names, waits, log⟩, 10)) := hI (by rw [offeredA, if_neg HB1.out, if_pos HKN.out.symm])
          go_wp2_with fail
          go_ret
          rw [HR.out]
          exact ⟨rfl, P, HC5.out.tail.tail⟩
        | false =>
          have HKF : Hid (¬ hasV ins id = true) := hI (by rw [← HKN.out]; decide)
          have HLIVE := hI (live_any _ acc w5 HC5.out.tail.own0.1.sl)
          go_wp2_with fail
          refine HLIVE.out.mono ?_
          rintro e w6 ⟨rfl, rfl⟩
          by_cases h4 : liveN acc = 4
          · have HR : Hid (offeredA ⟨ia, outs, ins, names, waits, log⟩ id title size sum = (⟨ia, outs, ins, names, waits, log⟩, 19)) := hI (by rw [offeredA, if_neg HB1.out, if_neg HKF.out, if_pos (by rw [← h4]; exact HLV.out.symm)])
            rw [h4]
            clear h4 HLIVE
            go_wp2_with fail
            go_ret
            rw [HR.out]
            exact ⟨rfl, P, HC5.out.tail.tail⟩
          · have HR : Hid (offeredA ⟨ia, outs, ins, names, waits, log⟩ id title size sum = (hapA ⟨ia, outs, ins ++ [(id, ⟨0, size, sum, []⟩)], names, waits, log⟩ ⟨1, id, title, []⟩, 0)) := hI (by rw [offeredA, if_neg HB1.out, if_neg HKF.out, if_neg (by rw [← HLV.out]; exact h4)])
            have h4' : (((liveN acc : Nat) : Int) == 4) = false := by simp; omega
            obtain ⟨lv4, hlv4⟩ : ∃ n, n = liveN acc := ⟨_, rfl⟩
            rw [← hlv4] at h4' ⊢
            obtain ⟨ob5, ib5, nb5, hat5⟩ := appR_at HC5.out.tail.tail
            have HAT5 := hI hat5
            have c35 := hat5.c3
            have HML : Hid ((ptrM P.2 ins).length < maxLen) := hI (by
              have h1 := congrArg List.length (ptrM_keys HLEN.out)
              have h2 := HFEW.out
              simp at h1
              unfold maxLen
              omega)
            clear h4 hlv4 hat5 HLIVE
            go_wp2_with (at_mapUpdate; refine wpList_updateV _ rfl _ _ _ _ rfl 2 86 intK kI_inj Try.underlying62 ib5 _ rfl HAT5.out.m3 HML.out id HK.out ?_)
            intro w7 hm hk hz
            have h7 := appR_addIn (k := id) HC5.out.swap.tail HAT5.out.c3 HKN.out.symm hm hk
            have HHAP := hI (appHappen_any a q (P.1, P.2 ++ [p]) _ 1 id title (.slice none 0 0) [] l w7 h7.addNilRow.swap HL.out)
            clear hm hk hz h7
            go_wp2_with fail
            refine HHAP.out.mono ?_
            rintro e w8 ⟨rfl, hc⟩
            have HC8 := hI hc
            clear hc HHAP
            go_wp2_with fail
            go_ret
            rw [HR.out]
            exact ⟨rfl, _, HC8.out⟩
    · intro s v w3 cnt3 hmem hls hrg3 hlt3 hk3 hz3 hen
      have hc3 := (HCR.out.swap.rngVTurn hrg3 hk3).swap
      obtain ⟨_, _, hml, _⟩ := HRG.out
      obtain ⟨hhas, rfl⟩ := ptrs_entry hml.1 hmem hc3.tail.tail
      obtain ⟨p, R0, hp, hf, -⟩ := ptrsR_focus s InF.nil hc3.tail.tail hhas
      have hmo := getV_mem hhas InF.nil
      obtain ⟨o, ho⟩ : ∃ o, o = getV ins s InF.nil := ⟨_, rfl⟩
      rw [← ho] at hf hmo
      rw [hp] at hen ⊢
      obtain ⟨st, size0, sum0, data0⟩ := o
      obtain ⟨_, _, _, _, -, -, -, -, hf⟩ := inR_open hf
      have cp : w3.cell? ⟨p, 0, none⟩ = some (.int .i64 st) := hf.blk0.cell 0
      have hkeys := ptrs_keys (ptrsR_len hc3.tail.tail) hml.1
      have htk := leftN_take (f := (·.st)) hkeys hmo hls
      have HRL3 : Hid (w3.rangeLeft ib r = cnt3) := hI hrg3.left_eq
      have HLE : Hid (w3.rangeLeft ib r < wr.rangeLeft ib r) := hI (by rw [hrg3.left_eq, HRG.out.left_eq]; exact hlt3)
      have HB3 : Hid (Below w.heap.size w w3) := hI (HBL.out.trans (hk3.below (by
        have := HR0.out
        have := HBL.out.size
        rintro k (rfl | h) <;> omega)))
      have HSUM3 : Hid (liveN (acc ++ [st]) + leftN (·.st) ins (fun z => left z && !z.sameKey (kI s)) = liveN (ins.map fun x => x.2.st)) := hI (by
        rw [liveN_snoc]
        have := HSUM.out
        rw [htk] at this
        simp only at this
        omega)
      have HCN3 : Hid ((acc ++ [st]).length + cnt3 ≤ ins.length) := hI (by have := HCNT.out; rw [List.length_append, List.length_singleton]; omega)
      have HA := hI (hc3.alloc (.cells #[.int .i64 st] 3))
      have HOW := hI HA.out.own0
      have HSL : Hid (Sl (w3.alloc (.cells #[.int .i64 st] 3)) 1 (.slice (some ⟨w3.heap.size, 0, none⟩) 1 1) 1 [.int .i64 st]) := hI (Sl.lit rfl rfl (by simp [Value.oneCell']) (by unfold maxLen; decide))
      have hbnd : acc.length ≤ 1099511627776 := by have := HCNT.out; have := HFEW.out; omega
      clear hf hrg3 hlt3 hk3 hz3 hls hmem hmo ho hml hc3 hkeys htk HCR HRG HSUM HCNT
      go_wp2_with ((with_reducible show wpList _ _ _ (⟨some 33, _, _, _, _, _⟩ :: _) _ _); refine wpList_app2 rfl (.tmp 27) (.tmp 32) elInt rfl 0 HOW.out.1 HOW.out.2 HSL.out (by unfold maxLen; omega) (by omega) (Nat.zero_le _) ?_)
      intro v' w' ho hk hv
      have hc := HA.out.append (B := 0) ho (hk.mono fun k h => by simpa using h) (fun k h => by simpa using hv k h)
      have HC4 : Hid (Hold w' (.own 3 1 v' (acc ++ [st]).length ((acc ++ [st]).map intC) :: rngV Try.prog 2 kI ib r (ptrM P.2 ins) (fun z => left z && !z.sameKey (kI s)) cnt3 :: ptrsR inR P.2 ins :: R :: l)) := hI (by
        rw [List.length_append, List.map_append]
        exact hc)
      have HOV4 : Hid (∀ y, v'.ownBlock = some y → w.heap.size ≤ y) := hI (fun y hy => by
        rcases (hv y hy).1 with h | h
        · exact HOV.out y h
        · have h : w3.heap.size + 1 ≤ y := by simpa using h
          have := HB3.out.size
          omega)
      have HB4 : Hid (Below w.heap.size w w') := hI ((HB3.out.alloc HB3.out.size _).trans (hk.below (by
        have h3 := HB3.out.size
        rintro k (h | h)
        · exact HOV.out k (by simpa using h)
        · have h : w3.heap.size + 1 ≤ k := by simpa using h
          omega)))
      have HLE4 : Hid (w'.rangeLeft ib r < wr.rangeLeft ib r) := hI (by
        rw [hc.swap.rngVOf.left_eq]
        have h1 := HLE.out
        have h2 := (HA.out.swap.rngVOf).left_eq
        have h3 : (w3.alloc (.cells #[.int .i64 st] 3)).rangeLeft ib r = w3.rangeLeft ib r := by
          rw [h2]; exact HRL3.out.symm
        omega)
      clear ho hk hv hc HA HOW HSL
      go_wp2_with fail
      go_roundw
      case rel => exact ⟨acc ++ [st], _, cnt3, HC4.out, HOV4.out, HB4.out, HSUM3.out, HCN3.out⟩
      case measure => exact HLE4.out
theorem inTake_data (t : Sums) (i : InF) (at' : Int) (b : List UInt8) (h : InOk i) : ((inTake t i at' b).2.1.data.length : Int) ≤ i.size := by
  have h1 := h.d
  unfold inTake
  split
  · exact h1
  · split
    · exact h1
    · split
      · exact h1
      · rename_i h2 h3
        rw [inWhole_data]
        simp only [List.length_append]
        omega
def gotA (A : AppF) (id : Int) (r : InF × Int) : AppF := if r.2 = 0 then sayA { A with ins := setV A.ins id r.1 } (enc 5 [numT id.toNat]) else { A with ins := setV A.ins id r.1 }
def pieceA (t : Sums) (A : AppF) (id at' : Int) (b : List UInt8) : Sums × AppF × Int :=
  if hasV A.ins id = false then (t, A, 9)
  else ((inTake t (getV A.ins id InF.nil) at' b).1, endedA (gotA A id (inTake t (getV A.ins id InF.nil) at' b).2) id (inTake t (getV A.ins id InF.nil) at' b).2.1 (inTake t (getV A.ins id InF.nil) at' b).2.2, (inTake t (getV A.ins id InF.nil) at' b).2.2)
set_option maxRecDepth 100000 in
set_option maxHeartbeats 4000000 in
theorem appPiece_any (a q : Nat) (P : List Nat × List Nat) (kv bv mp : Value) (t : Sums) (A : AppF) (id at' : Int) (v : Value) (b : List UInt8) (l : List Res) (w : World) (h : Hold w (appR a q P A :: tabR q kv bv mp t :: l)) (hb : Bs w v b) (h64 : -9223372036854775808 ≤ id ∧ id ≤ 9223372036854775807)
    (hid : hasV A.ins id = true → 0 ≤ id ∧ id ≤ 1099511627776 ∧ InOk (getV A.ins id InF.nil)) (hn : A.waits.length ≤ 1099511627776) (hl : A.log.length ≤ 1099511627776) (ht : t.length < 1099511627776) :
    Calls Try.prog 49 #[.pointer (some ⟨a, 0, none⟩), .int .i64 id, .int .i64 at', v] w fun e w' => e = .returned (.int .i64 (pieceA t A id at' b).2.2) ∧ Hold w' (appR a q P (pieceA t A id at' b).2.1 :: tabR q kv bv mp (pieceA t A id at' b).1 :: l) := by
  have HC0 := hI h
  obtain ⟨va, vc, rfl, -, -⟩ := hb.form
  obtain ⟨ob, ib, nb, hat⟩ := appR_at h
  have HAT := hI hat
  have c3 := hat.c3
  have c0 : w.cell? ⟨a, 0, none⟩ = some (.iface 55 (.pointer (some ⟨q, 0, none⟩))) := hat.c0
  have HK := hI (kI_key h64)
  obtain ⟨K, hK⟩ : ∃ K, K = hasV A.ins id := ⟨_, rfl⟩
  have HKN := hI hK
  have HV : Hid (hasV (ptrM P.2 A.ins) id = K) := hI (by rw [hat.inHas, hK])
  have HN := hI hn
  have HL := hI hl
  cases K with
  | false =>
    have HR : Hid (pieceA t A id at' b = (t, A, 9)) := hI (by rw [pieceA, if_pos HKN.out.symm])
    rw [HR.out]
    clear h hat hK hn hl ht hid hb
    go_enter Try.func49, Try.ntmps49
    go_wp2_with (at_lookup; refine wpList_lookupV_ok _ rfl _ _ _ rfl 2 86 intK kI_inj Try.underlying62 (zIn _) ib _ rfl HAT.out.m3 id HK.out ?_; rw [HV.out])
    go_ret
    exact ⟨rfl, HC0.out⟩
  | true =>
    obtain ⟨hi0, hi1, hok⟩ := hid hK.symm
    obtain ⟨p, _, hp, _, _⟩ := appR_in id h hK.symm
    obtain ⟨R, h1, hback⟩ := appR_inP h hK.symm hp
    obtain ⟨r, hr⟩ : ∃ r, r = inTake t (getV A.ins id InF.nil) at' b := ⟨_, rfl⟩
    have HP := hI hp
    have HB := hI hback
    have HTK := hI (inTake_any p q kv bv mp t (getV A.ins id InF.nil) at' _ b (R :: l) w h1.pull3.swap hb hok.d hok.sum ht hok.s1)
    have HRD : Hid (r.2.1.data.length ≤ 2048) := hI (by have h1 := inTake_data t _ at' b hok; have h2 := hok.s1; rw [← hr] at h1; omega)
    rw [← hr] at HTK
    have HR : Hid (pieceA t A id at' b = (r.1, endedA (gotA A id r.2) id r.2.1 r.2.2, r.2.2)) := hI (by rw [pieceA, if_neg (by rw [← HKN.out]; decide), ← hr])
    rw [HR.out]
    have hw : IntKind.u64.wrap id = id := by rw [IntKind.wrap_u64]; omega
    obtain ⟨n, rfl⟩ : ∃ n : Nat, id = n := ⟨id.toNat, by omega⟩
    clear h hat hK hn hl ht hid hp hback h1 hok hr hb
    have HH : Hid (∀ A' : AppF, A'.ins = setV A.ins n r.2.1 → A'.log = A.log → ∀ W : World, Hold W (appR a q P A' :: tabR q kv bv mp r.1 :: l) →
      Calls Try.prog 33 #[.pointer (some ⟨a, 0, none⟩), .int .i64 n, .pointer (some ⟨p, 0, none⟩), .int .i64 r.2.2] W fun en w' => en = .returned (.tuple #[]) ∧ Hold w' (appR a q P (endedA A' n r.2.1 r.2.2) :: tabR q kv bv mp r.1 :: l)) := hI (by
        intro A' e1 e2 W hW
        have e3 : getV A'.ins n InF.nil = r.2.1 := by rw [e1, getV_set, if_pos ⟨rfl, HKN.out.symm⟩]
        have := appEnded_any a q P A' n r.2.2 p _ W hW (by rw [e1, hasV_set]; exact HKN.out.symm) (by rw [e1, ptrM_set]; exact HP.out) (by rw [e3]; exact HRD.out) (by rw [e2]; exact HL.out)
        rw [e3] at this
        exact this)
    obtain ⟨t2, i2, e2⟩ := r
    simp only at HTK HRD HH ⊢
    go_enter Try.func49, Try.ntmps49
    go_wp2_with (at_lookup; refine wpList_lookupV_ok _ rfl _ _ _ rfl 2 86 intK kI_inj Try.underlying62 (zIn _) ib _ rfl HAT.out.m3 _ HK.out ?_; rw [HV.out, HP.out])
    refine HTK.out.mono ?_
    rintro e w1 ⟨rfl, hc⟩
    have HC := hI (HB.out w1 _ _ hc.pull3.swap)
    clear hc HB HTK
    by_cases he : e2 = 0
    · subst he
      go_wp2_with fail
      refine (derNum_any n w1).mono ?_
      rintro e w4 ⟨rfl, hb⟩
      have HSAY := hI (appSay_word a q P _ 5 (.slice (some ⟨w4.heap.size, 0, none⟩) 1 1) [numT n] _ _ (w4.alloc (.cells #[.int .i64 0, .int .i64 0, .int .u64 n, .slice none 0 0, .slice none 0 0] 76)) ((HC.out.step hb).alloc _) (Sl.lit rfl rfl (by simp [Value.oneCell']) (by unfold maxLen; decide)) ⟨_, [], rfl, tvf_num _ n, rfl⟩ (wordOk (by decide) (by decide) (by simp) (by intro x hx; simp only [List.mem_cons, List.not_mem_nil, or_false] at hx; rcases hx with rfl; exact LeafT.num (by omega))) HN.out)
      clear hb HC
      go_wp2_with fail
      refine HSAY.out.mono ?_
      rintro e w5 ⟨rfl, hc⟩
      have HEN := hI (HH.out (sayA { A with ins := setV A.ins n i2 } (enc 5 [numT n])) rfl rfl w5 hc)
      clear hc HSAY
      go_wp2_with fail
      refine HEN.out.mono ?_
      rintro e w7 ⟨rfl, hc⟩
      have HC := hI hc
      clear hc HEN
      go_wp2_with fail
      go_ret
      exact ⟨rfl, HC.out⟩
    · have he' : (e2 == 0) = false := by simpa using he
      have HG : Hid (gotA A n (i2, e2) = { A with ins := setV A.ins n i2 }) := hI (by rw [gotA, if_neg he])
      have HEN := hI (HH.out { A with ins := setV A.ins n i2 } rfl rfl w1 HC.out)
      clear he HC
      go_wp2_with fail
      refine HEN.out.mono ?_
      rintro e w7 ⟨rfl, hc⟩
      have HC := hI hc
      clear hc HEN
      go_wp2_with fail
      go_ret
      exact ⟨rfl, by rw [HG.out]; exact HC.out⟩
def breakA (A : AppF) (id : Int) (inn : Bool) : AppF × Int :=
  if inn = true then (if hasV A.ins id = false then (A, 9) else ({ A with ins := setV A.ins id (inBreak (getV A.ins id InF.nil)).1 }, (inBreak (getV A.ins id InF.nil)).2))
  else (if hasV A.outs id = false then (A, 9) else ({ A with outs := setV A.outs id (outBreak (getV A.outs id OutF.nil)).1 }, (outBreak (getV A.outs id OutF.nil)).2))
def cancelA (A : AppF) (id : Int) (inn : Bool) : AppF × Int :=
  if (breakA A id inn).2 = 0 then (sayA (breakA A id inn).1 (enc 6 [numT id.toNat, numT (if inn = true then 1 else 0)]), 0) else breakA A id inn
def stoppedA (A : AppF) (id : Int) (inn : Bool) : AppF × Int :=
  if (breakA A id inn).2 = 0 then (hapA (breakA A id inn).1 ⟨6, id, ⟨#[]⟩, []⟩, 0) else breakA A id inn
set_option maxRecDepth 100000 in
set_option maxHeartbeats 8000000 in
theorem appCancel_any (a q : Nat) (P : List Nat × List Nat) (A : AppF) (id : Int) (inn : Bool) (l : List Res) (w : World) (h : Hold w (appR a q P A :: l)) (h64 : -9223372036854775808 ≤ id ∧ id ≤ 9223372036854775807)
    (hid : hasV A.ins id = true ∨ hasV A.outs id = true → 0 ≤ id ∧ id ≤ 1099511627776) (hn : A.waits.length ≤ 1099511627776) (hl : A.log.length ≤ 1099511627776) :
    Calls Try.prog 36 #[.pointer (some ⟨a, 0, none⟩), .int .i64 id, .bool inn] w fun e w' => e = .returned (.int .i64 (cancelA A id inn).2) ∧ Hold w' (appR a q P (cancelA A id inn).1 :: l) := by
  have HC0 := hI h
  obtain ⟨ob, ib, nb, hat⟩ := appR_at h
  have HAT := hI hat
  have c2 := hat.c2
  have c3 := hat.c3
  have HK := hI (kI_key h64)
  obtain ⟨K, hK⟩ : ∃ K, K = hasV A.ins id := ⟨_, rfl⟩
  obtain ⟨K2, hK2⟩ : ∃ K, K = hasV A.outs id := ⟨_, rfl⟩
  rw [← hK, ← hK2] at hid
  have HKN := hI hK
  have HKN2 := hI hK2
  have HV : Hid (hasV (ptrM P.2 A.ins) id = K) := hI (by rw [hat.inHas, hK])
  have HV2 : Hid (hasV (ptrM P.1 A.outs) id = K2) := hI (by rw [hat.outHas, hK2])
  have HN := hI hn
  have HL := hI hl
  have HID := hI hid
  have HH := hI h
  clear h hat hK hK2 hn hl hid
  cases inn with
  | true =>
    cases K with
    | false =>
      have HR : Hid (breakA A id true = (A, 9)) := hI (by rw [breakA, if_pos rfl, if_pos HKN.out.symm])
      cases K2 with
      | false =>
        go_enter Try.func36, Try.ntmps36
        go_wp2_with (at_lookup; first | (refine wpList_lookupV_ok _ rfl _ _ _ rfl 2 86 intK kI_inj Try.underlying62 (zIn _) ib _ rfl HAT.out.m3 _ HK.out ?_; rw [HV.out]) | (refine wpList_lookupV_ok _ rfl _ _ _ rfl 2 66 intK kI_inj Try.underlying61 (zOut _) ob _ rfl HAT.out.m2 _ HK.out ?_; rw [HV2.out]))
        go_ret
        rw [cancelA, HR.out]
        exact ⟨rfl, HC0.out⟩
      | true =>
        go_enter Try.func36, Try.ntmps36
        go_wp2_with (at_lookup; first | (refine wpList_lookupV_ok _ rfl _ _ _ rfl 2 86 intK kI_inj Try.underlying62 (zIn _) ib _ rfl HAT.out.m3 _ HK.out ?_; rw [HV.out]) | (refine wpList_lookupV_ok _ rfl _ _ _ rfl 2 66 intK kI_inj Try.underlying61 (zOut _) ob _ rfl HAT.out.m2 _ HK.out ?_; rw [HV2.out]))
        go_ret
        rw [cancelA, HR.out]
        exact ⟨rfl, HC0.out⟩
    | true =>
      obtain ⟨hi0, hi1⟩ := HID.out (.inl rfl)
      obtain ⟨p, _, hp, _, _⟩ := appR_in id HH.out HKN.out.symm
      obtain ⟨R, h1, hback⟩ := appR_inP HH.out HKN.out.symm hp
      obtain ⟨r, hr⟩ : ∃ r, r = inBreak (getV A.ins id InF.nil) := ⟨_, rfl⟩
      have HP := hI hp
      have HB := hI hback
      have HTK := hI (inBreak_any p _ _ w h1)
      rw [← hr] at HTK
      have HR : Hid (breakA A id true = ({ A with ins := setV A.ins id r.1 }, r.2)) := hI (by rw [breakA, if_pos rfl, if_neg (by rw [← HKN.out]; decide), ← hr])
      have hw : IntKind.u64.wrap id = id := by rw [IntKind.wrap_u64]; omega
      obtain ⟨n, rfl⟩ : ∃ n : Nat, id = n := ⟨id.toNat, by omega⟩
      clear hp hback h1 hr
      obtain ⟨i2, e2⟩ := r
      simp only at HTK HR
      cases K2 with
      | false =>
        go_enter Try.func36, Try.ntmps36
        go_wp2_with (at_lookup; refine wpList_lookupV_ok _ rfl _ _ _ rfl 2 86 intK kI_inj Try.underlying62 (zIn _) ib _ rfl HAT.out.m3 _ HK.out ?_; rw [HV.out, HP.out])
        refine HTK.out.mono ?_
        rintro e w1 ⟨rfl, hc⟩
        have h1 := HB.out w1 _ _ hc
        have HC := hI h1
        obtain ⟨ob1, ib1, nb1, hat1⟩ := appR_at h1
        have HAT1 := hI hat1
        have c21 := hat1.c2
        clear hc h1 hat1 HB HTK
        by_cases he : e2 = 0
        · subst he
          go_wp2_with (at_lookup; refine wpList_lookupV_ok _ rfl _ _ _ rfl 2 66 intK kI_inj Try.underlying61 (zOut _) ob1 _ rfl HAT1.out.m2 _ HK.out ?_; rw [HV2.out])
          refine (derNum_any n w1).mono ?_
          rintro e w3 ⟨rfl, hb⟩
          have HC := hI (HC.out.step hb)
          clear hb
          go_wp2_with fail
          refine (derNum_any 1 w3).mono ?_
          rintro e w4 ⟨rfl, hb⟩
          have HSAY := hI (appSay_word a q P _ 6 (.slice (some ⟨w4.heap.size, 0, none⟩) 2 2) [numT n, numT 1] _ _ (w4.alloc (.cells #[.int .i64 0, .int .i64 0, .int .u64 n, .slice none 0 0, .slice none 0 0, .int .i64 0, .int .i64 0, .int .u64 1, .slice none 0 0, .slice none 0 0] 76)) ((HC.out.step hb).alloc _) (Sl.lit rfl rfl (by simp [Value.oneCell']) (by unfold maxLen; decide)) (two_nums _ n 1) (wordOk (by decide) (by decide) (by simp) (by intro x hx; simp only [List.mem_cons, List.not_mem_nil, or_false] at hx; rcases hx with rfl | rfl <;> exact LeafT.num (by omega))) HN.out)
          clear hb HC
          go_wp2_with fail
          refine HSAY.out.mono ?_
          rintro e w5 ⟨rfl, hc⟩
          have HC := hI hc
          clear hc HSAY
          go_wp2_with fail
          go_ret
          rw [cancelA, HR.out]
          exact ⟨rfl, HC.out⟩
        · have he' : (e2 == 0) = false := by simpa using he
          have he2 : (e2 != 0) = true := by simpa using he
          have HE := hI he
          clear he
          go_wp2_with (at_lookup; refine wpList_lookupV_ok _ rfl _ _ _ rfl 2 66 intK kI_inj Try.underlying61 (zOut _) ob1 _ rfl HAT1.out.m2 _ HK.out ?_; rw [HV2.out])
          go_ret
          rw [cancelA, HR.out, if_neg HE.out]
          exact ⟨rfl, HC.out⟩
      | true =>
        go_enter Try.func36, Try.ntmps36
        go_wp2_with (at_lookup; refine wpList_lookupV_ok _ rfl _ _ _ rfl 2 86 intK kI_inj Try.underlying62 (zIn _) ib _ rfl HAT.out.m3 _ HK.out ?_; rw [HV.out, HP.out])
        refine HTK.out.mono ?_
        rintro e w1 ⟨rfl, hc⟩
        have h1 := HB.out w1 _ _ hc
        have HC := hI h1
        obtain ⟨ob1, ib1, nb1, hat1⟩ := appR_at h1
        have HAT1 := hI hat1
        have c21 := hat1.c2
        clear hc h1 hat1 HB HTK
        by_cases he : e2 = 0
        · subst he
          go_wp2_with (at_lookup; refine wpList_lookupV_ok _ rfl _ _ _ rfl 2 66 intK kI_inj Try.underlying61 (zOut _) ob1 _ rfl HAT1.out.m2 _ HK.out ?_; rw [HV2.out])
          refine (derNum_any n w1).mono ?_
          rintro e w3 ⟨rfl, hb⟩
          have HC := hI (HC.out.step hb)
          clear hb
          go_wp2_with fail
          refine (derNum_any 1 w3).mono ?_
          rintro e w4 ⟨rfl, hb⟩
          have HSAY := hI (appSay_word a q P _ 6 (.slice (some ⟨w4.heap.size, 0, none⟩) 2 2) [numT n, numT 1] _ _ (w4.alloc (.cells #[.int .i64 0, .int .i64 0, .int .u64 n, .slice none 0 0, .slice none 0 0, .int .i64 0, .int .i64 0, .int .u64 1, .slice none 0 0, .slice none 0 0] 76)) ((HC.out.step hb).alloc _) (Sl.lit rfl rfl (by simp [Value.oneCell']) (by unfold maxLen; decide)) (two_nums _ n 1) (wordOk (by decide) (by decide) (by simp) (by intro x hx; simp only [List.mem_cons, List.not_mem_nil, or_false] at hx; rcases hx with rfl | rfl <;> exact LeafT.num (by omega))) HN.out)
          clear hb HC
          go_wp2_with fail
          refine HSAY.out.mono ?_
          rintro e w5 ⟨rfl, hc⟩
          have HC := hI hc
          clear hc HSAY
          go_wp2_with fail
          go_ret
          rw [cancelA, HR.out]
          exact ⟨rfl, HC.out⟩
        · have he' : (e2 == 0) = false := by simpa using he
          have he2 : (e2 != 0) = true := by simpa using he
          have HE := hI he
          clear he
          go_wp2_with (at_lookup; refine wpList_lookupV_ok _ rfl _ _ _ rfl 2 66 intK kI_inj Try.underlying61 (zOut _) ob1 _ rfl HAT1.out.m2 _ HK.out ?_; rw [HV2.out])
          go_ret
          rw [cancelA, HR.out, if_neg HE.out]
          exact ⟨rfl, HC.out⟩
  | false =>
    cases K2 with
    | false =>
      have HR : Hid (breakA A id false = (A, 9)) := hI (by rw [breakA, if_neg (by decide), if_pos HKN2.out.symm])
      cases K with
      | false =>
        go_enter Try.func36, Try.ntmps36
        go_wp2_with (at_lookup; first | (refine wpList_lookupV_ok _ rfl _ _ _ rfl 2 86 intK kI_inj Try.underlying62 (zIn _) ib _ rfl HAT.out.m3 _ HK.out ?_; rw [HV.out]) | (refine wpList_lookupV_ok _ rfl _ _ _ rfl 2 66 intK kI_inj Try.underlying61 (zOut _) ob _ rfl HAT.out.m2 _ HK.out ?_; rw [HV2.out]))
        go_ret
        rw [cancelA, HR.out]
        exact ⟨rfl, HC0.out⟩
      | true =>
        go_enter Try.func36, Try.ntmps36
        go_wp2_with (at_lookup; first | (refine wpList_lookupV_ok _ rfl _ _ _ rfl 2 86 intK kI_inj Try.underlying62 (zIn _) ib _ rfl HAT.out.m3 _ HK.out ?_; rw [HV.out]) | (refine wpList_lookupV_ok _ rfl _ _ _ rfl 2 66 intK kI_inj Try.underlying61 (zOut _) ob _ rfl HAT.out.m2 _ HK.out ?_; rw [HV2.out]))
        go_ret
        rw [cancelA, HR.out]
        exact ⟨rfl, HC0.out⟩
    | true =>
      obtain ⟨hi0, hi1⟩ := HID.out (.inr rfl)
      obtain ⟨p, _, hp, _, _⟩ := appR_out id HH.out HKN2.out.symm
      obtain ⟨R, h1, hback⟩ := appR_outP HH.out HKN2.out.symm hp
      obtain ⟨r, hr⟩ : ∃ r, r = outBreak (getV A.outs id OutF.nil) := ⟨_, rfl⟩
      have HP := hI hp
      have HB := hI hback
      have HTK := hI (outBreak_any p _ _ w h1)
      rw [← hr] at HTK
      have HR : Hid (breakA A id false = ({ A with outs := setV A.outs id r.1 }, r.2)) := hI (by rw [breakA, if_neg (by decide), if_neg (by rw [← HKN2.out]; decide), ← hr])
      have hw : IntKind.u64.wrap id = id := by rw [IntKind.wrap_u64]; omega
      obtain ⟨n, rfl⟩ : ∃ n : Nat, id = n := ⟨id.toNat, by omega⟩
      clear hp hback h1 hr
      obtain ⟨o2, e2⟩ := r
      simp only at HTK HR
      cases K with
      | false =>
        go_enter Try.func36, Try.ntmps36
        go_wp2_with (at_lookup; first | (refine wpList_lookupV_ok _ rfl _ _ _ rfl 2 86 intK kI_inj Try.underlying62 (zIn _) ib _ rfl HAT.out.m3 _ HK.out ?_; rw [HV.out]) | (refine wpList_lookupV_ok _ rfl _ _ _ rfl 2 66 intK kI_inj Try.underlying61 (zOut _) ob _ rfl HAT.out.m2 _ HK.out ?_; rw [HV2.out, HP.out]))
        refine HTK.out.mono ?_
        rintro e w1 ⟨rfl, hc⟩
        have HC := hI (HB.out w1 _ _ hc)
        clear hc HB HTK
        by_cases he : e2 = 0
        · subst he
          go_wp2_with fail
          refine (derNum_any n w1).mono ?_
          rintro e w3 ⟨rfl, hb⟩
          have HC := hI (HC.out.step hb)
          clear hb
          go_wp2_with fail
          refine (derNum_any 0 w3).mono ?_
          rintro e w4 ⟨rfl, hb⟩
          have HSAY := hI (appSay_word a q P _ 6 (.slice (some ⟨w4.heap.size, 0, none⟩) 2 2) [numT n, numT 0] _ _ (w4.alloc (.cells #[.int .i64 0, .int .i64 0, .int .u64 n, .slice none 0 0, .slice none 0 0, .int .i64 0, .int .i64 0, .int .u64 0, .slice none 0 0, .slice none 0 0] 76)) ((HC.out.step hb).alloc _) (Sl.lit rfl rfl (by simp [Value.oneCell']) (by unfold maxLen; decide)) (two_nums _ n 0) (wordOk (by decide) (by decide) (by simp) (by intro x hx; simp only [List.mem_cons, List.not_mem_nil, or_false] at hx; rcases hx with rfl | rfl <;> exact LeafT.num (by omega))) HN.out)
          clear hb HC
          go_wp2_with fail
          refine HSAY.out.mono ?_
          rintro e w5 ⟨rfl, hc⟩
          have HC := hI hc
          clear hc HSAY
          go_wp2_with fail
          go_ret
          rw [cancelA, HR.out]
          exact ⟨rfl, HC.out⟩
        · have he' : (e2 == 0) = false := by simpa using he
          have he2 : (e2 != 0) = true := by simpa using he
          have HE := hI he
          clear he
          go_wp2_with fail
          go_ret
          rw [cancelA, HR.out, if_neg HE.out]
          exact ⟨rfl, HC.out⟩
      | true =>
        go_enter Try.func36, Try.ntmps36
        go_wp2_with (at_lookup; first | (refine wpList_lookupV_ok _ rfl _ _ _ rfl 2 86 intK kI_inj Try.underlying62 (zIn _) ib _ rfl HAT.out.m3 _ HK.out ?_; rw [HV.out]) | (refine wpList_lookupV_ok _ rfl _ _ _ rfl 2 66 intK kI_inj Try.underlying61 (zOut _) ob _ rfl HAT.out.m2 _ HK.out ?_; rw [HV2.out, HP.out]))
        refine HTK.out.mono ?_
        rintro e w1 ⟨rfl, hc⟩
        have HC := hI (HB.out w1 _ _ hc)
        clear hc HB HTK
        by_cases he : e2 = 0
        · subst he
          go_wp2_with fail
          refine (derNum_any n w1).mono ?_
          rintro e w3 ⟨rfl, hb⟩
          have HC := hI (HC.out.step hb)
          clear hb
          go_wp2_with fail
          refine (derNum_any 0 w3).mono ?_
          rintro e w4 ⟨rfl, hb⟩
          have HSAY := hI (appSay_word a q P _ 6 (.slice (some ⟨w4.heap.size, 0, none⟩) 2 2) [numT n, numT 0] _ _ (w4.alloc (.cells #[.int .i64 0, .int .i64 0, .int .u64 n, .slice none 0 0, .slice none 0 0, .int .i64 0, .int .i64 0, .int .u64 0, .slice none 0 0, .slice none 0 0] 76)) ((HC.out.step hb).alloc _) (Sl.lit rfl rfl (by simp [Value.oneCell']) (by unfold maxLen; decide)) (two_nums _ n 0) (wordOk (by decide) (by decide) (by simp) (by intro x hx; simp only [List.mem_cons, List.not_mem_nil, or_false] at hx; rcases hx with rfl | rfl <;> exact LeafT.num (by omega))) HN.out)
          clear hb HC
          go_wp2_with fail
          refine HSAY.out.mono ?_
          rintro e w5 ⟨rfl, hc⟩
          have HC := hI hc
          clear hc HSAY
          go_wp2_with fail
          go_ret
          rw [cancelA, HR.out]
          exact ⟨rfl, HC.out⟩
        · have he' : (e2 == 0) = false := by simpa using he
          have he2 : (e2 != 0) = true := by simpa using he
          have HE := hI he
          clear he
          go_wp2_with fail
          go_ret
          rw [cancelA, HR.out, if_neg HE.out]
          exact ⟨rfl, HC.out⟩
set_option maxRecDepth 100000 in
set_option maxHeartbeats 8000000 in
theorem appStopped_any (a q : Nat) (P : List Nat × List Nat) (A : AppF) (id : Int) (inn : Bool) (l : List Res) (w : World) (h : Hold w (appR a q P A :: l)) (h64 : -9223372036854775808 ≤ id ∧ id ≤ 9223372036854775807)
    (hid : hasV A.ins id = true ∨ hasV A.outs id = true → 0 ≤ id ∧ id ≤ 1099511627776) (hn : A.waits.length ≤ 1099511627776) (hl : A.log.length ≤ 1099511627776) :
    Calls Try.prog 51 #[.pointer (some ⟨a, 0, none⟩), .int .i64 id, .bool inn] w fun e w' => e = .returned (.int .i64 (stoppedA A id inn).2) ∧ Hold w' (appR a q P (stoppedA A id inn).1 :: l) := by
  have HC0 := hI h
  obtain ⟨ob, ib, nb, hat⟩ := appR_at h
  have HAT := hI hat
  have c2 := hat.c2
  have c3 := hat.c3
  have HK := hI (kI_key h64)
  obtain ⟨K, hK⟩ : ∃ K, K = hasV A.ins id := ⟨_, rfl⟩
  obtain ⟨K2, hK2⟩ : ∃ K, K = hasV A.outs id := ⟨_, rfl⟩
  rw [← hK, ← hK2] at hid
  have HKN := hI hK
  have HKN2 := hI hK2
  have HV : Hid (hasV (ptrM P.2 A.ins) id = K) := hI (by rw [hat.inHas, hK])
  have HV2 : Hid (hasV (ptrM P.1 A.outs) id = K2) := hI (by rw [hat.outHas, hK2])
  have HN := hI hn
  have HL := hI hl
  have HID := hI hid
  have HH := hI h
  clear h hat hK hK2 hn hl hid
  cases inn with
  | true =>
    cases K with
    | false =>
      have HR : Hid (breakA A id true = (A, 9)) := hI (by rw [breakA, if_pos rfl, if_pos HKN.out.symm])
      cases K2 with
      | false =>
        go_enter Try.func51, Try.ntmps51
        go_wp2_with (at_lookup; first | (refine wpList_lookupV_ok _ rfl _ _ _ rfl 2 86 intK kI_inj Try.underlying62 (zIn _) ib _ rfl HAT.out.m3 _ HK.out ?_; rw [HV.out]) | (refine wpList_lookupV_ok _ rfl _ _ _ rfl 2 66 intK kI_inj Try.underlying61 (zOut _) ob _ rfl HAT.out.m2 _ HK.out ?_; rw [HV2.out]))
        go_ret
        rw [stoppedA, HR.out]
        exact ⟨rfl, HC0.out⟩
      | true =>
        go_enter Try.func51, Try.ntmps51
        go_wp2_with (at_lookup; first | (refine wpList_lookupV_ok _ rfl _ _ _ rfl 2 86 intK kI_inj Try.underlying62 (zIn _) ib _ rfl HAT.out.m3 _ HK.out ?_; rw [HV.out]) | (refine wpList_lookupV_ok _ rfl _ _ _ rfl 2 66 intK kI_inj Try.underlying61 (zOut _) ob _ rfl HAT.out.m2 _ HK.out ?_; rw [HV2.out]))
        go_ret
        rw [stoppedA, HR.out]
        exact ⟨rfl, HC0.out⟩
    | true =>
      obtain ⟨hi0, hi1⟩ := HID.out (.inl rfl)
      obtain ⟨p, _, hp, _, _⟩ := appR_in id HH.out HKN.out.symm
      obtain ⟨R, h1, hback⟩ := appR_inP HH.out HKN.out.symm hp
      obtain ⟨r, hr⟩ : ∃ r, r = inBreak (getV A.ins id InF.nil) := ⟨_, rfl⟩
      have HP := hI hp
      have HB := hI hback
      have HTK := hI (inBreak_any p _ _ w h1)
      rw [← hr] at HTK
      have HR : Hid (breakA A id true = ({ A with ins := setV A.ins id r.1 }, r.2)) := hI (by rw [breakA, if_pos rfl, if_neg (by rw [← HKN.out]; decide), ← hr])
      have hw : IntKind.u64.wrap id = id := by rw [IntKind.wrap_u64]; omega
      obtain ⟨n, rfl⟩ : ∃ n : Nat, id = n := ⟨id.toNat, by omega⟩
      clear hp hback h1 hr
      obtain ⟨i2, e2⟩ := r
      simp only at HTK HR
      cases K2 with
      | false =>
        go_enter Try.func51, Try.ntmps51
        go_wp2_with (at_lookup; refine wpList_lookupV_ok _ rfl _ _ _ rfl 2 86 intK kI_inj Try.underlying62 (zIn _) ib _ rfl HAT.out.m3 _ HK.out ?_; rw [HV.out, HP.out])
        refine HTK.out.mono ?_
        rintro e w1 ⟨rfl, hc⟩
        have h1 := HB.out w1 _ _ hc
        have HC := hI h1
        obtain ⟨ob1, ib1, nb1, hat1⟩ := appR_at h1
        have HAT1 := hI hat1
        have c21 := hat1.c2
        clear hc h1 hat1 HB HTK
        by_cases he : e2 = 0
        · subst he
          have HHAP := hI (appHappen_any a q P _ 6 n ⟨#[]⟩ (.slice none 0 0) [] l w1 HC.out.addNilRow.swap HL.out)
          clear HC
          go_wp2_with (at_lookup; refine wpList_lookupV_ok _ rfl _ _ _ rfl 2 66 intK kI_inj Try.underlying61 (zOut _) ob1 _ rfl HAT1.out.m2 _ HK.out ?_; rw [HV2.out])
          refine HHAP.out.mono ?_
          rintro e w5 ⟨rfl, hc⟩
          have HC := hI hc
          clear hc HHAP
          go_wp2_with fail
          go_ret
          rw [stoppedA, HR.out]
          exact ⟨rfl, HC.out⟩
        · have he' : (e2 == 0) = false := by simpa using he
          have he2 : (e2 != 0) = true := by simpa using he
          have HE := hI he
          clear he
          go_wp2_with (at_lookup; refine wpList_lookupV_ok _ rfl _ _ _ rfl 2 66 intK kI_inj Try.underlying61 (zOut _) ob1 _ rfl HAT1.out.m2 _ HK.out ?_; rw [HV2.out])
          go_ret
          rw [stoppedA, HR.out, if_neg HE.out]
          exact ⟨rfl, HC.out⟩
      | true =>
        go_enter Try.func51, Try.ntmps51
        go_wp2_with (at_lookup; refine wpList_lookupV_ok _ rfl _ _ _ rfl 2 86 intK kI_inj Try.underlying62 (zIn _) ib _ rfl HAT.out.m3 _ HK.out ?_; rw [HV.out, HP.out])
        refine HTK.out.mono ?_
        rintro e w1 ⟨rfl, hc⟩
        have h1 := HB.out w1 _ _ hc
        have HC := hI h1
        obtain ⟨ob1, ib1, nb1, hat1⟩ := appR_at h1
        have HAT1 := hI hat1
        have c21 := hat1.c2
        clear hc h1 hat1 HB HTK
        by_cases he : e2 = 0
        · subst he
          have HHAP := hI (appHappen_any a q P _ 6 n ⟨#[]⟩ (.slice none 0 0) [] l w1 HC.out.addNilRow.swap HL.out)
          clear HC
          go_wp2_with (at_lookup; refine wpList_lookupV_ok _ rfl _ _ _ rfl 2 66 intK kI_inj Try.underlying61 (zOut _) ob1 _ rfl HAT1.out.m2 _ HK.out ?_; rw [HV2.out])
          refine HHAP.out.mono ?_
          rintro e w5 ⟨rfl, hc⟩
          have HC := hI hc
          clear hc HHAP
          go_wp2_with fail
          go_ret
          rw [stoppedA, HR.out]
          exact ⟨rfl, HC.out⟩
        · have he' : (e2 == 0) = false := by simpa using he
          have he2 : (e2 != 0) = true := by simpa using he
          have HE := hI he
          clear he
          go_wp2_with (at_lookup; refine wpList_lookupV_ok _ rfl _ _ _ rfl 2 66 intK kI_inj Try.underlying61 (zOut _) ob1 _ rfl HAT1.out.m2 _ HK.out ?_; rw [HV2.out])
          go_ret
          rw [stoppedA, HR.out, if_neg HE.out]
          exact ⟨rfl, HC.out⟩
  | false =>
    cases K2 with
    | false =>
      have HR : Hid (breakA A id false = (A, 9)) := hI (by rw [breakA, if_neg (by decide), if_pos HKN2.out.symm])
      cases K with
      | false =>
        go_enter Try.func51, Try.ntmps51
        go_wp2_with (at_lookup; first | (refine wpList_lookupV_ok _ rfl _ _ _ rfl 2 86 intK kI_inj Try.underlying62 (zIn _) ib _ rfl HAT.out.m3 _ HK.out ?_; rw [HV.out]) | (refine wpList_lookupV_ok _ rfl _ _ _ rfl 2 66 intK kI_inj Try.underlying61 (zOut _) ob _ rfl HAT.out.m2 _ HK.out ?_; rw [HV2.out]))
        go_ret
        rw [stoppedA, HR.out]
        exact ⟨rfl, HC0.out⟩
      | true =>
        go_enter Try.func51, Try.ntmps51
        go_wp2_with (at_lookup; first | (refine wpList_lookupV_ok _ rfl _ _ _ rfl 2 86 intK kI_inj Try.underlying62 (zIn _) ib _ rfl HAT.out.m3 _ HK.out ?_; rw [HV.out]) | (refine wpList_lookupV_ok _ rfl _ _ _ rfl 2 66 intK kI_inj Try.underlying61 (zOut _) ob _ rfl HAT.out.m2 _ HK.out ?_; rw [HV2.out]))
        go_ret
        rw [stoppedA, HR.out]
        exact ⟨rfl, HC0.out⟩
    | true =>
      obtain ⟨hi0, hi1⟩ := HID.out (.inr rfl)
      obtain ⟨p, _, hp, _, _⟩ := appR_out id HH.out HKN2.out.symm
      obtain ⟨R, h1, hback⟩ := appR_outP HH.out HKN2.out.symm hp
      obtain ⟨r, hr⟩ : ∃ r, r = outBreak (getV A.outs id OutF.nil) := ⟨_, rfl⟩
      have HP := hI hp
      have HB := hI hback
      have HTK := hI (outBreak_any p _ _ w h1)
      rw [← hr] at HTK
      have HR : Hid (breakA A id false = ({ A with outs := setV A.outs id r.1 }, r.2)) := hI (by rw [breakA, if_neg (by decide), if_neg (by rw [← HKN2.out]; decide), ← hr])
      have hw : IntKind.u64.wrap id = id := by rw [IntKind.wrap_u64]; omega
      obtain ⟨n, rfl⟩ : ∃ n : Nat, id = n := ⟨id.toNat, by omega⟩
      clear hp hback h1 hr
      obtain ⟨o2, e2⟩ := r
      simp only at HTK HR
      cases K with
      | false =>
        go_enter Try.func51, Try.ntmps51
        go_wp2_with (at_lookup; first | (refine wpList_lookupV_ok _ rfl _ _ _ rfl 2 86 intK kI_inj Try.underlying62 (zIn _) ib _ rfl HAT.out.m3 _ HK.out ?_; rw [HV.out]) | (refine wpList_lookupV_ok _ rfl _ _ _ rfl 2 66 intK kI_inj Try.underlying61 (zOut _) ob _ rfl HAT.out.m2 _ HK.out ?_; rw [HV2.out, HP.out]))
        refine HTK.out.mono ?_
        rintro e w1 ⟨rfl, hc⟩
        have HC := hI (HB.out w1 _ _ hc)
        clear hc HB HTK
        by_cases he : e2 = 0
        · subst he
          have HHAP := hI (appHappen_any a q P _ 6 n ⟨#[]⟩ (.slice none 0 0) [] l w1 HC.out.addNilRow.swap HL.out)
          clear HC
          go_wp2_with fail
          refine HHAP.out.mono ?_
          rintro e w5 ⟨rfl, hc⟩
          have HC := hI hc
          clear hc HHAP
          go_wp2_with fail
          go_ret
          rw [stoppedA, HR.out]
          exact ⟨rfl, HC.out⟩
        · have he' : (e2 == 0) = false := by simpa using he
          have he2 : (e2 != 0) = true := by simpa using he
          have HE := hI he
          clear he
          go_wp2_with fail
          go_ret
          rw [stoppedA, HR.out, if_neg HE.out]
          exact ⟨rfl, HC.out⟩
      | true =>
        go_enter Try.func51, Try.ntmps51
        go_wp2_with (at_lookup; first | (refine wpList_lookupV_ok _ rfl _ _ _ rfl 2 86 intK kI_inj Try.underlying62 (zIn _) ib _ rfl HAT.out.m3 _ HK.out ?_; rw [HV.out]) | (refine wpList_lookupV_ok _ rfl _ _ _ rfl 2 66 intK kI_inj Try.underlying61 (zOut _) ob _ rfl HAT.out.m2 _ HK.out ?_; rw [HV2.out, HP.out]))
        refine HTK.out.mono ?_
        rintro e w1 ⟨rfl, hc⟩
        have HC := hI (HB.out w1 _ _ hc)
        clear hc HB HTK
        by_cases he : e2 = 0
        · subst he
          have HHAP := hI (appHappen_any a q P _ 6 n ⟨#[]⟩ (.slice none 0 0) [] l w1 HC.out.addNilRow.swap HL.out)
          clear HC
          go_wp2_with fail
          refine HHAP.out.mono ?_
          rintro e w5 ⟨rfl, hc⟩
          have HC := hI hc
          clear hc HHAP
          go_wp2_with fail
          go_ret
          rw [stoppedA, HR.out]
          exact ⟨rfl, HC.out⟩
        · have he' : (e2 == 0) = false := by simpa using he
          have he2 : (e2 != 0) = true := by simpa using he
          have HE := hI he
          clear he
          go_wp2_with fail
          go_ret
          rw [stoppedA, HR.out, if_neg HE.out]
          exact ⟨rfl, HC.out⟩
end Go.Proofs.Ytiplepdmkbiehaa
namespace Go.Proofs.Ytiplepdmkbiehaa
set_option linter.unusedSimpArgs false
set_option linter.unusedVariables false
open Go.RowKit
/-- Where a value of a list lies. -/
theorem leaf_at {w : World} {F : Nat → Prop} {ts : List Tv} {rows : List Value} {b o cap : Nat} (h : TvsF w F ts rows) (hs : Sl w 5 (.slice (some ⟨b, o, none⟩) ts.length cap) ts.length rows) (k : Nat) (hk : k < ts.length) :
    ∃ bv, w.cell? ⟨b, o + k * 5 + 2, none⟩ = some (.int .u64 (ts[k].n : Int)) ∧ w.cell? ⟨b, o + k * 5 + 3, none⟩ = some bv ∧ Bs w bv ts[k].b := by
  obtain ⟨r, h1, h2⟩ := h.cells hs k hk
  obtain ⟨bv, lv, rows', rfl, hb, -⟩ := h1.open_
  exact ⟨bv, h2 2 _ rfl, h2 3 _ rfl, hb⟩
theorem odd_num {n : Nat} (h : n ≤ 1099511627776) : oddT (numT n) = false := by
  simp [oddT, numT, Tv.tag, Tv.kind, Tv.n, Nat.not_lt.2 h]
theorem odd_raw (b : List UInt8) : oddT (rawT b) = false := by
  simp [oddT, rawT, Tv.tag, Tv.kind, Tv.n]
theorem wpStill_exec {P : Program} {ops : Array Oper} {rest : List Oper} {o : Oper} {a : Act} {w : World} {Q : Act → Prop} (hgd : Region.wanted o (yielded ops a.tmps) = true) {v : Value} (hr : (execOp a.eval o).run P w = .ok (.value v) w)
    (h : wpStill P ops w Q rest (a.put o.dst v)) : wpStill P ops w Q (o :: rest) a := by
  refine wpStill_step fun K hK => ?_
  rw [if_pos hgd]
  unfold Oper.still
  simp only [hr]
  exact ⟨rfl, hK _ h⟩
theorem wpList_exec {P : Program} {ops : Array Oper} {rest : List Oper} {o : Oper} {a : Act} {w : World} {Q : Exit → Act → World → Prop} (hgd : Region.wanted o (yielded ops a.tmps) = true) {v : Value} (hr : (execOp a.eval o).run P w = .ok (.value v) w)
    (h : wpList P ops Q rest (a.put o.dst v) w) : wpList P ops Q (o :: rest) a w := by
  refine wpList_want hgd fun K hK => ?_
  unfold Oper.wp
  simp only [hr]
  exact hK _ _ h
theorem eq_dec (y k : Nat) : ((y : Int) == (k : Int)) = decide (y = k) := by
  by_cases h : y = k
  · subst h; simp
  · have h2 : ((y : Int) == (k : Int)) = false := by simp; omega
    rw [h2]; simp [h]
set_option maxRecDepth 100000 in
set_option maxHeartbeats 4000000 in
theorem appTake_chat (a q : Nat) (P : List Nat × List Nat) (A : AppF) (s : List UInt8) (v : Value) (l : List Res) (w : World) (h : Hold w (appR a q P A :: l)) (hb : Bs w v (enc 1 [rawT s])) (hs : s.length ≤ 900) (hl : A.log.length ≤ 1099511627776) :
    Calls Try.prog 31 #[.pointer (some ⟨a, 0, none⟩), v] w fun e w' => e = .returned (.int .i64 (heardA A (tx s)).2) ∧ Hold w' (appR a q P (heardA A (tx s)).1 :: l) := by
  have HC := hI h
  have hwk : WordOk 1 [rawT s] := wordOk (by decide) (by decide) (by simp) (by intro x hx; simp only [List.mem_cons, List.not_mem_nil, or_false] at hx; rcases hx with rfl <;> first | exact LeafT.num (by omega) | exact LeafT.raw (by omega))
  have HRD := hI (derWhole_any v _ w hb)
  have hrd := hwk.rd
  unfold enc at HRD
  rw [hrd] at HRD
  obtain ⟨va, vc, rfl, -, -⟩ := hb.form
  have HL := hI hl
  clear h hb hwk hrd hl
  go_enter Try.func31, Try.ntmps31
  go_wp2_with fail
  refine HRD.out.mono ?_
  rintro e w1 ⟨cs, rfl, htv, hbel⟩
  have HC1 := hI (HC.out.step hbel)
  have htv := htv.mono (G := TF) (fun _ _ => trivial)
  obtain ⟨bv, lv, rows, rfl, hbv, -, hlv, -, hts⟩ := htv.open_
  obtain ⟨ba, bc, rfl, -, -⟩ := hbv.form
  obtain ⟨la, lc, rfl, hlc, hlm⟩ := hlv.form
  simp only [Tv.kind, Tv.tag, Tv.n, Tv.b, Tv.l, wordT, List.length_cons, List.length_nil] at hlv hts hlc hlm
  have HN := hI (Blk.new w1 zs5 76)
  have HTV := hI htv
  have HLV := hI hlv
  have HTS := hI hts
  clear hbel htv hbv hlv hts HRD HC
  simp only [Tv.kind, Tv.tag, Tv.n, Tv.b, Tv.l, wordT, List.length_cons, List.length_nil]
  go_wp2_with ((with_reducible show wpList _ _ _ (⟨none, .store _ (.tmp 5) (.tmp 10), _, _, _, _⟩ :: _) _ _); refine wpList_stAgg rfl (.tmp 5) (.tmp 10) aggDer rfl rfl (vs := [.int .i64 2, .int .i64 1, .int .u64 ((0 : Nat) : Int), .slice ba 0 bc, .slice la 1 lc]) rfl rfl HN.out (Nat.le_refl _) (by intro u hu; simp at hu; rcases hu with rfl | rfl | rfl | rfl | rfl <;> rfl) ?_)
  intro w2 h2 k2
  have h2' : Blk w2 w1.heap.size [.int .i64 2, .int .i64 1, .int .u64 ((0 : Nat) : Int), .slice ba 0 bc, .slice la 1 lc] 76 := by simpa [zs5] using h2
  have hb2 : Below w1.heap.size w1 w2 := ((Below.refl _ _).alloc (Nat.le_refl _) _).trans (k2.below (by omega))
  have HC2 := hI (HC1.out.step hb2)
  have HLV2 := hI (HLV.out.below hb2)
  have HTS2 := hI (HTS.out.below hb2)
  have htv2 : TvF w2 TF (wordT 1 [rawT s]) [.int .i64 2, .int .i64 1, .int .u64 ((0 : Nat) : Int), .slice ba 0 bc, .slice la 1 lc] := HTV.out.below hb2
  have HQ := hI h2'
  have c1 : w2.cell? ⟨w1.heap.size, 1, none⟩ = some (.int .i64 1) := h2'.cell 1
  have hqlt := h2'.lt
  obtain ⟨p, hp⟩ : ∃ p, p = w1.heap.size := ⟨_, rfl⟩
  have HSH := hI (shape_any 1 [rawT s] _ (.slice (some ⟨w2.heap.size, 0, none⟩) 1 1) (w2.alloc (.cells #[.int .i64 1] 3)) (htv2.below ((Below.refl _ _).alloc (Nat.le_refl _) _)) (Sl.lit rfl rfl (by simp [intC, Value.oneCell']) (by unfold maxLen; decide)) (by intro x hx; simp only [List.mem_cons, List.not_mem_nil, or_false] at hx; rcases hx with rfl <;> first | exact odd_num (by omega) | exact odd_raw _))
  rw [← hp] at HQ c1 hqlt ⊢
  clear h2 k2 h2' hb2 htv2 HN HC1 HLV HTS HTV hp
  go_wp2_with ((with_reducible show wpList _ _ _ (⟨some 19, _, _, _, _, _⟩ :: _) _ _); refine wpList_ldAgg rfl (.tmp 5) aggDer rfl rfl (cs := [.int .i64 2, .int .i64 1, .int .u64 ((0 : Nat) : Int), .slice ba 0 bc, .slice la 1 lc]) rfl HQ.out.cellsAll ?_)
  refine HSH.out.mono ?_
  rintro e w3 ⟨rfl, hb⟩
  have hb3 : Below w2.heap.size w2 w3 := ((Below.refl _ _).alloc (Nat.le_refl _) _).trans (hb.mono (by simp))
  have HC3 := hI (HC2.out.step hb3)
  have HLV3 := hI (HLV2.out.below hb3)
  have HTS3 := hI (HTS2.out.below hb3)
  have HQ3 := hI (HQ.out.below hb3 hqlt)
  clear hb hb3 HSH HC2 HLV2 HTS2 HQ c1
  obtain ⟨bl, ol, rfl, -⟩ := HLV3.out.addr (by rw [HLV3.out.1]; decide)
  have y4 : w3.cell? ⟨p, 4, none⟩ = some (.slice (some ⟨bl, ol, none⟩) 1 lc) := (HQ3.out).cell 4
  obtain ⟨b0, -, x0, hb0⟩ := leaf_at (HTS3.out) (HLV3.out) 0 (by simp)
  simp only [List.getElem_cons_zero, List.getElem_cons_succ, numT, rawT, Tv.n, Tv.b, Nat.zero_mul, Nat.one_mul, Nat.reduceMul, Nat.add_zero] at x0 hb0
  obtain ⟨ba0, bc0, rfl, -, -⟩ := hb0.form
  have HB0 := hI hb0
  clear hb0
  have HAN := hI (appHeard_any a q P A (tx s) l w3 HC3.out (by rw [tx_size]; omega) HL.out)
  clear HC3 HLV3 HTS3 HQ3
  go_wp2_with ((with_reducible show wpList _ _ _ (⟨some 29, _, _, _, _, _⟩ :: _) _ _); refine wpList_exec rfl (exec_convS (v := .slice ba0 s.length bc0) rfl rfl HB0.out) ?_)
  refine HAN.out.mono ?_
  rintro e w5 ⟨rfl, hc⟩
  have HC := hI hc
  clear hc HAN
  go_wp2_with fail
  go_ret
  exact ⟨rfl, HC.out⟩
set_option maxRecDepth 100000 in
set_option maxHeartbeats 4000000 in
theorem appTake_offer (a q : Nat) (P : List Nat × List Nat) (A : AppF) (m sz : Nat) (ti sm : List UInt8) (v : Value) (l : List Res) (w : World) (h : Hold w (appR a q P A :: l)) (hb : Bs w v (enc 2 [numT m, rawT ti, numT sz, rawT sm])) (hm : m ≤ 1099511627776) (hti : ti.length ≤ 900) (hsz : sz ≤ 2048) (hsm : sm.length ≤ 900) (hl : A.log.length ≤ 1099511627776) (hfew : A.ins.length ≤ 1099511627776) :
    Calls Try.prog 31 #[.pointer (some ⟨a, 0, none⟩), v] w fun e w' => e = .returned (.int .i64 (offeredA A m (tx ti) sz sm).2) ∧ ∃ P', Hold w' (appR a q P' (offeredA A m (tx ti) sz sm).1 :: l) := by
  have HC := hI h
  have hwk : WordOk 2 [numT m, rawT ti, numT sz, rawT sm] := wordOk (by decide) (by decide) (by simp) (by intro x hx; simp only [List.mem_cons, List.not_mem_nil, or_false] at hx; rcases hx with rfl | rfl | rfl | rfl <;> first | exact LeafT.num (by omega) | exact LeafT.raw (by omega))
  have HRD := hI (derWhole_any v _ w hb)
  have hrd := hwk.rd
  unfold enc at HRD
  rw [hrd] at HRD
  obtain ⟨va, vc, rfl, -, -⟩ := hb.form
  have HL := hI hl
  have HFEW := hI hfew
  clear h hb hwk hrd hl hfew
  go_enter Try.func31, Try.ntmps31
  go_wp2_with fail
  refine HRD.out.mono ?_
  rintro e w1 ⟨cs, rfl, htv, hbel⟩
  have HC1 := hI (HC.out.step hbel)
  have htv := htv.mono (G := TF) (fun _ _ => trivial)
  obtain ⟨bv, lv, rows, rfl, hbv, -, hlv, -, hts⟩ := htv.open_
  obtain ⟨ba, bc, rfl, -, -⟩ := hbv.form
  obtain ⟨la, lc, rfl, hlc, hlm⟩ := hlv.form
  simp only [Tv.kind, Tv.tag, Tv.n, Tv.b, Tv.l, wordT, List.length_cons, List.length_nil] at hlv hts hlc hlm
  have HN := hI (Blk.new w1 zs5 76)
  have HTV := hI htv
  have HLV := hI hlv
  have HTS := hI hts
  clear hbel htv hbv hlv hts HRD HC
  simp only [Tv.kind, Tv.tag, Tv.n, Tv.b, Tv.l, wordT, List.length_cons, List.length_nil]
  go_wp2_with ((with_reducible show wpList _ _ _ (⟨none, .store _ (.tmp 5) (.tmp 10), _, _, _, _⟩ :: _) _ _); refine wpList_stAgg rfl (.tmp 5) (.tmp 10) aggDer rfl rfl (vs := [.int .i64 2, .int .i64 2, .int .u64 ((0 : Nat) : Int), .slice ba 0 bc, .slice la 4 lc]) rfl rfl HN.out (Nat.le_refl _) (by intro u hu; simp at hu; rcases hu with rfl | rfl | rfl | rfl | rfl <;> rfl) ?_)
  intro w2 h2 k2
  have h2' : Blk w2 w1.heap.size [.int .i64 2, .int .i64 2, .int .u64 ((0 : Nat) : Int), .slice ba 0 bc, .slice la 4 lc] 76 := by simpa [zs5] using h2
  have hb2 : Below w1.heap.size w1 w2 := ((Below.refl _ _).alloc (Nat.le_refl _) _).trans (k2.below (by omega))
  have HC2 := hI (HC1.out.step hb2)
  have HLV2 := hI (HLV.out.below hb2)
  have HTS2 := hI (HTS.out.below hb2)
  have htv2 : TvF w2 TF (wordT 2 [numT m, rawT ti, numT sz, rawT sm]) [.int .i64 2, .int .i64 2, .int .u64 ((0 : Nat) : Int), .slice ba 0 bc, .slice la 4 lc] := HTV.out.below hb2
  have HQ := hI h2'
  have c1 : w2.cell? ⟨w1.heap.size, 1, none⟩ = some (.int .i64 2) := h2'.cell 1
  have hqlt := h2'.lt
  obtain ⟨p, hp⟩ : ∃ p, p = w1.heap.size := ⟨_, rfl⟩
  have HSH := hI (shape_any 2 [numT m, rawT ti, numT sz, rawT sm] _ (.slice (some ⟨w2.heap.size, 0, none⟩) 4 4) (w2.alloc (.cells #[.int .i64 0, .int .i64 1, .int .i64 0, .int .i64 1] 3)) (htv2.below ((Below.refl _ _).alloc (Nat.le_refl _) _)) (Sl.lit rfl rfl (by simp [intC, Value.oneCell']) (by unfold maxLen; decide)) (by intro x hx; simp only [List.mem_cons, List.not_mem_nil, or_false] at hx; rcases hx with rfl | rfl | rfl | rfl <;> first | exact odd_num (by omega) | exact odd_raw _))
  rw [← hp] at HQ c1 hqlt ⊢
  clear h2 k2 h2' hb2 htv2 HN HC1 HLV HTS HTV hp
  go_wp2_with ((with_reducible show wpList _ _ _ (⟨some 36, _, _, _, _, _⟩ :: _) _ _); refine wpList_ldAgg rfl (.tmp 5) aggDer rfl rfl (cs := [.int .i64 2, .int .i64 2, .int .u64 ((0 : Nat) : Int), .slice ba 0 bc, .slice la 4 lc]) rfl HQ.out.cellsAll ?_)
  refine HSH.out.mono ?_
  rintro e w3 ⟨rfl, hb⟩
  have hb3 : Below w2.heap.size w2 w3 := ((Below.refl _ _).alloc (Nat.le_refl _) _).trans (hb.mono (by simp))
  have HC3 := hI (HC2.out.step hb3)
  have HLV3 := hI (HLV2.out.below hb3)
  have HTS3 := hI (HTS2.out.below hb3)
  have HQ3 := hI (HQ.out.below hb3 hqlt)
  clear hb hb3 HSH HC2 HLV2 HTS2 HQ c1
  obtain ⟨bl, ol, rfl, -⟩ := HLV3.out.addr (by rw [HLV3.out.1]; decide)
  go_upto_region 7 with fail
  have y4 : w3.drew.cell? ⟨p, 4, none⟩ = some (.slice (some ⟨bl, ol, none⟩) 4 lc) := (HQ3.out.drew).cell 4
  obtain ⟨_, x0, -, -⟩ := leaf_at (HTS3.out.below (Below.refl _ _).drew) (HLV3.out.below (Below.refl _ _).drew) 0 (by simp)
  obtain ⟨b1, -, x1, hb1⟩ := leaf_at (HTS3.out.below (Below.refl _ _).drew) (HLV3.out.below (Below.refl _ _).drew) 1 (by simp)
  obtain ⟨_, x2, -, -⟩ := leaf_at (HTS3.out.below (Below.refl _ _).drew) (HLV3.out.below (Below.refl _ _).drew) 2 (by simp)
  obtain ⟨b3, -, x3, hb3⟩ := leaf_at (HTS3.out.below (Below.refl _ _).drew) (HLV3.out.below (Below.refl _ _).drew) 3 (by simp)
  simp only [List.getElem_cons_zero, List.getElem_cons_succ, numT, rawT, Tv.n, Tv.b, Nat.zero_mul, Nat.one_mul, Nat.reduceMul, Nat.add_zero] at x0 x1 x2 x3 hb1 hb3
  have hw0 : IntKind.i64.wrap (m : Int) = m := by rw [IntKind.wrap_i64]; omega
  obtain ⟨ba1, bc1, rfl, -, -⟩ := hb1.form
  have HB1 := hI hb1
  clear hb1
  have hw2 : IntKind.i64.wrap (sz : Int) = sz := by rw [IntKind.wrap_i64]; omega
  obtain ⟨ba3, bc3, rfl, -, -⟩ := hb3.form
  have HB3 := hI hb3
  clear hb3
  refine wp_region_still_tail 24 (by kernel_rfl) (by kernel_rfl) ?_
  simp only [List.take_succ_cons, List.take_zero, List.drop_succ_cons, List.drop_zero]
  change wpStill _ _ w3.drew _ _ _
  iterate 12 still_step
  refine wpStill_exec rfl (exec_convS (v := .slice ba1 ti.length bc1) rfl rfl HB1.out) ?_
  simp only [Act.put, List.setIfInBounds_toArray, List.set_cons_zero, List.set_cons_succ]
  repeat still_step
  refine wpStill_nil ?_
  change wpList _ _ _ _ _ w3.drew
  have HAN := hI (appOffered_any a q P A m (tx ti) sz _ sm l w3.drew HC3.out.drew HB3.out (by omega) (by rw [tx_size]; omega) (by omega) (by omega) (by omega) HL.out HFEW.out)
  generalize w3.drew = w4 at *
  clear HC3 HLV3 HTS3 HQ3 y4 x0 x1 x2 x3
  go_wp2_with fail
  refine HAN.out.mono ?_
  rintro e w5 ⟨rfl, hc⟩
  have HC := hI hc
  clear hc HAN
  go_wp2_with fail
  go_ret
  exact ⟨rfl, HC.out⟩
set_option maxRecDepth 100000 in
set_option maxHeartbeats 4000000 in
theorem appTake_answer (a q : Nat) (P : List Nat × List Nat) (A : AppF) (m y : Nat) (v : Value) (l : List Res) (w : World) (h : Hold w (appR a q P A :: l)) (hb : Bs w v (enc 3 [numT m, numT y])) (hm : m ≤ 1099511627776) (hy : y ≤ 1099511627776) (hid : hasV A.outs m = true → OutOk (getV A.outs m OutF.nil)) (hl : A.log.length ≤ 1099511627775) :
    Calls Try.prog 31 #[.pointer (some ⟨a, 0, none⟩), v] w fun e w' => e = .returned (.int .i64 (answeredA A m (decide (y = 1))).2) ∧ Hold w' (appR a q P (answeredA A m (decide (y = 1))).1 :: l) := by
  have HC := hI h
  have hwk : WordOk 3 [numT m, numT y] := wordOk (by decide) (by decide) (by simp) (by intro x hx; simp only [List.mem_cons, List.not_mem_nil, or_false] at hx; rcases hx with rfl | rfl <;> first | exact LeafT.num (by omega) | exact LeafT.raw (by omega))
  have HRD := hI (derWhole_any v _ w hb)
  have hrd := hwk.rd
  unfold enc at HRD
  rw [hrd] at HRD
  obtain ⟨va, vc, rfl, -, -⟩ := hb.form
  have HID := hI hid
  have HL := hI hl
  clear h hb hwk hrd hid hl
  go_enter Try.func31, Try.ntmps31
  go_wp2_with fail
  refine HRD.out.mono ?_
  rintro e w1 ⟨cs, rfl, htv, hbel⟩
  have HC1 := hI (HC.out.step hbel)
  have htv := htv.mono (G := TF) (fun _ _ => trivial)
  obtain ⟨bv, lv, rows, rfl, hbv, -, hlv, -, hts⟩ := htv.open_
  obtain ⟨ba, bc, rfl, -, -⟩ := hbv.form
  obtain ⟨la, lc, rfl, hlc, hlm⟩ := hlv.form
  simp only [Tv.kind, Tv.tag, Tv.n, Tv.b, Tv.l, wordT, List.length_cons, List.length_nil] at hlv hts hlc hlm
  have HN := hI (Blk.new w1 zs5 76)
  have HTV := hI htv
  have HLV := hI hlv
  have HTS := hI hts
  clear hbel htv hbv hlv hts HRD HC
  simp only [Tv.kind, Tv.tag, Tv.n, Tv.b, Tv.l, wordT, List.length_cons, List.length_nil]
  go_wp2_with ((with_reducible show wpList _ _ _ (⟨none, .store _ (.tmp 5) (.tmp 10), _, _, _, _⟩ :: _) _ _); refine wpList_stAgg rfl (.tmp 5) (.tmp 10) aggDer rfl rfl (vs := [.int .i64 2, .int .i64 3, .int .u64 ((0 : Nat) : Int), .slice ba 0 bc, .slice la 2 lc]) rfl rfl HN.out (Nat.le_refl _) (by intro u hu; simp at hu; rcases hu with rfl | rfl | rfl | rfl | rfl <;> rfl) ?_)
  intro w2 h2 k2
  have h2' : Blk w2 w1.heap.size [.int .i64 2, .int .i64 3, .int .u64 ((0 : Nat) : Int), .slice ba 0 bc, .slice la 2 lc] 76 := by simpa [zs5] using h2
  have hb2 : Below w1.heap.size w1 w2 := ((Below.refl _ _).alloc (Nat.le_refl _) _).trans (k2.below (by omega))
  have HC2 := hI (HC1.out.step hb2)
  have HLV2 := hI (HLV.out.below hb2)
  have HTS2 := hI (HTS.out.below hb2)
  have htv2 : TvF w2 TF (wordT 3 [numT m, numT y]) [.int .i64 2, .int .i64 3, .int .u64 ((0 : Nat) : Int), .slice ba 0 bc, .slice la 2 lc] := HTV.out.below hb2
  have HQ := hI h2'
  have c1 : w2.cell? ⟨w1.heap.size, 1, none⟩ = some (.int .i64 3) := h2'.cell 1
  have hqlt := h2'.lt
  obtain ⟨p, hp⟩ : ∃ p, p = w1.heap.size := ⟨_, rfl⟩
  have HSH := hI (shape_any 3 [numT m, numT y] _ (.slice (some ⟨w2.heap.size, 0, none⟩) 2 2) (w2.alloc (.cells #[.int .i64 0, .int .i64 0] 3)) (htv2.below ((Below.refl _ _).alloc (Nat.le_refl _) _)) (Sl.lit rfl rfl (by simp [intC, Value.oneCell']) (by unfold maxLen; decide)) (by intro x hx; simp only [List.mem_cons, List.not_mem_nil, or_false] at hx; rcases hx with rfl | rfl <;> first | exact odd_num (by omega) | exact odd_raw _))
  rw [← hp] at HQ c1 hqlt ⊢
  clear h2 k2 h2' hb2 htv2 HN HC1 HLV HTS HTV hp
  go_wp2_with ((with_reducible show wpList _ _ _ (⟨some 70, _, _, _, _, _⟩ :: _) _ _); refine wpList_ldAgg rfl (.tmp 5) aggDer rfl rfl (cs := [.int .i64 2, .int .i64 3, .int .u64 ((0 : Nat) : Int), .slice ba 0 bc, .slice la 2 lc]) rfl HQ.out.cellsAll ?_)
  refine HSH.out.mono ?_
  rintro e w3 ⟨rfl, hb⟩
  have hb3 : Below w2.heap.size w2 w3 := ((Below.refl _ _).alloc (Nat.le_refl _) _).trans (hb.mono (by simp))
  have HC3 := hI (HC2.out.step hb3)
  have HLV3 := hI (HLV2.out.below hb3)
  have HTS3 := hI (HTS2.out.below hb3)
  have HQ3 := hI (HQ.out.below hb3 hqlt)
  clear hb hb3 HSH HC2 HLV2 HTS2 HQ c1
  obtain ⟨bl, ol, rfl, -⟩ := HLV3.out.addr (by rw [HLV3.out.1]; decide)
  go_upto_region 9 with fail
  have y4 : w3.drew.cell? ⟨p, 4, none⟩ = some (.slice (some ⟨bl, ol, none⟩) 2 lc) := (HQ3.out.drew).cell 4
  obtain ⟨_, x0, -, -⟩ := leaf_at (HTS3.out.below (Below.refl _ _).drew) (HLV3.out.below (Below.refl _ _).drew) 0 (by simp)
  obtain ⟨_, x1, -, -⟩ := leaf_at (HTS3.out.below (Below.refl _ _).drew) (HLV3.out.below (Below.refl _ _).drew) 1 (by simp)
  simp only [List.getElem_cons_zero, List.getElem_cons_succ, numT, rawT, Tv.n, Tv.b, Nat.zero_mul, Nat.one_mul, Nat.reduceMul, Nat.add_zero] at x0 x1
  have hw0 : IntKind.i64.wrap (m : Int) = m := by rw [IntKind.wrap_i64]; omega
  have hw1 : IntKind.i64.wrap (y : Int) = y := by rw [IntKind.wrap_i64]; omega
  refine wp_region_still_tail 13 (by kernel_rfl) (by kernel_rfl) ?_
  simp only [List.take_succ_cons, List.take_zero, List.drop_succ_cons, List.drop_zero]
  change wpStill _ _ w3.drew _ _ _
  repeat still_step
  refine wpStill_nil ?_
  change wpList _ _ _ _ _ w3.drew
  have HAN := hI (appAnswered_any a q P A m ((y : Int) == ((1 : Nat) : Int)) l w3.drew HC3.out.drew (by omega) HID.out HL.out)
  rw [eq_dec] at HAN
  generalize w3.drew = w4 at *
  clear HC3 HLV3 HTS3 HQ3 y4 x0 x1
  go_wp2_with fail
  rw [show ((y : Int) == 1) = decide (y = 1) from eq_dec y 1]
  refine HAN.out.mono ?_
  rintro e w5 ⟨rfl, hc⟩
  have HC := hI hc
  clear hc HAN
  go_wp2_with fail
  go_ret
  exact ⟨rfl, HC.out⟩
set_option maxRecDepth 100000 in
set_option maxHeartbeats 4000000 in
theorem appTake_chunk (a q : Nat) (P : List Nat × List Nat) (kv bv0 mp : Value) (t : Sums) (A : AppF) (m at1 : Nat) (b : List UInt8) (v : Value) (l : List Res) (w : World) (h : Hold w (appR a q P A :: tabR q kv bv0 mp t :: l)) (hb : Bs w v (enc 4 [numT m, numT at1, rawT b])) (hm : m ≤ 1099511627776) (ha : at1 ≤ 1099511627776) (hbl : b.length ≤ 900) (hid : hasV A.ins m = true → InOk (getV A.ins m InF.nil)) (hn : A.waits.length ≤ 1099511627776) (hl : A.log.length ≤ 1099511627776) (ht : t.length < 1099511627776) :
    Calls Try.prog 31 #[.pointer (some ⟨a, 0, none⟩), v] w fun e w' => e = .returned (.int .i64 (pieceA t A m at1 b).2.2) ∧ Hold w' (appR a q P (pieceA t A m at1 b).2.1 :: tabR q kv bv0 mp (pieceA t A m at1 b).1 :: l) := by
  have HC := hI h
  have hwk : WordOk 4 [numT m, numT at1, rawT b] := wordOk (by decide) (by decide) (by simp) (by intro x hx; simp only [List.mem_cons, List.not_mem_nil, or_false] at hx; rcases hx with rfl | rfl | rfl <;> first | exact LeafT.num (by omega) | exact LeafT.raw (by omega))
  have HRD := hI (derWhole_any v _ w hb)
  have hrd := hwk.rd
  unfold enc at HRD
  rw [hrd] at HRD
  obtain ⟨va, vc, rfl, -, -⟩ := hb.form
  have HID := hI hid
  have HN := hI hn
  have HL := hI hl
  have HT := hI ht
  clear h hb hwk hrd hid hn hl ht
  go_enter Try.func31, Try.ntmps31
  go_wp2_with fail
  refine HRD.out.mono ?_
  rintro e w1 ⟨cs, rfl, htv, hbel⟩
  have HC1 := hI (HC.out.step hbel)
  have htv := htv.mono (G := TF) (fun _ _ => trivial)
  obtain ⟨bv, lv, rows, rfl, hbv, -, hlv, -, hts⟩ := htv.open_
  obtain ⟨ba, bc, rfl, -, -⟩ := hbv.form
  obtain ⟨la, lc, rfl, hlc, hlm⟩ := hlv.form
  simp only [Tv.kind, Tv.tag, Tv.n, Tv.b, Tv.l, wordT, List.length_cons, List.length_nil] at hlv hts hlc hlm
  have HN := hI (Blk.new w1 zs5 76)
  have HTV := hI htv
  have HLV := hI hlv
  have HTS := hI hts
  clear hbel htv hbv hlv hts HRD HC
  simp only [Tv.kind, Tv.tag, Tv.n, Tv.b, Tv.l, wordT, List.length_cons, List.length_nil]
  go_wp2_with ((with_reducible show wpList _ _ _ (⟨none, .store _ (.tmp 5) (.tmp 10), _, _, _, _⟩ :: _) _ _); refine wpList_stAgg rfl (.tmp 5) (.tmp 10) aggDer rfl rfl (vs := [.int .i64 2, .int .i64 4, .int .u64 ((0 : Nat) : Int), .slice ba 0 bc, .slice la 3 lc]) rfl rfl HN.out (Nat.le_refl _) (by intro u hu; simp at hu; rcases hu with rfl | rfl | rfl | rfl | rfl <;> rfl) ?_)
  intro w2 h2 k2
  have h2' : Blk w2 w1.heap.size [.int .i64 2, .int .i64 4, .int .u64 ((0 : Nat) : Int), .slice ba 0 bc, .slice la 3 lc] 76 := by simpa [zs5] using h2
  have hb2 : Below w1.heap.size w1 w2 := ((Below.refl _ _).alloc (Nat.le_refl _) _).trans (k2.below (by omega))
  have HC2 := hI (HC1.out.step hb2)
  have HLV2 := hI (HLV.out.below hb2)
  have HTS2 := hI (HTS.out.below hb2)
  have htv2 : TvF w2 TF (wordT 4 [numT m, numT at1, rawT b]) [.int .i64 2, .int .i64 4, .int .u64 ((0 : Nat) : Int), .slice ba 0 bc, .slice la 3 lc] := HTV.out.below hb2
  have HQ := hI h2'
  have c1 : w2.cell? ⟨w1.heap.size, 1, none⟩ = some (.int .i64 4) := h2'.cell 1
  have hqlt := h2'.lt
  obtain ⟨p, hp⟩ : ∃ p, p = w1.heap.size := ⟨_, rfl⟩
  have HSH := hI (shape_any 4 [numT m, numT at1, rawT b] _ (.slice (some ⟨w2.heap.size, 0, none⟩) 3 3) (w2.alloc (.cells #[.int .i64 0, .int .i64 0, .int .i64 1] 3)) (htv2.below ((Below.refl _ _).alloc (Nat.le_refl _) _)) (Sl.lit rfl rfl (by simp [intC, Value.oneCell']) (by unfold maxLen; decide)) (by intro x hx; simp only [List.mem_cons, List.not_mem_nil, or_false] at hx; rcases hx with rfl | rfl | rfl <;> first | exact odd_num (by omega) | exact odd_raw _))
  rw [← hp] at HQ c1 hqlt ⊢
  clear h2 k2 h2' hb2 htv2 HN HC1 HLV HTS HTV hp
  go_wp2_with ((with_reducible show wpList _ _ _ (⟨some 93, _, _, _, _, _⟩ :: _) _ _); refine wpList_ldAgg rfl (.tmp 5) aggDer rfl rfl (cs := [.int .i64 2, .int .i64 4, .int .u64 ((0 : Nat) : Int), .slice ba 0 bc, .slice la 3 lc]) rfl HQ.out.cellsAll ?_)
  refine HSH.out.mono ?_
  rintro e w3 ⟨rfl, hb⟩
  have hb3 : Below w2.heap.size w2 w3 := ((Below.refl _ _).alloc (Nat.le_refl _) _).trans (hb.mono (by simp))
  have HC3 := hI (HC2.out.step hb3)
  have HLV3 := hI (HLV2.out.below hb3)
  have HTS3 := hI (HTS2.out.below hb3)
  have HQ3 := hI (HQ.out.below hb3 hqlt)
  clear hb hb3 HSH HC2 HLV2 HTS2 HQ c1
  obtain ⟨bl, ol, rfl, -⟩ := HLV3.out.addr (by rw [HLV3.out.1]; decide)
  go_upto_region 11 with fail
  have y4 : w3.drew.cell? ⟨p, 4, none⟩ = some (.slice (some ⟨bl, ol, none⟩) 3 lc) := (HQ3.out.drew).cell 4
  obtain ⟨_, x0, -, -⟩ := leaf_at (HTS3.out.below (Below.refl _ _).drew) (HLV3.out.below (Below.refl _ _).drew) 0 (by simp)
  obtain ⟨_, x1, -, -⟩ := leaf_at (HTS3.out.below (Below.refl _ _).drew) (HLV3.out.below (Below.refl _ _).drew) 1 (by simp)
  obtain ⟨b2, -, x2, hb2⟩ := leaf_at (HTS3.out.below (Below.refl _ _).drew) (HLV3.out.below (Below.refl _ _).drew) 2 (by simp)
  simp only [List.getElem_cons_zero, List.getElem_cons_succ, numT, rawT, Tv.n, Tv.b, Nat.zero_mul, Nat.one_mul, Nat.reduceMul, Nat.add_zero] at x0 x1 x2 hb2
  have hw0 : IntKind.i64.wrap (m : Int) = m := by rw [IntKind.wrap_i64]; omega
  have hw1 : IntKind.i64.wrap (at1 : Int) = at1 := by rw [IntKind.wrap_i64]; omega
  obtain ⟨ba2, bc2, rfl, -, -⟩ := hb2.form
  have HB2 := hI hb2
  clear hb2
  refine wp_region_still_tail 18 (by kernel_rfl) (by kernel_rfl) ?_
  simp only [List.take_succ_cons, List.take_zero, List.drop_succ_cons, List.drop_zero]
  change wpStill _ _ w3.drew _ _ _
  repeat still_step
  refine wpStill_nil ?_
  change wpList _ _ _ _ _ w3.drew
  have HAN := hI (appPiece_any a q P kv bv0 mp t A m at1 _ b l w3.drew HC3.out.drew HB2.out (by omega) (fun h => ⟨by omega, by omega, HID.out h⟩) HN.out HL.out HT.out)
  generalize w3.drew = w4 at *
  clear HC3 HLV3 HTS3 HQ3 y4 x0 x1 x2
  go_wp2_with fail
  refine HAN.out.mono ?_
  rintro e w5 ⟨rfl, hc⟩
  have HC := hI hc
  clear hc HAN
  go_wp2_with fail
  go_ret
  exact ⟨rfl, HC.out⟩
set_option maxRecDepth 100000 in
set_option maxHeartbeats 4000000 in
theorem appTake_came (a q : Nat) (P : List Nat × List Nat) (A : AppF) (m : Nat) (v : Value) (l : List Res) (w : World) (h : Hold w (appR a q P A :: l)) (hb : Bs w v (enc 5 [numT m])) (hm : m ≤ 1099511627776) (hid : hasV A.outs m = true → OutOk (getV A.outs m OutF.nil)) (hl : A.log.length ≤ 1099511627776) :
    Calls Try.prog 31 #[.pointer (some ⟨a, 0, none⟩), v] w fun e w' => e = .returned (.int .i64 (cameA A m).2) ∧ Hold w' (appR a q P (cameA A m).1 :: l) := by
  have HC := hI h
  have hwk : WordOk 5 [numT m] := wordOk (by decide) (by decide) (by simp) (by intro x hx; simp only [List.mem_cons, List.not_mem_nil, or_false] at hx; rcases hx with rfl <;> first | exact LeafT.num (by omega) | exact LeafT.raw (by omega))
  have HRD := hI (derWhole_any v _ w hb)
  have hrd := hwk.rd
  unfold enc at HRD
  rw [hrd] at HRD
  obtain ⟨va, vc, rfl, -, -⟩ := hb.form
  have HID := hI hid
  have HL := hI hl
  clear h hb hwk hrd hid hl
  go_enter Try.func31, Try.ntmps31
  go_wp2_with fail
  refine HRD.out.mono ?_
  rintro e w1 ⟨cs, rfl, htv, hbel⟩
  have HC1 := hI (HC.out.step hbel)
  have htv := htv.mono (G := TF) (fun _ _ => trivial)
  obtain ⟨bv, lv, rows, rfl, hbv, -, hlv, -, hts⟩ := htv.open_
  obtain ⟨ba, bc, rfl, -, -⟩ := hbv.form
  obtain ⟨la, lc, rfl, hlc, hlm⟩ := hlv.form
  simp only [Tv.kind, Tv.tag, Tv.n, Tv.b, Tv.l, wordT, List.length_cons, List.length_nil] at hlv hts hlc hlm
  have HN := hI (Blk.new w1 zs5 76)
  have HTV := hI htv
  have HLV := hI hlv
  have HTS := hI hts
  clear hbel htv hbv hlv hts HRD HC
  simp only [Tv.kind, Tv.tag, Tv.n, Tv.b, Tv.l, wordT, List.length_cons, List.length_nil]
  go_wp2_with ((with_reducible show wpList _ _ _ (⟨none, .store _ (.tmp 5) (.tmp 10), _, _, _, _⟩ :: _) _ _); refine wpList_stAgg rfl (.tmp 5) (.tmp 10) aggDer rfl rfl (vs := [.int .i64 2, .int .i64 5, .int .u64 ((0 : Nat) : Int), .slice ba 0 bc, .slice la 1 lc]) rfl rfl HN.out (Nat.le_refl _) (by intro u hu; simp at hu; rcases hu with rfl | rfl | rfl | rfl | rfl <;> rfl) ?_)
  intro w2 h2 k2
  have h2' : Blk w2 w1.heap.size [.int .i64 2, .int .i64 5, .int .u64 ((0 : Nat) : Int), .slice ba 0 bc, .slice la 1 lc] 76 := by simpa [zs5] using h2
  have hb2 : Below w1.heap.size w1 w2 := ((Below.refl _ _).alloc (Nat.le_refl _) _).trans (k2.below (by omega))
  have HC2 := hI (HC1.out.step hb2)
  have HLV2 := hI (HLV.out.below hb2)
  have HTS2 := hI (HTS.out.below hb2)
  have htv2 : TvF w2 TF (wordT 5 [numT m]) [.int .i64 2, .int .i64 5, .int .u64 ((0 : Nat) : Int), .slice ba 0 bc, .slice la 1 lc] := HTV.out.below hb2
  have HQ := hI h2'
  have c1 : w2.cell? ⟨w1.heap.size, 1, none⟩ = some (.int .i64 5) := h2'.cell 1
  have hqlt := h2'.lt
  obtain ⟨p, hp⟩ : ∃ p, p = w1.heap.size := ⟨_, rfl⟩
  have HSH := hI (shape_any 5 [numT m] _ (.slice (some ⟨w2.heap.size, 0, none⟩) 1 1) (w2.alloc (.cells #[.int .i64 0] 3)) (htv2.below ((Below.refl _ _).alloc (Nat.le_refl _) _)) (Sl.lit rfl rfl (by simp [intC, Value.oneCell']) (by unfold maxLen; decide)) (by intro x hx; simp only [List.mem_cons, List.not_mem_nil, or_false] at hx; rcases hx with rfl <;> first | exact odd_num (by omega) | exact odd_raw _))
  rw [← hp] at HQ c1 hqlt ⊢
  clear h2 k2 h2' hb2 htv2 HN HC1 HLV HTS HTV hp
  go_wp2_with ((with_reducible show wpList _ _ _ (⟨some 121, _, _, _, _, _⟩ :: _) _ _); refine wpList_ldAgg rfl (.tmp 5) aggDer rfl rfl (cs := [.int .i64 2, .int .i64 5, .int .u64 ((0 : Nat) : Int), .slice ba 0 bc, .slice la 1 lc]) rfl HQ.out.cellsAll ?_)
  refine HSH.out.mono ?_
  rintro e w3 ⟨rfl, hb⟩
  have hb3 : Below w2.heap.size w2 w3 := ((Below.refl _ _).alloc (Nat.le_refl _) _).trans (hb.mono (by simp))
  have HC3 := hI (HC2.out.step hb3)
  have HLV3 := hI (HLV2.out.below hb3)
  have HTS3 := hI (HTS2.out.below hb3)
  have HQ3 := hI (HQ.out.below hb3 hqlt)
  clear hb hb3 HSH HC2 HLV2 HTS2 HQ c1
  obtain ⟨bl, ol, rfl, -⟩ := HLV3.out.addr (by rw [HLV3.out.1]; decide)
  have y4 : w3.cell? ⟨p, 4, none⟩ = some (.slice (some ⟨bl, ol, none⟩) 1 lc) := (HQ3.out).cell 4
  obtain ⟨_, x0, -, -⟩ := leaf_at (HTS3.out) (HLV3.out) 0 (by simp)
  simp only [List.getElem_cons_zero, List.getElem_cons_succ, numT, rawT, Tv.n, Tv.b, Nat.zero_mul, Nat.one_mul, Nat.reduceMul, Nat.add_zero] at x0
  have hw0 : IntKind.i64.wrap (m : Int) = m := by rw [IntKind.wrap_i64]; omega
  have HAN := hI (appCame_any a q P A m l w3 HC3.out (by omega) HID.out HL.out)
  clear HC3 HLV3 HTS3 HQ3
  go_wp2_with fail
  refine HAN.out.mono ?_
  rintro e w5 ⟨rfl, hc⟩
  have HC := hI hc
  clear hc HAN
  go_wp2_with fail
  go_ret
  exact ⟨rfl, HC.out⟩
set_option maxRecDepth 100000 in
set_option maxHeartbeats 4000000 in
theorem appTake_stop (a q : Nat) (P : List Nat × List Nat) (A : AppF) (m f : Nat) (v : Value) (l : List Res) (w : World) (h : Hold w (appR a q P A :: l)) (hb : Bs w v (enc 6 [numT m, numT f])) (hm : m ≤ 1099511627776) (hf : f ≤ 1099511627776) (hn : A.waits.length ≤ 1099511627776) (hl : A.log.length ≤ 1099511627776) :
    Calls Try.prog 31 #[.pointer (some ⟨a, 0, none⟩), v] w fun e w' => e = .returned (.int .i64 (stoppedA A m (decide (f = 0))).2) ∧ Hold w' (appR a q P (stoppedA A m (decide (f = 0))).1 :: l) := by
  have HC := hI h
  have hwk : WordOk 6 [numT m, numT f] := wordOk (by decide) (by decide) (by simp) (by intro x hx; simp only [List.mem_cons, List.not_mem_nil, or_false] at hx; rcases hx with rfl | rfl <;> first | exact LeafT.num (by omega) | exact LeafT.raw (by omega))
  have HRD := hI (derWhole_any v _ w hb)
  have hrd := hwk.rd
  unfold enc at HRD
  rw [hrd] at HRD
  obtain ⟨va, vc, rfl, -, -⟩ := hb.form
  have HN := hI hn
  have HL := hI hl
  clear h hb hwk hrd hn hl
  go_enter Try.func31, Try.ntmps31
  go_wp2_with fail
  refine HRD.out.mono ?_
  rintro e w1 ⟨cs, rfl, htv, hbel⟩
  have HC1 := hI (HC.out.step hbel)
  have htv := htv.mono (G := TF) (fun _ _ => trivial)
  obtain ⟨bv, lv, rows, rfl, hbv, -, hlv, -, hts⟩ := htv.open_
  obtain ⟨ba, bc, rfl, -, -⟩ := hbv.form
  obtain ⟨la, lc, rfl, hlc, hlm⟩ := hlv.form
  simp only [Tv.kind, Tv.tag, Tv.n, Tv.b, Tv.l, wordT, List.length_cons, List.length_nil] at hlv hts hlc hlm
  have HN := hI (Blk.new w1 zs5 76)
  have HTV := hI htv
  have HLV := hI hlv
  have HTS := hI hts
  clear hbel htv hbv hlv hts HRD HC
  simp only [Tv.kind, Tv.tag, Tv.n, Tv.b, Tv.l, wordT, List.length_cons, List.length_nil]
  go_wp2_with ((with_reducible show wpList _ _ _ (⟨none, .store _ (.tmp 5) (.tmp 10), _, _, _, _⟩ :: _) _ _); refine wpList_stAgg rfl (.tmp 5) (.tmp 10) aggDer rfl rfl (vs := [.int .i64 2, .int .i64 6, .int .u64 ((0 : Nat) : Int), .slice ba 0 bc, .slice la 2 lc]) rfl rfl HN.out (Nat.le_refl _) (by intro u hu; simp at hu; rcases hu with rfl | rfl | rfl | rfl | rfl <;> rfl) ?_)
  intro w2 h2 k2
  have h2' : Blk w2 w1.heap.size [.int .i64 2, .int .i64 6, .int .u64 ((0 : Nat) : Int), .slice ba 0 bc, .slice la 2 lc] 76 := by simpa [zs5] using h2
  have hb2 : Below w1.heap.size w1 w2 := ((Below.refl _ _).alloc (Nat.le_refl _) _).trans (k2.below (by omega))
  have HC2 := hI (HC1.out.step hb2)
  have HLV2 := hI (HLV.out.below hb2)
  have HTS2 := hI (HTS.out.below hb2)
  have htv2 : TvF w2 TF (wordT 6 [numT m, numT f]) [.int .i64 2, .int .i64 6, .int .u64 ((0 : Nat) : Int), .slice ba 0 bc, .slice la 2 lc] := HTV.out.below hb2
  have HQ := hI h2'
  have c1 : w2.cell? ⟨w1.heap.size, 1, none⟩ = some (.int .i64 6) := h2'.cell 1
  have hqlt := h2'.lt
  obtain ⟨p, hp⟩ : ∃ p, p = w1.heap.size := ⟨_, rfl⟩
  have HSH := hI (shape_any 6 [numT m, numT f] _ (.slice (some ⟨w2.heap.size, 0, none⟩) 2 2) (w2.alloc (.cells #[.int .i64 0, .int .i64 0] 3)) (htv2.below ((Below.refl _ _).alloc (Nat.le_refl _) _)) (Sl.lit rfl rfl (by simp [intC, Value.oneCell']) (by unfold maxLen; decide)) (by intro x hx; simp only [List.mem_cons, List.not_mem_nil, or_false] at hx; rcases hx with rfl | rfl <;> first | exact odd_num (by omega) | exact odd_raw _))
  rw [← hp] at HQ c1 hqlt ⊢
  clear h2 k2 h2' hb2 htv2 HN HC1 HLV HTS HTV hp
  go_wp2_with ((with_reducible show wpList _ _ _ (⟨some 138, _, _, _, _, _⟩ :: _) _ _); refine wpList_ldAgg rfl (.tmp 5) aggDer rfl rfl (cs := [.int .i64 2, .int .i64 6, .int .u64 ((0 : Nat) : Int), .slice ba 0 bc, .slice la 2 lc]) rfl HQ.out.cellsAll ?_)
  refine HSH.out.mono ?_
  rintro e w3 ⟨rfl, hb⟩
  have hb3 : Below w2.heap.size w2 w3 := ((Below.refl _ _).alloc (Nat.le_refl _) _).trans (hb.mono (by simp))
  have HC3 := hI (HC2.out.step hb3)
  have HLV3 := hI (HLV2.out.below hb3)
  have HTS3 := hI (HTS2.out.below hb3)
  have HQ3 := hI (HQ.out.below hb3 hqlt)
  clear hb hb3 HSH HC2 HLV2 HTS2 HQ c1
  obtain ⟨bl, ol, rfl, -⟩ := HLV3.out.addr (by rw [HLV3.out.1]; decide)
  go_upto_region 15 with fail
  have y4 : w3.drew.cell? ⟨p, 4, none⟩ = some (.slice (some ⟨bl, ol, none⟩) 2 lc) := (HQ3.out.drew).cell 4
  obtain ⟨_, x0, -, -⟩ := leaf_at (HTS3.out.below (Below.refl _ _).drew) (HLV3.out.below (Below.refl _ _).drew) 0 (by simp)
  obtain ⟨_, x1, -, -⟩ := leaf_at (HTS3.out.below (Below.refl _ _).drew) (HLV3.out.below (Below.refl _ _).drew) 1 (by simp)
  simp only [List.getElem_cons_zero, List.getElem_cons_succ, numT, rawT, Tv.n, Tv.b, Nat.zero_mul, Nat.one_mul, Nat.reduceMul, Nat.add_zero] at x0 x1
  have hw0 : IntKind.i64.wrap (m : Int) = m := by rw [IntKind.wrap_i64]; omega
  have hw1 : IntKind.i64.wrap (f : Int) = f := by rw [IntKind.wrap_i64]; omega
  refine wp_region_still_tail 13 (by kernel_rfl) (by kernel_rfl) ?_
  simp only [List.take_succ_cons, List.take_zero, List.drop_succ_cons, List.drop_zero]
  change wpStill _ _ w3.drew _ _ _
  repeat still_step
  refine wpStill_nil ?_
  change wpList _ _ _ _ _ w3.drew
  have HAN := hI (appStopped_any a q P A m ((f : Int) == ((0 : Nat) : Int)) l w3.drew HC3.out.drew (by omega) (fun _ => by omega) HN.out HL.out)
  rw [eq_dec] at HAN
  generalize w3.drew = w4 at *
  clear HC3 HLV3 HTS3 HQ3 y4 x0 x1
  go_wp2_with fail
  rw [show ((f : Int) == 0) = decide (f = 0) from eq_dec f 0]
  refine HAN.out.mono ?_
  rintro e w5 ⟨rfl, hc⟩
  have HC := hI hc
  clear hc HAN
  go_wp2_with fail
  go_ret
  exact ⟨rfl, HC.out⟩
inductive Wd where
  | chat (s : List UInt8)
  | offer (m : Nat) (ti : List UInt8) (sz : Nat) (sm : List UInt8)
  | answer (m y : Nat)
  | chunk (m at1 : Nat) (b : List UInt8)
  | came (m : Nat)
  | stop (m f : Nat)
def Wd.enc : Wd → List UInt8
  | .chat s => Go.Proofs.Ytiplepdmkbiehaa.enc 1 [rawT s]
  | .offer m ti sz sm => Go.Proofs.Ytiplepdmkbiehaa.enc 2 [numT m, rawT ti, numT sz, rawT sm]
  | .answer m y => Go.Proofs.Ytiplepdmkbiehaa.enc 3 [numT m, numT y]
  | .chunk m at1 b => Go.Proofs.Ytiplepdmkbiehaa.enc 4 [numT m, numT at1, rawT b]
  | .came m => Go.Proofs.Ytiplepdmkbiehaa.enc 5 [numT m]
  | .stop m f => Go.Proofs.Ytiplepdmkbiehaa.enc 6 [numT m, numT f]
def Wd.ok : Wd → Prop
  | .chat s => s.length ≤ 900
  | .offer m ti sz sm => m ≤ 1099511627776 ∧ ti.length ≤ 900 ∧ sz ≤ 2048 ∧ sm.length ≤ 900
  | .answer m y => m ≤ 1099511627776 ∧ y ≤ 1
  | .chunk m at1 b => m ≤ 1099511627776 ∧ at1 ≤ 2048 ∧ b.length ≤ 900
  | .came m => m ≤ 1099511627776
  | .stop m f => m ≤ 1099511627776 ∧ f ≤ 1
def takeA (t : Sums) (A : AppF) : Wd → Sums × AppF
  | .chat s => (t, (heardA A (tx s)).1)
  | .offer m ti sz sm => (t, (offeredA A m (tx ti) sz sm).1)
  | .answer m y => (t, (answeredA A m (decide (y = 1))).1)
  | .chunk m at1 b => ((pieceA t A m at1 b).1, (pieceA t A m at1 b).2.1)
  | .came m => (t, (cameA A m).1)
  | .stop m f => (t, (stoppedA A m (decide (f = 0))).1)
/-- An end within bounds. -/
structure AppOk (A : AppF) : Prop where
  out : ∀ k, hasV A.outs k = true → OutOk (getV A.outs k OutF.nil)
  inn : ∀ k, hasV A.ins k = true → InOk (getV A.ins k InF.nil)
  waits : A.waits.length ≤ 1000000
  log : A.log.length ≤ 1000000
  ins : A.ins.length ≤ 1000000
  outs : A.outs.length ≤ 1000000
  names : A.names.length ≤ 1000000
theorem appTake_word (a q : Nat) (P : List Nat × List Nat) (kv bv mp : Value) (t : Sums) (A : AppF) (x : Wd) (v : Value) (l : List Res) (w : World) (h : Hold w (appR a q P A :: tabR q kv bv mp t :: l)) (hb : Bs w v x.enc) (hx : x.ok) (hA : AppOk A) (ht : t.length ≤ 1000000) :
    Calls Try.prog 31 #[.pointer (some ⟨a, 0, none⟩), v] w fun e w' => (∃ n, e = .returned (.int .i64 n)) ∧ ∃ P', Hold w' (appR a q P' (takeA t A x).2 :: tabR q kv bv mp (takeA t A x).1 :: l) := by
  have h1 := hA.waits
  have h2 := hA.log
  have h3 := hA.ins
  cases x with
  | chat s => exact (appTake_chat a q P A s v _ w h hb hx (by omega)).mono fun e w' hr => ⟨⟨_, hr.1⟩, P, hr.2⟩
  | offer m ti sz sm =>
    obtain ⟨x1, x2, x3, x4⟩ := hx
    exact (appTake_offer a q P A m sz ti sm v _ w h hb x1 x2 x3 x4 (by omega) (by omega)).mono fun e w' hr => ⟨⟨_, hr.1⟩, hr.2⟩
  | answer m y =>
    obtain ⟨x1, x2⟩ := hx
    exact (appTake_answer a q P A m y v _ w h hb x1 (by omega) (hA.out m) (by omega)).mono fun e w' hr => ⟨⟨_, hr.1⟩, P, hr.2⟩
  | chunk m at1 b =>
    obtain ⟨x1, x2, x3⟩ := hx
    exact (appTake_chunk a q P kv bv mp t A m at1 b v l w h hb x1 (by omega) x3 (hA.inn m) (by omega) (by omega) (by omega)).mono fun e w' hr => ⟨⟨_, hr.1⟩, P, hr.2⟩
  | came m => exact (appTake_came a q P A m v _ w h hb hx (hA.out m) (by omega)).mono fun e w' hr => ⟨⟨_, hr.1⟩, P, hr.2⟩
  | stop m f =>
    obtain ⟨x1, x2⟩ := hx
    exact (appTake_stop a q P A m f v _ w h hb x1 (by omega) (by omega) (by omega)).mono fun e w' hr => ⟨⟨_, hr.1⟩, P, hr.2⟩
theorem wpList_sliceV {P : Program} {w : World} {ops : Array Oper} {rest : List Oper} {o : Oper} {a : Act} {Q : Exit → Act → World → Prop} (hgd : Region.wanted o (yielded ops a.tmps) = true) {t : TypeId} {x : Operand} {lo hi mx : Option Operand} (ho : o.op = .slice t x lo hi mx) {v : Value}
    (hr : (Instr.sliceAt t (a.eval x) (lo.map a.eval) (hi.map a.eval) (mx.map a.eval)).run P w = .ok v w) (h : wpList P ops Q rest (a.put o.dst v) w) : wpList P ops Q (o :: rest) a w := by
  refine wpList_want hgd fun K hK => ?_
  unfold Oper.wp execOp
  simp only [ho, Sem.run_bind, Sem.run_pure, Result.andThen_ok, hr]
  exact hK _ _ h
theorem szRow : ∀ w, (sizeOf 40).run Try.prog w = .ok 1 w := by
  intro w
  obtain ⟨_, i, hi, _, hs, _⟩ := elRows
  simp [sizeOf, typeInfo, hi, hs]
/-- Where the first word lies, and what is left without it. -/
theorem appR_pop {W : World} {a q : Nat} {P : List Nat × List Nat} {id : Nat} {outs : List (Int × OutF)} {ins : List (Int × InF)} {names : List (Int × ByteArray)} {b : List UInt8} {ws : List (List UInt8)} {log : List EvF} {l : List Res}
    (h : Hold W (appR a q P ⟨id, outs, ins, names, b :: ws, log⟩ :: l)) : ∃ g o cap v, W.cell? ⟨a, 5, none⟩ = some (.slice (some ⟨g, o, none⟩) (ws.length + 1) cap) ∧ W.frozen? ⟨a, 5, none⟩ = false ∧ W.cell? ⟨g, o, none⟩ = some v ∧ ws.length + 1 ≤ cap ∧ cap ≤ maxLen ∧ Bs W v b ∧
      Hold (W.setCell ⟨a, 5, none⟩ (.slice (cutZ g o cap 1 1) ws.length (cap - 1))) (.row v b :: appR a q P ⟨id, outs, ins, names, ws, log⟩ :: l) := by
  obtain ⟨ob, ib, nb, wv, lv, h⟩ := appR_open h
  have hblk := h.blk0
  obtain ⟨vs, h1⟩ := waitsR_open h.pull5
  obtain ⟨g, o, cap, rfl, -, hc, hm, -⟩ := h1.ownZ0.form (by simp)
  have hlen := sumsR_len h1.tail
  obtain ⟨v, vs, rfl⟩ : ∃ v vs', vs = v :: vs' := by
    cases vs with
    | nil => simp at hlen
    | cons v vs' => exact ⟨v, vs', rfl⟩
  have hs := h1.ownZ0.sl
  obtain ⟨g', o', e, hcell⟩ := hs.addr (by simp)
  simp only [Option.some.injEq, Addr.mk.injEq, and_true] at e
  obtain ⟨rfl, rfl⟩ := e
  refine ⟨g, o, cap, v, hblk.cell 5, hblk.frozen 5, by simpa using hcell 0 v rfl, hc, hm, (Hold.star.1 h1.swap).row0, ?_⟩
  have h2 := h1.cutZ 1 (by simp)
  have h3 := h2.pull3.set 5 (.slice (Go.Proofs.Ytiplepdmkbiehaa.cutZ g o cap 1 1) ws.length (cap - 1))
  -- blk, ownZ, sumsR (v :: vs) (b :: ws), outs, ins, names, log, l
  have h4 := Hold.star.1 h3.pull3
  -- row v b, sumsR vs ws, blk, ownZ, outs, ..
  have h5 : Hold _ (waitsR (.slice (Go.Proofs.Ytiplepdmkbiehaa.cutZ g o cap 1 1) ws.length (cap - 1)) ws :: _) := waitsR_shut (by
    have := h4.pull4.pull3.swap
    simpa using this)
  exact (appR_shut h5.swap.push7.push5).swap
/-- The next chunk of a file. -/
def goO (o : OutF) : OutF := { o with sent := min (o.sent + 64) o.data.length, ahead := o.ahead + 1 }
def chunkB (o : OutF) : List UInt8 := (o.data.drop o.sent).take (min (o.sent + 64) o.data.length - o.sent)
def chunkW (A : AppF) (i : Nat) : List UInt8 := enc 4 [numT i, numT (getV A.outs i OutF.nil).sent, rawT (chunkB (getV A.outs i OutF.nil))]
def goA (A : AppF) (i : Nat) : AppF := { A with outs := setV A.outs i (goO (getV A.outs i OutF.nil)) }
/-- The first file of which something is to be sent. -/
def firstI (A : AppF) : Option Nat := (List.range' 1 A.id).find? fun i => decide (¬ outStop (getV A.outs i OutF.nil))
def nextA (A : AppF) : AppF × Option (List UInt8) :=
  match A.waits with
  | b :: ws => ({ A with waits := ws }, some b)
  | [] => match firstI A with
    | some i => (goA A i, some (chunkW A i))
    | none => (A, none)
def NextRes (a q : Nat) (P : List Nat × List Nat) (l : List Res) (r : AppF × Option (List UInt8)) (e : Ending) (w' : World) : Prop :=
  match r.2 with
  | some b => ∃ v, e = .returned (.tuple #[v, .bool true]) ∧ Hold w' (.row v b :: appR a q P r.1 :: l)
  | none => e = .returned (.tuple #[.slice none 0 0, .bool false]) ∧ Hold w' (appR a q P r.1 :: l)
set_option maxRecDepth 100000 in
set_option maxHeartbeats 4000000 in
theorem appNext_pop (a q : Nat) (P : List Nat × List Nat) (id : Nat) (outs : List (Int × OutF)) (ins : List (Int × InF)) (names : List (Int × ByteArray)) (b : List UInt8) (ws : List (List UInt8)) (log : List EvF) (l : List Res) (w : World) (h : Hold w (appR a q P ⟨id, outs, ins, names, b :: ws, log⟩ :: l)) :
    Calls Try.prog 30 #[.pointer (some ⟨a, 0, none⟩)] w (NextRes a q P l (nextA ⟨id, outs, ins, names, b :: ws, log⟩)) := by
  obtain ⟨g, o, cap, v, c5, f5, cg, hc, hm, hb, hfin⟩ := appR_pop h
  obtain ⟨va, vc, rfl, -, -⟩ := hb.form
  have HF := hI hfin
  unfold maxLen at hm
  have HCUT : Hid (∀ W, (Instr.sliceAt 29 (.slice (some ⟨g, o, none⟩) (ws.length + 1) cap) (some (.int .i64 1)) none none).run Try.prog W = .ok (.slice (cutZ g o cap 1 1) ws.length (cap - 1)) W) := hI (fun W => by
    have := run_sliceZ Try.underlying29 szRow g o (ws.length + 1) cap 1 (by omega) hc W
    simpa using this)
  have hlt : ((ws.length : Int) + 1 == 0) = false := by simp; omega
  have hlt2 : (((ws.length + 1 : Nat) : Int) == 0) = false := by simp; omega
  clear h hfin hb
  go_enter Try.func30, Try.ntmps30
  go_wp2_with ((with_reducible show wpList _ _ _ (⟨some 71, _, _, _, _, _⟩ :: _) _ _); refine wpList_sliceV rfl rfl (HCUT.out _) ?_)
  go_ret2
  exact ⟨_, rfl, HF.out⟩
end Go.Proofs.Ytiplepdmkbiehaa
