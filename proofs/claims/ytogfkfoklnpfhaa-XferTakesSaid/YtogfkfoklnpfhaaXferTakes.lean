/- The statement XferTakes, walked. (Printed by wip/tools/gentakes.py.) -/
import Derived.Test.YtogfkfoklnpfhaaTakesP
import Derived.Test.YtogfkfoklnpfhaaHReg
import Derived.Deep.DeepCutAuto
import Derived.Deep.CutBlock
namespace Go.Proofs.Ytogfkfoklnpfhaa
set_option linter.unusedSimpArgs false
set_option linter.unusedVariables false
open Go.RowKit

/-- A step. -/
structure StX where
  kind : Int
  at_ : Int
  bv : Value
  b : List UInt8
def TkStep' (size : Int) (of M : List UInt8) (k : Nat) (a : List (List UInt8) × InF × Int) (b : RefF × Int) : Prop :=
  ∃ S' st' data' g, a = (S', ⟨st', size, M, data'⟩, g) ∧ b = (⟨st', size, data', of⟩, g) ∧ TkInv size of S' st' data' k
theorem TkStep.to {size : Int} {of M : List UInt8} {k : Nat} {a : List (List UInt8) × InF × Int} {b : RefF × Int} (h : TkStep size of k a b) (hM : M = digM [] of) : TkStep' size of M k a b := by
  subst hM
  exact h
theorem inR_st {W : World} {p : Nat} {i : InF} {l : List Res} (h : Hold W (inR p i :: l)) : W.cell? ⟨p, 0, none⟩ = some (.int .i64 i.st) := by
  obtain ⟨_, _, _, _, _, _, _, _, ho⟩ := inR_open h
  exact (ho.blkOf (List.mem_cons_self)).cell 0
/-- Behind a step. -/
def TkPost (size : Int) (of M : List UInt8) (pi px q : Nat) (mp : Value) (ao : Option Addr) (co : Nat) (w : World) (k : Nat) (f g : Value) (wx : World) : Prop :=
  ∃ (S : List (List UInt8)) (st : Int) (data : List UInt8) (n : Int) (ad : Option Addr) (cd : Nat), f = .int .i64 n ∧ g = .int .i64 n ∧ TkInv size of S st data k ∧
    Hold wx [inR pi ⟨st, size, M, data⟩, tabR q (.slice none 0 0) (.slice none 0 0) mp S, .row (.slice ad data.length cd) data, .blk px [.int .i64 st, .int .i64 size, (.slice ad data.length cd), (.slice ao of.length co)] 51, .base w]
def StX.cells (x : StX) : List Value := [.int .i64 x.kind, .int .i64 x.at_, x.bv]
theorem aggSt21 : AggTy Try.prog 53 3 := AggTy.mk Try.underlying53 rfl (by kernel_rfl)
set_option maxRecDepth 100000 in
set_option maxHeartbeats 8000000 in
theorem takes_go (size : Int) (v sv : Value) (of : List UInt8) (l : List StX) (w : World) (h : Bs w v of) (hs : Sl w 3 sv l.length (l.map StX.cells).flatten) (hb : ∀ x ∈ l, Bs w x.bv x.b)
    (hof : of.length ≤ 300) (hll : l.length ≤ 60) (hz0 : 0 ≤ size) (hz1 : size ≤ 2048) :
    Calls Try.prog 5 #[.int .i64 size, v, sv] w fun e w' => e = .returned (.bool true) ∧ Below w.heap.size w w' := by
  obtain ⟨ao, co, rfl, hco, hmo⟩ := h.form
  obtain ⟨al, cl, rfl, hcl, hml⟩ := hs.form
  have HOF := Lib.hid h
  have HSL := Lib.hid hs
  have HBB := Lib.hid hb
  unfold maxLen at hmo hml
  clear h hs hb
  go_enter Try.func5, Try.ntmps5
  go_wp2_with fail
  refine (alive21_any w).mono ?_
  rintro e w1 ⟨rfl, hb⟩
  have HC := Lib.hid ((Hold.start w).step hb)
  clear hb
  go_wp2_with fail
  refine (symNew_any _ _ HC.out).mono ?_
  rintro e w2 ⟨q, mp, rfl, hc⟩
  have h1 := Lib.hid (digest_any q _ _ mp [] _ of _ _ hc (HOF.out.below (hc.baseOf (w0 := w) (by simp))) (by omega) (by decide))
  clear hc HC
  go_wp2_with fail
  refine h1.out.mono ?_
  rintro e w3 ⟨r, rfl, hc⟩
  obtain ⟨M, hM⟩ : ∃ M, M = digM [] of := ⟨_, rfl⟩
  have hMl : M.length = 16 := by rw [hM]; exact markB_length _ _
  have HM := Lib.hid hM
  have HML := Lib.hid hMl
  rw [← hM] at hc
  have h2 := Lib.hid (hear_any size _ M _ _ hc (hc.rowOf (v := .slice (some ⟨r, 0, none⟩) 16 16) (b := M) (by simp)) (by omega) hz0 hz1)
  clear hc hM hMl h1
  go_wp2_with fail
  refine h2.out.mono ?_
  rintro e w4 ⟨pi, rfl, hc⟩
  have HC : Hid (Hold w4 [inR pi ⟨0, size, M, []⟩, tabR q (.slice none 0 0) (.slice none 0 0) mp (digT [] of), .base w]) := Lib.hid ((hc).front (m := [_, _, _, _]) (l := []) [2, 0, 1, 3] 4 (by decide)|>.tail)
  have HI : Hid (TkInv size of (digT [] of) 0 [] 0) := Lib.hid ⟨by simpa using hz0, by decide, by decide, by simp, by simp [digT], by simp [digT]⟩
  obtain ⟨S0, hS0⟩ : ∃ S0, S0 = digT [] of := ⟨_, rfl⟩
  rw [← hS0] at HC HI
  clear hc h2 hS0
  have HC4 : Hid (Hold (w4.alloc (.cells #[.int .i64 0, .int .i64 size, .slice none 0 0, (.slice ao of.length co)] 51)) [.blk w4.heap.size [.int .i64 0, .int .i64 size, .slice none 0 0, (.slice ao of.length co)] 51, inR pi ⟨0, size, M, []⟩, tabR q (.slice none 0 0) (.slice none 0 0) mp S0, .base w]) := Lib.hid (HC.out.addBlk _ _)
  have HC : Hid (Hold (w4.alloc (.cells #[.int .i64 0, .int .i64 size, .slice none 0 0, (.slice ao of.length co)] 51)) [inR pi ⟨0, size, M, []⟩, tabR q (.slice none 0 0) (.slice none 0 0) mp S0, .row (.slice none 0 0) [], .blk w4.heap.size [.int .i64 0, .int .i64 size, .slice none 0 0, (.slice ao of.length co)] 51, .base w]) := Lib.hid ((HC4.out.addNilRow).front (m := [_, _, _, _, _]) (l := []) [2, 3, 0, 1, 4] 5 (by decide))
  clear HC4
  go_wp2_with fail
  obtain ⟨px, hpx⟩ : ∃ px, px = w4.heap.size := ⟨_, rfl⟩
  rw [← hpx] at HC ⊢
  clear hpx
  go_loopw [51] (fun i wr => ∃ (k : Nat) (S : List (List UInt8)) (st : Int) (data : List UInt8) (ad : Option Addr) (cd : Nat), k ≤ l.length ∧ i = .int .i64 k ∧ TkInv size of S st data k ∧
    Hold wr [inR pi ⟨st, size, M, data⟩, tabR q (.slice none 0 0) (.slice none 0 0) mp S, .row (.slice ad data.length cd) data, .blk px [.int .i64 st, .int .i64 size, (.slice ad data.length cd), (.slice ao of.length co)] 51, .base w]) (fun i _ => l.length - (intOf i).toNat)
  case atStart => exact ⟨0, S0, 0, [], none, 0, Nat.zero_le _, rfl, HI.out, HC.out⟩
  case round =>
    obtain ⟨k, S, st, data, ad, cd, hk, rfl, hinv, hr⟩ := hrel
    have HI := Lib.hid hinv
    have HC := Lib.hid hr
    clear hinv hr
    by_cases hlt : k < l.length
    · obtain ⟨x, hx⟩ : ∃ x, x = l[k] := ⟨_, rfl⟩
      have hxm : x ∈ l := by rw [hx]; exact List.getElem_mem hlt
      have hxb := HBB.out x hxm
      obtain ⟨ab, cb, hxv, hcb, hmb⟩ := hxb.form
      obtain ⟨bl, ol, hal, hcell⟩ := HSL.out.addr (by rw [HSL.out.1]; omega)
      subst hal
      have hbw := HC.out.baseOf (w0 := w) (by simp)
      have hel : ∀ (j : Nat) u, x.cells[j]? = some u → wr.cell? ⟨bl, ol + k * 3 + j, none⟩ = some u := by
        intro j u hj
        have hj' : j < 3 := by have := (List.getElem?_eq_some_iff.1 hj).1; simpa [StX.cells] using this
        have := hcell (k * 3 + j) u (by rw [flatC_at (n := 3) StX.cells l (fun _ _ => rfl) k j hlt hj', ← hx]; exact hj)
        rw [Nat.add_assoc]
        exact below_cell hbw this
      have e0 := hel 0 (.int .i64 x.kind) rfl
      have e1 := hel 1 (.int .i64 x.at_) rfl
      have e2 := hel 2 (.slice ab x.b.length cb) (by rw [← hxv]; rfl)
      rw [Nat.add_zero] at e0
      have hki : (k : Int) < l.length := by omega
      rw [hxv] at hxb
      have HXB := Lib.hid hxb
      unfold maxLen at hmb
      clear hx hxm hxv hcell hbw hel hxb
      have hkp := HC.out.blkOf (p := px) (cs := [.int .i64 st, .int .i64 size, (.slice ad data.length cd), (.slice ao of.length co)]) (T := 51) (by simp)
      have hpl := hkp.lt
      have q0 := hkp.cell 0
      have q1 := hkp.cell 1
      have q2 := hkp.cell 2
      have q3 := hkp.cell 3
      simp only [List.getElem?_cons_succ, List.getElem?_cons_zero] at q0 q1 q2 q3
      clear hkp
      have HC := Lib.hid (HC.out.addBlk [.int .i64 x.kind, .int .i64 x.at_, .slice ab x.b.length cb] 53)
      by_cases hlong : 200 < x.b.length
      · have hlong' : (200 : Int) < x.b.length := by omega
        go_wp2_with fail
        go_roundw
        case rel => exact ⟨k + 1, S, st, data, ad, cd, by omega, by go_num, HI.out.next, HC.out.tail⟩
        case measure => simp [intOf]; omega
      · have hlong' : ¬ ((200 : Int) < x.b.length) := by omega
        go_upto_block 2 with fail
        go_cut [13, 14] (fun f g wx => TkPost size of M pi px q mp ao co w (k + 1) f g wx)
        case first =>
          by_cases hy0 : x.kind = 0
          · have hk0 : x.kind = 0 := hy0
            have hkb : (x.kind == 0) = true := by simpa using hk0
            have HK := Lib.hid hk0
            clear hy0 hk0
            have hTK := (by have h := tk_accept HI.out (by omega); rw [← HM.out] at h; exact h.to HM.out : TkStep' size of M (k + 1) _ _)
            obtain ⟨S', st', data', g, hq1, hq2, hinv⟩ := hTK
            skip
            skip
            skip
            have HQ1 := Lib.hid hq1
            have HQ2 := Lib.hid hq2
            have HI' := Lib.hid hinv
            clear hq1 hq2 hinv
            have hcA := HC.out.front (m := [_, _, _, _, _, _]) (l := []) [3, 0, 1, 2, 4, 5] 6 (by decide)
            have hof1 := HOF.out.below ((HC.out.baseOf (w0 := w) (by simp)))
            have hA := refAccept_any (.slice ad data.length cd) (.slice ao of.length co) ⟨st, size, data, of⟩ _ _ hcA hof1
            rw [HQ2.out] at hA
            have HA := Lib.hid hA
            clear hA hcA hof1
            go_wp2_with fail
            refine HA.out.mono ?_
            rintro e w5 ⟨dv', rfl, hc⟩
            have hf : Bs w5 dv' data' := hc.rowOf (by simp)
            obtain ⟨a', c', rfl, hc5, hm5⟩ := hf.form
            simp only at hc
            have hkp := hc.blkOf (p := px) (cs := [.int .i64 st, .int .i64 size, (.slice ad data.length cd), (.slice ao of.length co)]) (T := 51) (by simp)
            have p0 := hkp.cell 0
            have fp0 := hkp.frozen 0
            have p1 := hkp.cell 1
            have fp1 := hkp.frozen 1
            have p2 := hkp.cell 2
            have fp2 := hkp.frozen 2
            have p3 := hkp.cell 3
            have fp3 := hkp.frozen 3
            simp only [List.getElem?_cons_succ, List.getElem?_cons_zero] at p0 p1 p2 p3
            have hks := hc.blkOf (p := wr.heap.size) (cs := [.int .i64 x.kind, .int .i64 x.at_, .slice ab x.b.length cb]) (T := 53) (by simp)
            have s1 := hks.cell 1
            have s2 := hks.cell 2
            simp only [List.getElem?_cons_succ, List.getElem?_cons_zero] at s1 s2
            have hlp := hkp.lt
            have hls := hks.lt
            have hne : px ≠ wr.heap.size := by omega
            have hne' : wr.heap.size ≠ px := by omega
            have HC : Hid (Hold w5 [.blk px [.int .i64 st, .int .i64 size, (.slice ad data.length cd), (.slice ao of.length co)] 51, .row (.slice a' data'.length c') data', .blk wr.heap.size [.int .i64 x.kind, .int .i64 x.at_, .slice ab x.b.length cb] 53, inR pi ⟨st, size, M, data⟩, tabR q (.slice none 0 0) (.slice none 0 0) mp S, .base w]) := Lib.hid ((hc).front (m := [_, _, _, _, _, _]) (l := []) [4, 0, 1, 2, 3, 5] 6 (by decide))
            have HC := Lib.hid ((((HC.out.set 0 (.int .i64 st')).set 1 (.int .i64 size)).set 2 (.slice a' data'.length c')).set 3 (.slice ao of.length co))
            simp only [List.set_cons_zero, List.set_cons_succ] at HC
            have HC : Hid (Hold _ [inR pi ⟨st, size, M, data⟩, tabR q (.slice none 0 0) (.slice none 0 0) mp S, .row (.slice a' data'.length c') data', .blk px [.int .i64 st', .int .i64 size, .slice a' data'.length c', (.slice ao of.length co)] 51, .base w]) := Lib.hid (((HC.out).front (m := [_, _, _, _, _, _]) (l := []) [2, 3, 4, 1, 0, 5] 6 (by decide)).tail)
            have hlI := HI.out.len
            have hB := inAccept_any pi q (.slice none 0 0) (.slice none 0 0) mp S ⟨st, size, M, data⟩ _ _ HC.out (by simp only; omega) (by simp only; rw [HML.out]; decide) (by have := HI.out.cnt; omega) hz0 hz1
            rw [HQ1.out] at hB
            have HB := Lib.hid hB
            clear hB hc hf hkp hks hm5 hc5
            go_wp2_with fail
            refine HB.out.mono ?_
            rintro e w6 ⟨rfl, hc⟩
            try simp only at hc
            have HC := Lib.hid hc
            clear hc
            go_wp2_with fail
            go_meet
            exact ⟨_, st', data', g, a', c', rfl, rfl, HI'.out, HC.out⟩
          have hn0 : (x.kind == 0) = false := by simpa using hy0
          by_cases hy1 : x.kind = 1
          · have hk0 : x.kind = 1 := hy1
            have hkb : (x.kind == 1) = true := by simpa using hk0
            have HK := Lib.hid hk0
            clear hy1 hk0
            have hTK := (by have h := tk_refuse HI.out; rw [← HM.out] at h; exact h.to HM.out : TkStep' size of M (k + 1) _ _)
            obtain ⟨S', st', data', g, hq0, hq2, hinv⟩ := hTK
            obtain ⟨hS, hq1⟩ := Prod.mk.inj hq0
            clear hq0
            subst hS
            have HQ1 := Lib.hid hq1
            have HQ2 := Lib.hid hq2
            have HI' := Lib.hid hinv
            clear hq1 hq2 hinv
            have hcA := HC.out.front (m := [_, _, _, _, _, _]) (l := []) [3, 0, 1, 2, 4, 5] 6 (by decide)
            have hof1 := HOF.out.below ((HC.out.baseOf (w0 := w) (by simp)))
            have hA := refRefuse_any (.slice ad data.length cd) (.slice ao of.length co) ⟨st, size, data, of⟩ _ _ hcA hof1
            rw [HQ2.out] at hA
            have HA := Lib.hid hA
            clear hA hcA hof1
            go_wp2_with fail
            refine HA.out.mono ?_
            rintro e w5 ⟨dv', rfl, hc⟩
            have hf : Bs w5 dv' data' := hc.rowOf (by simp)
            obtain ⟨a', c', rfl, hc5, hm5⟩ := hf.form
            simp only at hc
            have hkp := hc.blkOf (p := px) (cs := [.int .i64 st, .int .i64 size, (.slice ad data.length cd), (.slice ao of.length co)]) (T := 51) (by simp)
            have p0 := hkp.cell 0
            have fp0 := hkp.frozen 0
            have p1 := hkp.cell 1
            have fp1 := hkp.frozen 1
            have p2 := hkp.cell 2
            have fp2 := hkp.frozen 2
            have p3 := hkp.cell 3
            have fp3 := hkp.frozen 3
            simp only [List.getElem?_cons_succ, List.getElem?_cons_zero] at p0 p1 p2 p3
            have hks := hc.blkOf (p := wr.heap.size) (cs := [.int .i64 x.kind, .int .i64 x.at_, .slice ab x.b.length cb]) (T := 53) (by simp)
            have s1 := hks.cell 1
            have s2 := hks.cell 2
            simp only [List.getElem?_cons_succ, List.getElem?_cons_zero] at s1 s2
            have hlp := hkp.lt
            have hls := hks.lt
            have hne : px ≠ wr.heap.size := by omega
            have hne' : wr.heap.size ≠ px := by omega
            have HC : Hid (Hold w5 [.blk px [.int .i64 st, .int .i64 size, (.slice ad data.length cd), (.slice ao of.length co)] 51, .row (.slice a' data'.length c') data', .blk wr.heap.size [.int .i64 x.kind, .int .i64 x.at_, .slice ab x.b.length cb] 53, inR pi ⟨st, size, M, data⟩, tabR q (.slice none 0 0) (.slice none 0 0) mp S, .base w]) := Lib.hid ((hc).front (m := [_, _, _, _, _, _]) (l := []) [4, 0, 1, 2, 3, 5] 6 (by decide))
            have HC := Lib.hid ((((HC.out.set 0 (.int .i64 st')).set 1 (.int .i64 size)).set 2 (.slice a' data'.length c')).set 3 (.slice ao of.length co))
            simp only [List.set_cons_zero, List.set_cons_succ] at HC
            have HC : Hid (Hold _ [inR pi ⟨st, size, M, data⟩, tabR q (.slice none 0 0) (.slice none 0 0) mp S, .row (.slice a' data'.length c') data', .blk px [.int .i64 st', .int .i64 size, .slice a' data'.length c', (.slice ao of.length co)] 51, .base w]) := Lib.hid (((HC.out).front (m := [_, _, _, _, _, _]) (l := []) [2, 3, 4, 1, 0, 5] 6 (by decide)).tail)
            have hlI := HI.out.len
            have hB := inRefuse_any pi ⟨st, size, M, data⟩ _ _ HC.out
            rw [HQ1.out] at hB
            have HB := Lib.hid hB
            clear hB hc hf hkp hks hm5 hc5
            go_wp2_with fail
            refine HB.out.mono ?_
            rintro e w6 ⟨rfl, hc⟩
            try simp only at hc
            have HC := Lib.hid hc
            clear hc
            go_wp2_with fail
            go_meet
            exact ⟨_, st', data', g, a', c', rfl, rfl, HI'.out, HC.out⟩
          have hn1 : (x.kind == 1) = false := by simpa using hy1
          by_cases hy2 : x.kind = 2
          · have hk0 : x.kind = 2 := hy2
            have hkb : (x.kind == 2) = true := by simpa using hk0
            have HK := Lib.hid hk0
            clear hy2 hk0
            have hTK := (by have h := tk_take HI.out (by omega) x.at_ x.b; rw [← HM.out] at h; exact h.to HM.out : TkStep' size of M (k + 1) _ _)
            obtain ⟨S', st', data', g, hq1, hq2, hinv⟩ := hTK
            skip
            skip
            skip
            have HQ1 := Lib.hid hq1
            have HQ2 := Lib.hid hq2
            have HI' := Lib.hid hinv
            clear hq1 hq2 hinv
            have hcA := HC.out.front (m := [_, _, _, _, _, _]) (l := []) [3, 0, 1, 2, 4, 5] 6 (by decide)
            have hof1 := HOF.out.below ((HC.out.baseOf (w0 := w) (by simp)))
            have hA := refTake_any (.slice ad data.length cd) (.slice ao of.length co) ⟨st, size, data, of⟩ x.at_ (.slice ab x.b.length cb) x.b _ _ hcA hof1 (HXB.out.below (HC.out.baseOf (w0 := w) (by simp))) (by simp only; have := HI.out.len; omega)
            rw [HQ2.out] at hA
            have HA := Lib.hid hA
            clear hA hcA hof1
            go_wp2_with fail
            refine HA.out.mono ?_
            rintro e w5 ⟨dv', rfl, hc⟩
            have hf : Bs w5 dv' data' := hc.rowOf (by simp)
            obtain ⟨a', c', rfl, hc5, hm5⟩ := hf.form
            simp only at hc
            have hkp := hc.blkOf (p := px) (cs := [.int .i64 st, .int .i64 size, (.slice ad data.length cd), (.slice ao of.length co)]) (T := 51) (by simp)
            have p0 := hkp.cell 0
            have fp0 := hkp.frozen 0
            have p1 := hkp.cell 1
            have fp1 := hkp.frozen 1
            have p2 := hkp.cell 2
            have fp2 := hkp.frozen 2
            have p3 := hkp.cell 3
            have fp3 := hkp.frozen 3
            simp only [List.getElem?_cons_succ, List.getElem?_cons_zero] at p0 p1 p2 p3
            have hks := hc.blkOf (p := wr.heap.size) (cs := [.int .i64 x.kind, .int .i64 x.at_, .slice ab x.b.length cb]) (T := 53) (by simp)
            have s1 := hks.cell 1
            have s2 := hks.cell 2
            simp only [List.getElem?_cons_succ, List.getElem?_cons_zero] at s1 s2
            have hlp := hkp.lt
            have hls := hks.lt
            have hne : px ≠ wr.heap.size := by omega
            have hne' : wr.heap.size ≠ px := by omega
            have HC : Hid (Hold w5 [.blk px [.int .i64 st, .int .i64 size, (.slice ad data.length cd), (.slice ao of.length co)] 51, .row (.slice a' data'.length c') data', .blk wr.heap.size [.int .i64 x.kind, .int .i64 x.at_, .slice ab x.b.length cb] 53, inR pi ⟨st, size, M, data⟩, tabR q (.slice none 0 0) (.slice none 0 0) mp S, .base w]) := Lib.hid ((hc).front (m := [_, _, _, _, _, _]) (l := []) [4, 0, 1, 2, 3, 5] 6 (by decide))
            have HC := Lib.hid ((((HC.out.set 0 (.int .i64 st')).set 1 (.int .i64 size)).set 2 (.slice a' data'.length c')).set 3 (.slice ao of.length co))
            simp only [List.set_cons_zero, List.set_cons_succ] at HC
            have HC : Hid (Hold _ [inR pi ⟨st, size, M, data⟩, tabR q (.slice none 0 0) (.slice none 0 0) mp S, .row (.slice a' data'.length c') data', .blk px [.int .i64 st', .int .i64 size, .slice a' data'.length c', (.slice ao of.length co)] 51, .base w]) := Lib.hid (((HC.out).front (m := [_, _, _, _, _, _]) (l := []) [2, 3, 4, 1, 0, 5] 6 (by decide)).tail)
            have hlI := HI.out.len
            have hB := inTake_any pi q (.slice none 0 0) (.slice none 0 0) mp S ⟨st, size, M, data⟩ x.at_ (.slice ab x.b.length cb) x.b _ _ HC.out (HXB.out.below (HC.out.baseOf (w0 := w) (by simp))) (by simp only; omega) (by simp only; rw [HML.out]; decide) (by have := HI.out.cnt; omega) hz1
            rw [HQ1.out] at hB
            have HB := Lib.hid hB
            clear hB hc hf hkp hks hm5 hc5
            go_wp2_with fail
            refine HB.out.mono ?_
            rintro e w6 ⟨rfl, hc⟩
            try simp only at hc
            have HC := Lib.hid hc
            clear hc
            go_wp2_with fail
            go_meet
            exact ⟨_, st', data', g, a', c', rfl, rfl, HI'.out, HC.out⟩
          have hn2 : (x.kind == 2) = false := by simpa using hy2
          by_cases hy3 : x.kind = 3
          · have hk0 : x.kind = 3 := hy3
            have hkb : (x.kind == 3) = true := by simpa using hk0
            have HK := Lib.hid hk0
            clear hy3 hk0
            have hTK := (by have h := tk_break HI.out hz0; rw [← HM.out] at h; exact h.to HM.out : TkStep' size of M (k + 1) _ _)
            obtain ⟨S', st', data', g, hq0, hq2, hinv⟩ := hTK
            obtain ⟨hS, hq1⟩ := Prod.mk.inj hq0
            clear hq0
            subst hS
            have HQ1 := Lib.hid hq1
            have HQ2 := Lib.hid hq2
            have HI' := Lib.hid hinv
            clear hq1 hq2 hinv
            have hcA := HC.out.front (m := [_, _, _, _, _, _]) (l := []) [3, 0, 1, 2, 4, 5] 6 (by decide)
            have hof1 := HOF.out.below ((HC.out.baseOf (w0 := w) (by simp)))
            have hA := refBreak_any (.slice ad data.length cd) (.slice ao of.length co) ⟨st, size, data, of⟩ _ _ hcA hof1
            rw [HQ2.out] at hA
            have HA := Lib.hid hA
            clear hA hcA hof1
            go_wp2_with fail
            refine HA.out.mono ?_
            rintro e w5 ⟨dv', rfl, hc⟩
            have hf : Bs w5 dv' data' := hc.rowOf (by simp)
            obtain ⟨a', c', rfl, hc5, hm5⟩ := hf.form
            simp only at hc
            have hkp := hc.blkOf (p := px) (cs := [.int .i64 st, .int .i64 size, (.slice ad data.length cd), (.slice ao of.length co)]) (T := 51) (by simp)
            have p0 := hkp.cell 0
            have fp0 := hkp.frozen 0
            have p1 := hkp.cell 1
            have fp1 := hkp.frozen 1
            have p2 := hkp.cell 2
            have fp2 := hkp.frozen 2
            have p3 := hkp.cell 3
            have fp3 := hkp.frozen 3
            simp only [List.getElem?_cons_succ, List.getElem?_cons_zero] at p0 p1 p2 p3
            have hks := hc.blkOf (p := wr.heap.size) (cs := [.int .i64 x.kind, .int .i64 x.at_, .slice ab x.b.length cb]) (T := 53) (by simp)
            have s1 := hks.cell 1
            have s2 := hks.cell 2
            simp only [List.getElem?_cons_succ, List.getElem?_cons_zero] at s1 s2
            have hlp := hkp.lt
            have hls := hks.lt
            have hne : px ≠ wr.heap.size := by omega
            have hne' : wr.heap.size ≠ px := by omega
            have HC : Hid (Hold w5 [.blk px [.int .i64 st, .int .i64 size, (.slice ad data.length cd), (.slice ao of.length co)] 51, .row (.slice a' data'.length c') data', .blk wr.heap.size [.int .i64 x.kind, .int .i64 x.at_, .slice ab x.b.length cb] 53, inR pi ⟨st, size, M, data⟩, tabR q (.slice none 0 0) (.slice none 0 0) mp S, .base w]) := Lib.hid ((hc).front (m := [_, _, _, _, _, _]) (l := []) [4, 0, 1, 2, 3, 5] 6 (by decide))
            have HC := Lib.hid ((((HC.out.set 0 (.int .i64 st')).set 1 (.int .i64 size)).set 2 (.slice a' data'.length c')).set 3 (.slice ao of.length co))
            simp only [List.set_cons_zero, List.set_cons_succ] at HC
            have HC : Hid (Hold _ [inR pi ⟨st, size, M, data⟩, tabR q (.slice none 0 0) (.slice none 0 0) mp S, .row (.slice a' data'.length c') data', .blk px [.int .i64 st', .int .i64 size, .slice a' data'.length c', (.slice ao of.length co)] 51, .base w]) := Lib.hid (((HC.out).front (m := [_, _, _, _, _, _]) (l := []) [2, 3, 4, 1, 0, 5] 6 (by decide)).tail)
            have hlI := HI.out.len
            have hB := inBreak_any pi ⟨st, size, M, data⟩ _ _ HC.out
            rw [HQ1.out] at hB
            have HB := Lib.hid hB
            clear hB hc hf hkp hks hm5 hc5
            go_wp2_with fail
            refine HB.out.mono ?_
            rintro e w6 ⟨rfl, hc⟩
            try simp only at hc
            have HC := Lib.hid hc
            clear hc
            go_wp2_with fail
            go_meet
            exact ⟨_, st', data', g, a', c', rfl, rfl, HI'.out, HC.out⟩
          have hn3 : (x.kind == 3) = false := by simpa using hy3
          clear hy0 hy1 hy2 hy3
          go_wp2_with fail
          go_meet
          exact ⟨S, st, data, 0, ad, cd, rfl, rfl, HI.out.next, HC.out.tail⟩
        case rest =>
          obtain ⟨S2, st2, data2, n, ad2, cd2, rfl, rfl, hinv, hr⟩ := hcut
          have hlen := hinv.len
          have HI := Lib.hid hinv
          have HC : Hid (Hold _ [inR pi ⟨st2, size, M, data2⟩, tabR q (.slice none 0 0) (.slice none 0 0) mp S2, .row (.slice ad2 data2.length cd2) data2, .blk px [.int .i64 st2, .int .i64 size, .slice ad2 data2.length cd2, (.slice ao of.length co)] 51, .base w]) := Lib.hid hr
          clear hinv hr
          go_upto_region 28 with fail
          have HC := Lib.hid HC.out.drew
          refine wp_region_held (S := fun W : World => Hold W [inR pi ⟨st2, size, M, data2⟩, tabR q (.slice none 0 0) (.slice none 0 0) mp S2, .row (.slice ad2 data2.length cd2) data2, .blk px [.int .i64 st2, .int .i64 size, .slice ad2 data2.length cd2, (.slice ao of.length co)] 51, .base w]) (by kernel_rfl) ?_
          change wpAnyH _ _ _ _ _ _ _ _ (World.drew _)
          refine wpAnyH_take (i := 0) (oi := { dst := some 109, op := _, type := _, pos := _, after := _, guard := none }) (v := .int .i64 n) rfl (by kernel_rfl) (by kernel_rfl) (by kernel_rfl) (fun _ _ _ h => h) (Or.inl ⟨by rfl, by intro W hW; go_simp⟩) HC.out ?_
          simp only [Act.put, List.setIfInBounds_toArray, List.set_cons_zero, List.set_cons_succ]
          refine wpAnyH_take (i := 1) (oi := { dst := some 110, op := _, type := _, pos := _, after := _, guard := none }) (v := .int .i64 n) rfl (by kernel_rfl) (by kernel_rfl) (by kernel_rfl) (fun _ _ _ h => h) (Or.inl ⟨by rfl, by intro W hW; go_simp⟩) HC.out ?_
          simp only [Act.put, List.setIfInBounds_toArray, List.set_cons_zero, List.set_cons_succ]
          refine wpAnyH_take (i := 2) (oi := { dst := some 111, op := _, type := _, pos := _, after := _, guard := none }) (v := .bool false) rfl (by kernel_rfl) (by kernel_rfl) (by kernel_rfl) (fun _ _ _ h => h) (Or.inl ⟨by rfl, by intro W hW; go_simp <;> simp⟩) HC.out ?_
          simp only [Act.put, List.setIfInBounds_toArray, List.set_cons_zero, List.set_cons_succ]
          refine wpAnyH_take (i := 3) (oi := { dst := some 112, op := _, type := _, pos := _, after := _, guard := none }) (v := .bool false) rfl (by kernel_rfl) (by kernel_rfl) (by kernel_rfl) (fun _ _ _ h => h) (Or.inl ⟨by rfl, by intro W hW; go_simp⟩) HC.out ?_
          simp only [Act.put, List.setIfInBounds_toArray, List.set_cons_zero, List.set_cons_succ]
          refine wpAnyH_take (i := 4) (oi := { dst := some 113, op := _, type := _, pos := _, after := _, guard := (some (3, false)) }) (v := (.pointer (some ⟨pi, 0, none⟩))) rfl (by kernel_rfl) (by kernel_rfl) (by kernel_rfl) (fun _ _ _ h => h) (Or.inl ⟨by rfl, by intro W hW; go_simp⟩) HC.out ?_
          simp only [Act.put, List.setIfInBounds_toArray, List.set_cons_zero, List.set_cons_succ]
          refine wpAnyH_take (i := 5) (oi := { dst := some 114, op := _, type := _, pos := _, after := _, guard := (some (3, false)) }) (v := (.pointer (some ⟨pi, 0, none⟩))) rfl (by kernel_rfl) (by kernel_rfl) (by kernel_rfl) (fun _ _ _ h => h) (Or.inl ⟨by rfl, by intro W hW; go_simp⟩) HC.out ?_
          simp only [Act.put, List.setIfInBounds_toArray, List.set_cons_zero, List.set_cons_succ]
          refine wpAnyH_take (i := 6) (oi := { dst := some 115, op := _, type := _, pos := _, after := _, guard := (some (3, false)) }) (v := (.pointer (some ⟨pi, 0, none⟩))) rfl (by kernel_rfl) (by kernel_rfl) (by kernel_rfl) (fun _ _ _ h => h) (Or.inl ⟨by rfl, by intro W hW; go_simp⟩) HC.out ?_
          simp only [Act.put, List.setIfInBounds_toArray, List.set_cons_zero, List.set_cons_succ]
          refine wpAnyH_take (i := 7) (oi := { dst := some 116, op := _, type := _, pos := _, after := _, guard := (some (3, false)) }) (v := .int .i64 st2) rfl (by kernel_rfl) (by kernel_rfl) (by kernel_rfl) (fun _ _ _ h => h) (Or.inl ⟨by rfl, by intro W hW; obtain ⟨_, _, _, _, _, _, _, _, ho⟩ := inR_open hW; have hcc : W.cell? ⟨pi, 0, none⟩ = some (.int .i64 st2) := (ho.blkOf (List.mem_cons_self)).cell 0; go_simp⟩) HC.out ?_
          simp only [Act.put, List.setIfInBounds_toArray, List.set_cons_zero, List.set_cons_succ]
          refine wpAnyH_take (i := 8) (oi := { dst := some 117, op := _, type := _, pos := _, after := _, guard := (some (3, false)) }) (v := .pointer (some ⟨px, 0, none⟩)) rfl (by kernel_rfl) (by kernel_rfl) (by kernel_rfl) (fun _ _ _ h => h) (Or.inl ⟨by rfl, by intro W hW; go_simp⟩) HC.out ?_
          simp only [Act.put, List.setIfInBounds_toArray, List.set_cons_zero, List.set_cons_succ]
          refine wpAnyH_take (i := 9) (oi := { dst := some 118, op := _, type := _, pos := _, after := _, guard := (some (3, false)) }) (v := .int .i64 st2) rfl (by kernel_rfl) (by kernel_rfl) (by kernel_rfl) (fun _ _ _ h => h) (Or.inl ⟨by rfl, by intro W hW; have hcc : W.cell? ⟨px, 0, none⟩ = some (.int .i64 st2) := (Hold.blkOf (p := px) (cs := [.int .i64 st2, .int .i64 size, .slice ad2 data2.length cd2, (.slice ao of.length co)]) (T := 51) hW (by simp)).cell 0; go_simp⟩) HC.out ?_
          simp only [Act.put, List.setIfInBounds_toArray, List.set_cons_zero, List.set_cons_succ]
          refine wpAnyH_take (i := 10) (oi := { dst := some 119, op := _, type := _, pos := _, after := _, guard := (some (3, false)) }) (v := .bool false) rfl (by kernel_rfl) (by kernel_rfl) (by kernel_rfl) (fun _ _ _ h => h) (Or.inl ⟨by rfl, by intro W hW; go_simp <;> simp⟩) HC.out ?_
          simp only [Act.put, List.setIfInBounds_toArray, List.set_cons_zero, List.set_cons_succ]
          refine wpAnyH_take (i := 11) (oi := { dst := some 120, op := _, type := _, pos := _, after := _, guard := none }) (v := .bool false) rfl (by kernel_rfl) (by kernel_rfl) (by kernel_rfl) (fun _ _ _ h => h) (Or.inl ⟨by rfl, by intro W hW; go_simp⟩) HC.out ?_
          simp only [Act.put, List.setIfInBounds_toArray, List.set_cons_zero, List.set_cons_succ]
          refine wpAnyH_take (i := 12) (oi := { dst := some 121, op := _, type := _, pos := _, after := _, guard := none }) (v := .bool false) rfl (by kernel_rfl) (by kernel_rfl) (by kernel_rfl) (fun _ _ _ h => h) (Or.inl ⟨by rfl, by intro W hW; go_simp⟩) HC.out ?_
          simp only [Act.put, List.setIfInBounds_toArray, List.set_cons_zero, List.set_cons_succ]
          refine wpAnyH_take (i := 13) (oi := { dst := some 122, op := _, type := _, pos := _, after := _, guard := (some (12, false)) }) (v := (.pointer (some ⟨pi, 0, none⟩))) rfl (by kernel_rfl) (by kernel_rfl) (by kernel_rfl) (fun _ _ _ h => h) (Or.inl ⟨by rfl, by intro W hW; go_simp⟩) HC.out ?_
          simp only [Act.put, List.setIfInBounds_toArray, List.set_cons_zero, List.set_cons_succ]
          refine wpAnyH_take (i := 15) (oi := { dst := some 124, op := _, type := _, pos := _, after := _, guard := (some (12, false)) }) (v := .pointer (some ⟨px, 2, none⟩)) rfl (by kernel_rfl) (by kernel_rfl) (by kernel_rfl) (fun _ _ _ h => h) (Or.inl ⟨by rfl, by intro W hW; go_simp⟩) HC.out ?_
          simp only [Act.put, List.setIfInBounds_toArray, List.set_cons_zero, List.set_cons_succ]
          refine wpAnyH_take (i := 16) (oi := { dst := some 125, op := _, type := _, pos := _, after := _, guard := (some (12, false)) }) (v := .slice ad2 data2.length cd2) rfl (by kernel_rfl) (by kernel_rfl) (by kernel_rfl) (fun _ _ _ h => h) (Or.inl ⟨by rfl, by intro W hW; have hcc : W.cell? ⟨px, 2, none⟩ = some (.slice ad2 data2.length cd2) := (Hold.blkOf (p := px) (cs := [.int .i64 st2, .int .i64 size, .slice ad2 data2.length cd2, (.slice ao of.length co)]) (T := 51) hW (by simp)).cell 2; go_simp⟩) HC.out ?_
          simp only [Act.put, List.setIfInBounds_toArray, List.set_cons_zero, List.set_cons_succ]
          refine anyH_ready (rs := [14]) (by decide +kernel) (by simp) ?_
          refine AllReadyH.cons (o := { dst := some 123, op := .call { callee := .value (.func 17), args := #[.tmp 122], argTypes := #[30] }, type := _, pos := _, after := _, guard := (some (12, false)) }) rfl (fun K hK => ?_) AllReadyH.nil
          go_simp
          refine (inBytes_any pi ⟨st2, size, M, data2⟩ _ _ HC.out (by simp only; omega)).mono ?_
          rintro e w8 ⟨v8, rfl, hc⟩
          have hr8 : Bs w8 v8 data2 := hc.rowOf (by simp)
          obtain ⟨a8, c8, rfl, _, _⟩ := hr8.form
          have HR8 := Lib.hid hr8
          have HC := Lib.hid hc.tail
          clear hc hr8
          refine hK _ _ HC.out ?_
          clear hK K
          try simp only [Act.put, List.setIfInBounds_toArray, List.set_cons_zero, List.set_cons_succ]
          refine anyH_ready (rs := [17]) (by decide +kernel) (by simp) ?_
          refine AllReadyH.cons (o := { dst := some 126, op := .call { callee := .value (.func 16), args := #[.tmp 123, .tmp 125], argTypes := #[22, 22] }, type := _, pos := _, after := _, guard := (some (12, false)) }) rfl (fun K hK => ?_) AllReadyH.nil
          go_simp
          refine (same_b _ _ data2 data2 _ HR8.out (HC.out.rowOf (v := .slice ad2 data2.length cd2) (by simp))).mono ?_
          rintro e w9 ⟨rfl, hb⟩
          have HC := Lib.hid (HC.out.step hb)
          clear hb
          refine hK _ _ HC.out ?_
          clear hK K
          try simp only [Act.put, List.setIfInBounds_toArray, List.set_cons_zero, List.set_cons_succ]
          refine wpAnyH_take (i := 18) (oi := { dst := some 127, op := _, type := _, pos := _, after := _, guard := (some (12, false)) }) (v := .bool false) rfl (by kernel_rfl) (by kernel_rfl) (by kernel_rfl) (fun _ _ _ h => h) (Or.inl ⟨by rfl, by intro W hW; go_simp <;> simp⟩) HC.out ?_
          simp only [Act.put, List.setIfInBounds_toArray, List.set_cons_zero, List.set_cons_succ]
          refine wpAnyH_take (i := 19) (oi := { dst := some 128, op := _, type := _, pos := _, after := _, guard := none }) (v := .bool false) rfl (by kernel_rfl) (by kernel_rfl) (by kernel_rfl) (fun _ _ _ h => h) (Or.inl ⟨by rfl, by intro W hW; go_simp⟩) HC.out ?_
          simp only [Act.put, List.setIfInBounds_toArray, List.set_cons_zero, List.set_cons_succ]
          refine wpAnyH_take (i := 20) (oi := { dst := some 129, op := _, type := _, pos := _, after := _, guard := none }) (v := .bool false) rfl (by kernel_rfl) (by kernel_rfl) (by kernel_rfl) (fun _ _ _ h => h) (Or.inl ⟨by rfl, by intro W hW; go_simp⟩) HC.out ?_
          simp only [Act.put, List.setIfInBounds_toArray, List.set_cons_zero, List.set_cons_succ]
          refine wpAnyH_take (i := 21) (oi := { dst := some 130, op := _, type := _, pos := _, after := _, guard := (some (20, false)) }) (v := (.pointer (some ⟨pi, 0, none⟩))) rfl (by kernel_rfl) (by kernel_rfl) (by kernel_rfl) (fun _ _ _ h => h) (Or.inl ⟨by rfl, by intro W hW; go_simp⟩) HC.out ?_
          simp only [Act.put, List.setIfInBounds_toArray, List.set_cons_zero, List.set_cons_succ]
          refine wpAnyH_take (i := 23) (oi := { dst := some 132, op := _, type := _, pos := _, after := _, guard := (some (20, false)) }) (v := .int .i64 size) rfl (by kernel_rfl) (by kernel_rfl) (by kernel_rfl) (fun _ _ _ h => h) (Or.inl ⟨by rfl, by intro W hW; go_simp⟩) HC.out ?_
          simp only [Act.put, List.setIfInBounds_toArray, List.set_cons_zero, List.set_cons_succ]
          refine anyH_ready (rs := [22]) (by decide +kernel) (by simp) ?_
          refine AllReadyH.cons (o := { dst := some 131, op := .call { callee := .value (.func 27), args := #[.tmp 130], argTypes := #[30] }, type := _, pos := _, after := _, guard := (some (20, false)) }) rfl (fun K hK => ?_) AllReadyH.nil
          go_simp
          refine (inSize_any pi ⟨st2, size, M, data2⟩ _ _ HC.out).mono ?_
          rintro e w10 ⟨rfl, hc⟩
          have HC := Lib.hid hc
          clear hc
          refine hK _ _ HC.out ?_
          clear hK K
          try simp only [Act.put, List.setIfInBounds_toArray, List.set_cons_zero, List.set_cons_succ]
          refine wpAnyH_take (i := 24) (oi := { dst := some 133, op := _, type := _, pos := _, after := _, guard := (some (20, false)) }) (v := .bool false) rfl (by kernel_rfl) (by kernel_rfl) (by kernel_rfl) (fun _ _ _ h => h) (Or.inl ⟨by rfl, by intro W hW; go_simp <;> simp⟩) HC.out ?_
          simp only [Act.put, List.setIfInBounds_toArray, List.set_cons_zero, List.set_cons_succ]
          refine wpAnyH_take (i := 25) (oi := { dst := some 134, op := _, type := _, pos := _, after := _, guard := none }) (v := .bool false) rfl (by kernel_rfl) (by kernel_rfl) (by kernel_rfl) (fun _ _ _ h => h) (Or.inl ⟨by rfl, by intro W hW; go_simp⟩) HC.out ?_
          simp only [Act.put, List.setIfInBounds_toArray, List.set_cons_zero, List.set_cons_succ]
          refine wpAnyH_done (by decide +kernel) ?_ _
          have hcc := inR_st HC.out
          simp only at hcc
          by_cases hd : st2 = 2
          · have hdd : (st2 == 2) = true := by simpa using hd
            have HD := Lib.hid (HI.out.done hd)
            have HOF2 := Lib.hid (HOF.out.below (HC.out.baseOf (w0 := w) (by simp)))
            have h8 := Lib.hid (inBytes_any pi ⟨st2, size, M, data2⟩ _ _ HC.out (by simp only; omega))
            clear hd
            go_wp2_with fail
            refine h8.out.mono ?_
            rintro e w11 ⟨v8, rfl, hc⟩
            have hr8 : Bs w11 v8 data2 := hc.rowOf (by simp)
            obtain ⟨a8, c8, rfl, _, _⟩ := hr8.form
            have HR8 := Lib.hid hr8
            have HC := Lib.hid hc.tail
            clear hc hr8 h8
            have h9 := same_b _ _ data2 of _ HR8.out (HOF.out.below (HC.out.baseOf (w0 := w) (by simp)))
            rw [show decide (data2 = of) = true by simp [HD.out]] at h9
            have H9 := Lib.hid h9
            clear h9
            go_wp2_with fail
            refine H9.out.mono ?_
            rintro e w12 ⟨rfl, hb⟩
            have HC := Lib.hid (HC.out.step hb)
            clear hb
            go_wp2_with fail
            go_roundw
            case rel => exact ⟨k + 1, S2, st2, data2, ad2, cd2, by omega, by go_num, HI.out, HC.out⟩
            case measure => simp [intOf]; omega
          · have hdd : (st2 == 2) = false := by simpa using hd
            clear hd
            go_wp2_with fail
            go_roundw
            case rel => exact ⟨k + 1, S2, st2, data2, ad2, cd2, by omega, by go_num, HI.out, HC.out⟩
            case measure => simp [intOf]; omega
    · obtain rfl : k = l.length := by omega
      have HB := Lib.hid (HC.out.baseOf (w0 := w) (by simp))
      go_wp2_with fail
      go_ret
      exact ⟨rfl, HB.out⟩
end Go.Proofs.Ytogfkfoklnpfhaa
