/- The statement CacheOnce, walked: nothing is taken twice. -/
import Derived.Test.YtppmjmginpkgaaaOncePlain
namespace Go.Proofs.Ytppmjmginpkgaaa
open Go.RowKit Go.Maps Go.MapKept

theorem cacheNew_one (m : Int) (w : World) :
    Calls Try.prog 16 #[.int .i64 m] w fun e w' => e = .returned (.pointer (some ⟨w.heap.size, 0, none⟩)) ∧ CacheAt w' (fun k => k = w.heap.size) w.heap.size [] (cacheMost m) ∧ Below w.heap.size w w' := by
  have fin : ∀ x : Int, x = cacheMost m → CacheAt (w.alloc (.cells #[.slice none 0 0, .int .i64 x] 87)) (fun k => k = w.heap.size) w.heap.size [] (cacheMost m) := by
    rintro x rfl
    exact ⟨rfl, _, Blk.new w [.slice none 0 0, .int .i64 (cacheMost m)] _, Sl.nil _ _ _, by simp [Value.ownBlock], by simp [Value.ownBlock]⟩
  go_enter Try.func16, Try.ntmps16
  go_wp2
  all_goals go_ret
  all_goals refine ⟨rfl, fin _ ?_, (Below.refl _ _).alloc (Nat.le_refl _) _⟩
  all_goals (unfold cacheMost; omega)

theorem CacheAt.keep {w w' : World} {F S : Nat → Prop} {p : Nat} {l : List Sh} {m : Int} (h : CacheAt w F p l m) (hk : Keeps S w w') (hs : ∀ k, F k → k < w.heap.size → ¬ S k) : CacheAt w' F p l m := by
  obtain ⟨h1, va, h2, h3, h4, h5⟩ := h
  exact ⟨h1, va, h2.keep hk (hs p h1 h2.lt), h3.keep' hk (fun b hb hl => hs b (h5 b hb) hl), h4, h5⟩

theorem CacheAt.lt {w : World} {F : Nat → Prop} {p : Nat} {l : List Sh} {m : Int} (h : CacheAt w F p l m) : p < w.heap.size := by
  obtain ⟨_, va, h2, _⟩ := h
  exact h2.lt

theorem ownsMap_keep {H : Type} {P : Program} {k : TypeId} {R : Value → Option (DataW H × List MemPlace)} {w w' : World} {b n : Nat} {D : DataW H} {S : Nat → Prop} (h : w.ownsMap P k R b n D) (hk : Keeps S w w') (hb : ¬ S b) : w'.ownsMap P k R b n D := by
  obtain ⟨es, clock, h1, hr⟩ := h
  exact ⟨es, clock, (hk.block b hb).trans h1, hr⟩

theorem keeps_grown {w w' : World} {b : Nat} (hg : w.grownBy w' (some b)) : Keeps (fun k => k = b ∨ w.heap.size ≤ k) w w' :=
  (Keeps.refl _ _).grown hg (fun k hk => .inr hk) (fun k hk => by simp only [Option.some.injEq] at hk; exact .inl hk.symm)

theorem onceZero (u : World) : (zeroValue 3).run Try.prog u = .ok (.int .i64 0) u := by kernel_rfl

theorem show_le (L : List Sh) (m now : Int) (x : Sh) (h : (L.length : Int) ≤ m) : ((shShow L m now x).1.length : Int) ≤ m := shShow_len L m now x h

theorem i64_and63 (n : Int) : 0 ≤ bits .and .i64 n 63 ∧ bits .and .i64 n 63 ≤ 63 := by
  have h63 : (BitVec.ofInt 64 63).toNat = 2 ^ 6 - 1 := by decide
  have key : (BitVec.ofInt 64 n &&& BitVec.ofInt 64 63).toNat = (n % ((2 ^ 64 : Nat) : Int)).toNat % 2 ^ 6 := by
    rw [BitVec.toNat_and, BitVec.toNat_ofInt, h63, Nat.and_two_pow_sub_one_eq_mod]
  show 0 ≤ IntKind.i64.wrap ((BitVec.ofInt 64 n &&& BitVec.ofInt 64 63).toNat : Nat) ∧ IntKind.i64.wrap ((BitVec.ofInt 64 n &&& BitVec.ofInt 64 63).toNat : Nat) ≤ 63
  rw [key, IntKind.wrap_i64]
  omega

set_option maxHeartbeats 4000000 in
set_option maxRecDepth 100000 in
theorem cacheOnce_walk (m : Int) (v : Value) (l : List St) (w : World) (hs : Sl w 4 v l.length (stCells l)) (hwf : ∀ x ∈ l, Sh.wf x.2) :
    Calls Try.prog 3 #[.int .i64 m, v] w fun e w' => e = .returned (.bool true) ∧ Below w.heap.size w w' := by
  obtain ⟨a, cap, rfl, hcap, hcm⟩ := hs.form
  have hmm := @run_makeMap Try.prog
  by_cases hl : 200 < l.length
  · have hl' : (200 : Int) < (l.length : Int) := by omega
    unfold maxLen at hcm
    go_enter Try.func3, Try.ntmps3
    go_wp2_with fail
    refine (alive12_any w).mono ?_
    rintro e w1 ⟨rfl, hb1⟩
    go_wp2_with fail
    go_ret
    exact ⟨rfl, hb1⟩
  · have hl' : ¬ (200 : Int) < (l.length : Int) := by omega
    unfold maxLen at hcm
    go_enter Try.func3, Try.ntmps3
    go_wp2_with fail
    refine (alive12_any w).mono ?_
    rintro e w1 ⟨rfl, hb1⟩
    go_wp2_with fail
    refine (cacheNew_one m w1).mono ?_
    rintro e w2 ⟨rfl, hc2, hb2⟩
    have HST := Lib.hid hs
    have HWF := Lib.hid hwf
    have hsz1 := hb1.size
    have hsz2 := hb2.size
    have hcm64 : cacheMost m ≤ 64 ∧ 1 ≤ cacheMost m := by unfold cacheMost; omega
    have hB2 : Below w.heap.size w w2 := hb1.trans (hb2.mono hsz1)
    obtain ⟨p, hp⟩ : ∃ p, p = w1.heap.size := ⟨_, rfl⟩
    rw [← hp] at hc2
    have hpl2 : p < w2.heap.size := hc2.lt
    have hpw : w.heap.size ≤ p := by omega
    obtain ⟨B, hBd⟩ : ∃ B, B = w2.heap.size := ⟨_, rfl⟩
    have HM2 := Lib.hid (World.ownsMap_made (H := Unit) w2 Try.prog 32 (plainElem Try.prog 3))
    rw [← hp]
    rw [← hBd] at HM2
    clear hp
    have HC2 := Lib.hid hc2
    have hBw : w.heap.size ≤ B := by omega
    have hpB : p ≠ B := by omega
    clear hb1 hb2 hs hwf hc2
    go_wp2_with fail
    rw [← hBd]
    clear hBd
    go_loopw [6, 22] (fun nw i wr => ∃ (k : Nat) (now : Int) (L : List Sh) (F : Nat → Prop) (D : DataW Unit), k ≤ l.length ∧ i = .int .i64 k ∧ nw = .int .i64 now ∧ 0 ≤ now ∧ now ≤ 63 * k ∧ CacheAt wr F p L (cacheMost m) ∧ (∀ b, F b → b ≠ B) ∧ (L.length : Int) ≤ cacheMost m ∧
        wr.ownsMap Try.prog 32 (plainElem Try.prog 3) B k D ∧ Taken D L now ∧ Below w.heap.size w wr) (fun _ i _ => l.length - (intOf i).toNat)
    case atStart => exact ⟨0, 0, [], _, _, Nat.zero_le _, rfl, rfl, by omega, by omega, HC2.out.below ((Below.refl _ _).alloc (Nat.le_refl _) _), fun b hb => by omega, by simp; omega, HM2.out, Taken.start _ _, hB2.alloc (by omega) _⟩
    case round =>
      obtain ⟨k, now, L, F, D, hk, rfl, rfl, h0, h63, hc, hF, hLm, hown, hT, hB⟩ := hrel
      have HC := Lib.hid hc
      have HO := Lib.hid hown
      have HT := Lib.hid hT
      have HF := Lib.hid hF
      have hszr := hB.size
      have hBlt := hown.lt
      have hplt := hc.lt
      have hL64 : L.length ≤ 64 := by omega
      clear hc hown hT hF
      by_cases hlt : k < l.length
      · obtain ⟨b, off, rfl, hcell⟩ := HST.out.addr (by rw [HST.out.1]; omega)
        have e0 := flat_at (n := 4) St.cells (fun _ => rfl) l k 0 hlt (by omega)
        have e1 := flat_at (n := 4) St.cells (fun _ => rfl) l k 1 hlt (by omega)
        have e2 := flat_at (n := 4) St.cells (fun _ => rfl) l k 2 hlt (by omega)
        have e3 := flat_at (n := 4) St.cells (fun _ => rfl) l k 3 hlt (by omega)
        have c0 : wr.cell? ⟨b, off + k * 4, none⟩ = some (.int .i64 l[k].1) := below_cell hB (hcell _ _ e0)
        have c1 : wr.cell? ⟨b, off + k * 4 + 1, none⟩ = some (.string l[k].2.1) := below_cell hB (hcell _ _ e1)
        have c2 : wr.cell? ⟨b, off + k * 4 + 2, none⟩ = some (.int .i64 l[k].2.2.1) := below_cell hB (hcell _ _ e2)
        have c3 : wr.cell? ⟨b, off + k * 4 + 3, none⟩ = some (.int .i64 l[k].2.2.2) := below_cell hB (hcell _ _ e3)
        clear hcell e0 e1 e2 e3
        have hand := i64_and63 l[k].1
        have hstep : ∃ now2, now + bits BinOp.and IntKind.i64 l[k].1 63 = now2 ∧ now ≤ now2 ∧ now2 ≤ 63 * (k + 1) := ⟨_, rfl, by omega, by omega⟩
        obtain ⟨now2, hnow2, hn1, hn2⟩ := hstep
        have hxwf : Sh.wf l[k].2 := HWF.out _ (List.getElem_mem hlt)
        go_wp2_with fail
        clear hnow2 hand
        obtain ⟨w3, hw3⟩ : ∃ w3, w3 = wr.alloc (Obj.cells #[Value.int IntKind.i64 l[k].fst, Value.string l[k].snd.fst, Value.int IntKind.i64 l[k].snd.snd.fst, Value.int IntKind.i64 l[k].snd.snd.snd] 28) := ⟨_, rfl⟩
        rw [← hw3]
        have hw3s : w3.heap.size = wr.heap.size + 1 := by rw [hw3]; simp
        have hBel3 : Below wr.heap.size wr w3 := by rw [hw3]; exact (Below.refl _ _).alloc (Nat.le_refl _) _
        have HC3 := Lib.hid (HC.out.below hBel3)
        have HO3 := Lib.hid (ownsMap_keep HO.out (Keeps.of_below hBel3) (by omega))
        have hx3 : Blk w3 wr.heap.size [.int .i64 l[k].1, .string l[k].2.1, .int .i64 l[k].2.2.1, .int .i64 l[k].2.2.2] 28 := by rw [hw3]; exact heap_alloc_new wr _
        have HX3 := Lib.hid hx3
        clear hw3 hx3
        refine (cacheShow_any F p L (cacheMost m) now2 l[k].2 w3 HC3.out hL64).mono ?_
        obtain ⟨R, hR⟩ : ∃ R, R = shShow L (cacheMost m) now2 l[k].2 := ⟨_, rfl⟩
        have hRl := show_le L (cacheMost m) now2 l[k].2 hLm
        have HTs : Hid (Taken D R.1 now2) := Lib.hid (by rw [hR]; exact HT.out.show hn1 (by omega) (by omega))
        rw [← hR] at hRl ⊢
        rintro e w4 ⟨rfl, hc4, hk4⟩
        have hs4 := hk4.size
        have HK4 := Lib.hid hk4
        have HC4 := Lib.hid hc4
        have HO4 := Lib.hid (ownsMap_keep HO3.out hk4 (by omega))
        have hx4 : Blk w4 wr.heap.size _ _ := HX3.out.keep hk4 (by omega)
        have d1 := hx4.cell 1
        have d2 := hx4.cell 2
        have d3 := hx4.cell 3
        simp only [List.getElem?_cons_zero, List.getElem?_cons_succ] at d1 d2 d3
        have HX4 := Lib.hid hx4
        have hB4 : Below w.heap.size w w4 := (hB.trans (hBel3.mono hszr)).trans (hk4.below (by rintro q (h | h) <;> omega))
        have HB4 := Lib.hid hB4
        clear hc4 hk4 hx4 hB4 hBel3 c0 c1 c2 c3
        have HRd := Lib.hid hR
        clear hR
        by_cases hz : R.2 = 0
        · have hz' : (R.2 == 0) = true := by simpa using hz
          have hsz : (shShow L (cacheMost m) now2 l[k].2).2 = 0 := by rw [← HRd.out]; exact hz
          have hkey : keyOf Try.prog 32 (.agg #[.string l[k].2.1, .int .i64 l[k].2.2.1, .int .i64 l[k].2.2.2]) = some (Sh.key l[k].2) := onceKey l[k].2 hxwf
          obtain ⟨c, st, W1, hE, hat, hl1, hl2, ho1, hg1, hst⟩ := own_entry (w := w4.drew) HO4.out.drew onceLaw Try.underlying26 Try.underlying3 onceZero (by unfold maxLen; omega) hkey
          rw [HT.out.fresh hn1 hxwf hsz] at hat
          obtain rfl : 0 = c := by simpa using hat
          obtain ⟨w5, hst1, ho5, hg5⟩ := hst 1 (by decide)
          have hnear := taken_near hsz
          have HO5 := Lib.hid ho5
          have HG5 := Lib.hid hg5
          clear ho1 hg1 ho5 hg5 hst hat hkey
          have f1 : w4.drew.cell? ⟨wr.heap.size, 1, none⟩ = _ := d1
          have f2 : w4.drew.cell? ⟨wr.heap.size, 2, none⟩ = _ := d2
          have f3 : w4.drew.cell? ⟨wr.heap.size, 3, none⟩ = _ := d3
          go_wp2_with fail
          go_region
          have hk5 : Keeps (fun k => k = B ∨ w4.heap.size ≤ k) w4 w5 := by
            have h := keeps_grown HG5.out
            exact ⟨h.os, h.tape, h.output, h.size, h.block⟩
          have hs5 := hk5.size
          have HC5 := Lib.hid (HC4.out.keep hk5 (by
            intro q hq hql h
            rcases hq with hq | hq
            · exact HF.out q hq (by omega)
            · omega))
          have g2 := (HX4.out.keep hk5 (by omega)).cell 2
          simp only [List.getElem?_cons_zero, List.getElem?_cons_succ] at g2
          have HB5 : Hid (Below w.heap.size w w5) := Lib.hid (HB4.out.trans (hk5.below (by rintro q (h | h) <;> omega)))
          have HT5 : Hid (Taken (D.put (Sh.key l[k].2) (.lit (.int .i64 1))) R.1 now2) := Lib.hid (by rw [HRd.out]; exact HT.out.put hn1 (by omega) (by omega) hxwf hsz)
          clear hk5 f1 f2 f3 d1 d2 d3 hE hl1 hl2 hst1
          go_wp2_with fail
          refine (near_any _ _ _).mono ?_
          rw [hnear]
          rintro e w6 ⟨rfl, rfl⟩
          go_wp2_with fail
          refine (cacheLen_any _ _ _ _ _ HC5.out).mono ?_
          rintro e w6 ⟨rfl, rfl⟩
          go_wp2_with fail
          go_roundw
          case rel => exact ⟨k + 1, now2, R.1, _, _, by omega, by go_num, rfl, by omega, by omega, HC5.out, fun q hq => by rcases hq with hq | hq; exact HF.out q hq; omega, hRl, HO5.out, HT5.out, HB5.out⟩
          case measure => simp [intOf]; omega
        · have hz' : (R.2 == 0) = false := by simpa using hz
          go_wp2_with fail
          refine (cacheLen_any _ _ _ _ _ HC4.out).mono ?_
          rintro e w5 ⟨rfl, rfl⟩
          go_wp2_with fail
          go_roundw
          case rel => exact ⟨k + 1, now2, R.1, _, D, by omega, by go_num, rfl, by omega, by omega, HC4.out, fun q hq => by rcases hq with hq | hq; exact HF.out q hq; omega, hRl, HO4.out.mono (by omega), HTs.out, HB4.out⟩
          case measure => simp [intOf]; omega
      · obtain rfl : k = l.length := by omega
        go_wp2_with (at_range; refine wpList_range_own _ rfl _ 26 rfl 32 3 onceKeyed Try.underlying26 _ B _ D rfl HO.out ?_; intro w7 hrg7 hg7 hs7)
        go_frame
        obtain ⟨r, hr⟩ : ∃ r, r = wr.heap.size := ⟨_, rfl⟩
        rw [← hr] at hrg7
        rw [← hr]
        have HRG := Lib.hid hrg7
        have hB7 : Below w.heap.size w w7 := hB.trans ((keeps_grown (hg7.but (some r))).below (by rintro q (h | h) <;> omega))
        have hrw : w.heap.size ≤ r := by omega
        clear hrg7 hg7 hr
        go_loopw [11] (fun n ws => ∃ left cnt, ws.ranges Try.prog 32 (plainElem Try.prog 3) B r l.length D left cnt ∧ (∀ kl, left kl = true → Maps.has D kl = true) ∧ Below w.heap.size w ws) (fun _ ws => ws.rangeLeft B r)
        case atStart => exact ⟨_, _, HRG.out, fun _ h => h, hB7⟩
        case round =>
          obtain ⟨left, cnt, hrg, hsub, hBs⟩ := hrel
          go_wp2_with (at_next; refine wpList_next_ranges _ rfl _ rfl 32 onceKeyed _ (fun v : Value => v) (Value.int .i64) (fun key kl _ => ⟨key, rfl⟩) (fun v y hv => by obtain ⟨c, rfl, _⟩ := plainElem_int_inv Try.underlying3 hv; exact ⟨c, rfl⟩) B r _ D left cnt rfl hrg ?_ ?_)
          · intro _ _
            go_wp2_with fail
            go_ret
            exact ⟨rfl, hBs⟩
          · intro x c kl y yp w8 cnt8 hkey hlk hv hat hrg8 hlt8 hg8 hs8 hen
            obtain ⟨ha1, _⟩ := HT.out.2 kl (hsub kl hlk)
            obtain ⟨c', hc', hy, _⟩ := plainElem_int_inv Try.underlying3 hv
            have h1 := hat .nil
            rw [ha1 .nil] at h1
            simp only [Prod.mk.injEq] at hy
            rw [hy.1] at h1
            simp only [DataW.lit.injEq, Lit.int.injEq, true_and] at h1
            subst h1
            obtain rfl : c = 1 := by simpa using hc'
            have hss := hBs.size
            go_wp2_with fail
            go_roundw
            case rel => exact ⟨_, _, hrg8, fun kl' h => hsub kl' (by simp only [Bool.and_eq_true] at h; exact h.1), hBs.trans ((keeps_grown hg8).below (by rintro q (h | h) <;> omega))⟩
            case measure => rw [hrg8.left_eq, hrg.left_eq]; omega
end Go.Proofs.Ytppmjmginpkgaaa
