/- Contract: the document's Count: how many values and bytes there are in one, up to a bound. -/
import Derived.Test.YtdmjliehobgknaaDerLaw
namespace Go.Proofs.Ytdmjliehobgknaa
set_option linter.unusedSimpArgs false
set_option linter.unusedVariables false
open Go.RowKit

mutual
/-- No bytes are longer than memory has room for. -/
def Bw : Tv → Prop
  | .mk _ _ _ b l => b.length ≤ 140737488351232 ∧ BsW l
def BsW : List Tv → Prop
  | [] => True
  | x :: l => Bw x ∧ BsW l
end
theorem BsW.mem : ∀ {l : List Tv}, BsW l → ∀ x ∈ l, Bw x
  | [], _, x, hx => by simp at hx
  | y :: l, h, x, hx => by
    rcases List.mem_cons.1 hx with e | hx
    · rw [e]; exact h.1
    · exact h.2.mem x hx
theorem BsW.of : ∀ {l : List Tv}, (∀ x ∈ l, Bw x) → BsW l
  | [], _ => trivial
  | y :: l, h => ⟨h y (by simp), BsW.of (fun x hx => h x (by simp [hx]))⟩

mutual
def countS : Tv → Int → Int
  | .mk _ _ _ b l, m => countsS l m (1 + b.length)
def countsS : List Tv → Int → Int → Int
  | [], _, n => n
  | x :: l, m, n => if n ≤ m then countsS l m (n + countS x (m - n)) else n
end
mutual
/-- How many values, and bytes of these, there are. -/
def sizeT : Tv → Nat
  | .mk _ _ _ b l => 1 + b.length + sizesT l
def sizesT : List Tv → Nat
  | [] => 0
  | x :: l => sizeT x + sizesT l
end

mutual
theorem countS_pos : ∀ (x : Tv) (m : Int), 1 ≤ countS x m
  | .mk _ _ _ b l, m => by
    have := countsS_mono l m (1 + b.length)
    rw [countS]
    omega
theorem countsS_mono : ∀ (l : List Tv) (m n : Int), n ≤ countsS l m n
  | [], m, n => by rw [countsS]; omega
  | x :: l, m, n => by
    rw [countsS]
    split
    · have h1 := countS_pos x (m - n)
      have h2 := countsS_mono l m (n + countS x (m - n))
      omega
    · omega
end
mutual
theorem countS_eq : ∀ (x : Tv) (m : Int), countS x m ≤ m → countS x m = sizeT x
  | .mk _ _ _ b l, m, h => by
    rw [countS] at h ⊢
    rw [countsS_eq l m _ h, sizeT]
    omega
theorem countsS_eq : ∀ (l : List Tv) (m n : Int), countsS l m n ≤ m → countsS l m n = n + sizesT l
  | [], m, n, _ => by rw [countsS, sizesT]; omega
  | x :: l, m, n, h => by
    rw [countsS] at h ⊢
    split at h
    · rename_i hn
      rw [if_pos hn]
      have h1 := countsS_mono l m (n + countS x (m - n))
      have h2 := countS_eq x (m - n) (by omega)
      rw [countsS_eq l m _ h, h2, sizesT]
      omega
    · omega
end
mutual
theorem countS_le : ∀ (x : Tv) (m : Int), 0 ≤ m → Bw x → countS x m ≤ m + 140737488351233
  | .mk _ _ _ b l, m, hm, h => by
    have := countsS_le l m (1 + b.length) hm (by have := h.1; omega) h.2
    rw [countS]
    exact this
theorem countsS_le : ∀ (l : List Tv) (m n : Int), 0 ≤ m → n ≤ m + 140737488351233 → BsW l → countsS l m n ≤ m + 140737488351233
  | [], m, n, _, h, _ => by rw [countsS]; exact h
  | x :: l, m, n, hm, h, hb => by
    rw [countsS]
    split
    · have h1 := countS_le x (m - n) (by omega) hb.1
      exact countsS_le l m _ hm (by omega) hb.2
    · exact h
end

def IntRes (w : World) (r : Int) (e : Ending) (w' : World) : Prop := e = .returned (.int .i64 r) ∧ Below w.heap.size w w'

set_option maxHeartbeats 4000000 in
set_option maxRecDepth 100000 in
theorem count_any : ∀ (x : Tv) (F : Nat → Prop) (cs : List Value) (w : World) (m : Int), TvF w F x cs → Bw x → 0 ≤ m → m ≤ 6000 →
    Calls Try.prog 30 #[.agg cs.toArray, .int .i64 m] w (IntRes w (countS x m)) := by
  refine tv_ind (fun k t n b l ih => ?_)
  intro F cs w m h hbw hm0 hm1
  obtain ⟨bv, lv, rows, rfl, hb, _, hl, _, hls⟩ := h.open_
  simp only [Tv.kind, Tv.tag, Tv.n, Tv.b, Tv.l] at *
  obtain ⟨hbl, hbs⟩ := hbw
  obtain ⟨ab, cb, rfl, hcb, hmb⟩ := hb.form
  obtain ⟨al, cl, rfl, hcl, hml⟩ := hl.form
  unfold maxLen at hmb hml
  have HL := Lib.hid hl
  have HLS := Lib.hid hls
  have HIH := Lib.hid ih
  have HBW := Lib.hid hbs
  have HR : Hid (countS (.mk k t n b l) m = countsS l m (1 + b.length)) := Lib.hid rfl
  have HQ0 : Hid (Blk (w.alloc (.cells #[.int .i64 k, .int .i64 t, .int .u64 n, .slice ab b.length cb, .slice al l.length cl] 50)) w.heap.size [.int .i64 k, .int .i64 t, .int .u64 n, .slice ab b.length cb, .slice al l.length cl] 50) := Lib.hid (Blk.new w _ _)
  have HBB : Hid (Below w.heap.size w (w.alloc (.cells #[.int .i64 k, .int .i64 t, .int .u64 n, .slice ab b.length cb, .slice al l.length cl] 50))) := Lib.hid ((Below.refl _ _).alloc (Nat.le_refl _) _)
  clear h hb hl hls ih hbs
  go_enter Try.func30, Try.ntmps30
  go_wp2_with fail
  go_loopw [5, 6] (fun c i wr => ∃ (j : Nat) (s : Int), j ≤ l.length ∧ i = .int .i64 j ∧ c = .int .i64 s ∧ countsS (l.drop j) m s = countsS l m (1 + b.length) ∧ 1 ≤ s ∧ s ≤ m + 140737488351233 ∧
    Blk wr w.heap.size [.int .i64 k, .int .i64 t, .int .u64 n, .slice ab b.length cb, .slice al l.length cl] 50 ∧ Below w.heap.size w wr) (fun _ i _ => l.length - (intOf i).toNat)
  case atStart => exact ⟨0, 1 + b.length, Nat.zero_le _, rfl, rfl, rfl, by omega, by omega, HQ0.out, HBB.out⟩
  case round =>
    obtain ⟨j, s, hj, rfl, rfl, hcs, hs1, hs2, hq, hB⟩ := hrel
    have HQ := Lib.hid hq
    have HB := Lib.hid hB
    have HCS := Lib.hid hcs
    have hzr := hB.size
    have hqlt := hq.lt
    have y4 : wr.cell? ⟨w.heap.size, 4, none⟩ = some (.slice al l.length cl) := by rw [hq.cell]; rfl
    clear hcs hq
    by_cases hlt : j < l.length
    · by_cases hsm : s ≤ m
      · obtain ⟨bl, ol, rfl, _⟩ := HL.out.addr (by rw [HL.out.1]; omega)
        obtain ⟨r, hr, hrc⟩ := HLS.out.cells HL.out j hlt
        have hcr : CellsAt wr bl (ol + j * 5) r := fun i u hi => below_cell hB (hrc i u hi)
        have hji : (j : Int) < l.length := by omega
        have hih := HIH.out l[j] (List.getElem_mem hlt)
        have hbw := HBW.out.mem l[j] (List.getElem_mem hlt)
        have hnx := HCS.out
        rw [List.drop_eq_getElem_cons hlt, countsS, if_pos hsm] at hnx
        generalize l[j] = y at hr hih hbw hnx
        have hrl := hr.length
        have HRL := Lib.hid hrl
        have HCR := Lib.hid hcr
        have HNX := Lib.hid hnx
        have hpos := countS_pos y (m - s)
        have hle := countS_le y (m - s) (by omega) hbw
        have HCALL := Lib.hid (hih F r wr (m - s) (hr.below hB) hbw (by omega) (by omega))
        obtain ⟨c, hc⟩ : ∃ c, c = countS y (m - s) := ⟨_, rfl⟩
        rw [← hc] at HCALL HNX hpos hle
        clear hr hrc hcr hrl hB hih hbw hnx hc
        go_wp2_with ((with_reducible show wpList _ _ _ (⟨some 28, _, _, _, _, _⟩ :: _) _ _); refine wpList_ldAgg rfl (.tmp 27) aggRef rfl rfl (cs := r) HRL.out HCR.out ?_)
        refine HCALL.out.mono ?_
        rintro e w4 ⟨rfl, hb4⟩
        have HQ4 := Lib.hid (HQ.out.below hb4 hqlt)
        have HB4 : Hid (Below w.heap.size w w4) := Lib.hid (HB.out.trans (hb4.mono hzr))
        clear hb4 HCALL
        go_wp2_with fail
        go_roundw
        case rel => exact ⟨j + 1, s + c, by omega, by go_num, rfl, HNX.out, by omega, by omega, HQ4.out, HB4.out⟩
        case measure => simp [intOf]; omega
      · have hji : (j : Int) < l.length := by omega
        have hfin := HCS.out
        rw [List.drop_eq_getElem_cons hlt, countsS, if_neg hsm] at hfin
        have HF := Lib.hid hfin
        clear hfin
        go_wp2_with fail
        go_ret
        rw [HR.out, ← HF.out]
        exact ⟨rfl, HB.out⟩
    · obtain rfl : j = l.length := by omega
      have hfin := HCS.out
      rw [List.drop_length, countsS] at hfin
      have HF := Lib.hid hfin
      clear hfin
      go_wp2_with fail
      go_ret
      rw [HR.out, ← HF.out]
      exact ⟨rfl, HB.out⟩

/-- What is counted bounds what is written. -/
theorem shortB_le8 (n : Nat) : (shortB n).length ≤ 8 := (shortB_few n).1
theorem headS_le (k t : Int) (n : Nat) : (headS k t n).length ≤ 10 := by
  unfold headS
  split
  · simp
  · have := shortB_le8 n
    simp
    omega
mutual
theorem writeS_le : ∀ x : Tv, (writeS x).length ≤ 18 * sizeT x
  | .mk k t n b l => by
    have h1 := writesS_le l
    have h2 := headS_le k t (bodyOf k n b (writesS l)).length
    have h3 := shortB_le8 n
    have h4 : (bodyOf k n b (writesS l)).length ≤ 8 + b.length + (writesS l).length := by
      unfold bodyOf
      split
      · omega
      · split <;> omega
    rw [writeS, List.length_append, sizeT]
    omega
theorem writesS_le : ∀ l : List Tv, (writesS l).length ≤ 18 * sizesT l
  | [] => by simp [writesS, sizesT]
  | x :: l => by
    have h1 := writeS_le x
    have h2 := writesS_le l
    rw [writesS, List.length_append, sizesT]
    omega
end
end Go.Proofs.Ytdmjliehobgknaa
