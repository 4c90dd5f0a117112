/- sha: the digest of what was taken in. -/
import Derived.Test.YtdmjliehobgknaaShaWrite
import Derived.Deep.DeepCutAuto
namespace Go.Proofs.Ytdmjliehobgknaa
set_option linter.unusedSimpArgs false
set_option linter.unusedVariables false
open Go.RowKit

/-- The ten cells of a sum. -/
def Sum10 (W : World) (p : Nat) (a b c d e f g i : Int) (va : Value) (n : Int) : Prop :=
  W.cell? ⟨p, 0, none⟩ = some (.int .u32 a) ∧ W.cell? ⟨p, 1, none⟩ = some (.int .u32 b) ∧ W.cell? ⟨p, 2, none⟩ = some (.int .u32 c) ∧ W.cell? ⟨p, 3, none⟩ = some (.int .u32 d) ∧ W.cell? ⟨p, 4, none⟩ = some (.int .u32 e) ∧
    W.cell? ⟨p, 5, none⟩ = some (.int .u32 f) ∧ W.cell? ⟨p, 6, none⟩ = some (.int .u32 g) ∧ W.cell? ⟨p, 7, none⟩ = some (.int .u32 i) ∧ W.cell? ⟨p, 8, none⟩ = some va ∧ W.cell? ⟨p, 9, none⟩ = some (.int .u64 n)
theorem Sum10.mk {W : World} {p : Nat} {a b c d e f g i : Int} {va : Value} {n : Int} (h : Blk W p (wCells [a, b, c, d, e, f, g, i] ++ [va, .int .u64 n]) 78) : Sum10 W p a b c d e f g i va n :=
  ⟨h.cell 0, h.cell 1, h.cell 2, h.cell 3, h.cell 4, h.cell 5, h.cell 6, h.cell 7, h.cell 8, h.cell 9⟩

theorem Blk.set10 {w : World} {p q : Nat} {cs : List Value} {T : TypeId} (h : Blk w p cs T) (hne : p ≠ q) (v0 v1 v2 v3 v4 v5 v6 v7 v8 v9 : Value) : Blk ((((((((((w.setCell ⟨q, 0, none⟩ v0).setCell ⟨q, 1, none⟩ v1).setCell ⟨q, 2, none⟩ v2).setCell ⟨q, 3, none⟩ v3).setCell ⟨q, 4, none⟩ v4).setCell ⟨q, 5, none⟩ v5).setCell ⟨q, 6, none⟩ v6).setCell ⟨q, 7, none⟩ v7).setCell ⟨q, 8, none⟩ v8).setCell ⟨q, 9, none⟩ v9) p cs T :=
  ((((((((((h.set_other (p := ⟨q, 0, none⟩) hne v0).set_other (p := ⟨q, 1, none⟩) hne v1).set_other (p := ⟨q, 2, none⟩) hne v2).set_other (p := ⟨q, 3, none⟩) hne v3).set_other (p := ⟨q, 4, none⟩) hne v4).set_other (p := ⟨q, 5, none⟩) hne v5).set_other (p := ⟨q, 6, none⟩) hne v6).set_other (p := ⟨q, 7, none⟩) hne v7).set_other (p := ⟨q, 8, none⟩) hne v8).set_other (p := ⟨q, 9, none⟩) hne v9)

/-- Written whole, cell by cell. -/
theorem Blk.all10 {w : World} {q : Nat} {c0 c1 c2 c3 c4 c5 c6 c7 c8 c9 : Value} {T : TypeId} (h : Blk w q [c0, c1, c2, c3, c4, c5, c6, c7, c8, c9] T) (v0 v1 v2 v3 v4 v5 v6 v7 v8 v9 : Value) : Blk ((((((((((w.setCell ⟨q, 0, none⟩ v0).setCell ⟨q, 1, none⟩ v1).setCell ⟨q, 2, none⟩ v2).setCell ⟨q, 3, none⟩ v3).setCell ⟨q, 4, none⟩ v4).setCell ⟨q, 5, none⟩ v5).setCell ⟨q, 6, none⟩ v6).setCell ⟨q, 7, none⟩ v7).setCell ⟨q, 8, none⟩ v8).setCell ⟨q, 9, none⟩ v9) q [v0, v1, v2, v3, v4, v5, v6, v7, v8, v9] T :=
  (((((((((h.set 0 v0).set 1 v1).set 2 v2).set 3 v3).set 4 v4).set 5 v5).set 6 v6).set 7 v7).set 8 v8).set 9 v9

theorem Keeps.drewL {S : Nat → Prop} {w w' : World} (h : Keeps S w.drew w') : Keeps S w w' := ⟨h.os, h.tape, h.output, h.size, h.block⟩

theorem Keeps.set10 (w : World) (q : Nat) (v0 v1 v2 v3 v4 v5 v6 v7 v8 v9 : Value) : Keeps (fun k => k = q) w ((((((((((w.setCell ⟨q, 0, none⟩ v0).setCell ⟨q, 1, none⟩ v1).setCell ⟨q, 2, none⟩ v2).setCell ⟨q, 3, none⟩ v3).setCell ⟨q, 4, none⟩ v4).setCell ⟨q, 5, none⟩ v5).setCell ⟨q, 6, none⟩ v6).setCell ⟨q, 7, none⟩ v7).setCell ⟨q, 8, none⟩ v8).setCell ⟨q, 9, none⟩ v9) :=
  (Keeps.setCell (Keeps.setCell (Keeps.setCell (Keeps.setCell (Keeps.setCell (Keeps.setCell (Keeps.setCell (Keeps.setCell (Keeps.setCell (Keeps.setCell (Keeps.refl (fun k => k = q) w) (p := ⟨q, 0, none⟩) rfl v0) (p := ⟨q, 1, none⟩) rfl v1) (p := ⟨q, 2, none⟩) rfl v2) (p := ⟨q, 3, none⟩) rfl v3) (p := ⟨q, 4, none⟩) rfl v4) (p := ⟨q, 5, none⟩) rfl v5) (p := ⟨q, 6, none⟩) rfl v6) (p := ⟨q, 7, none⟩) rfl v7) (p := ⟨q, 8, none⟩) rfl v8) (p := ⟨q, 9, none⟩) rfl v9)

theorem Blk.frozen10 {W : World} {p : Nat} {cs : List Value} {T : TypeId} (h : Blk W p cs T) : W.frozen? ⟨p, 0, none⟩ = false ∧ W.frozen? ⟨p, 1, none⟩ = false ∧ W.frozen? ⟨p, 2, none⟩ = false ∧ W.frozen? ⟨p, 3, none⟩ = false ∧ W.frozen? ⟨p, 4, none⟩ = false ∧
    W.frozen? ⟨p, 5, none⟩ = false ∧ W.frozen? ⟨p, 6, none⟩ = false ∧ W.frozen? ⟨p, 7, none⟩ = false ∧ W.frozen? ⟨p, 8, none⟩ = false ∧ W.frozen? ⟨p, 9, none⟩ = false :=
  ⟨h.frozen _, h.frozen _, h.frozen _, h.frozen _, h.frozen _, h.frozen _, h.frozen _, h.frozen _, h.frozen _, h.frozen _⟩

theorem Rs.two {w : World} {T : TypeId} {u1 u2 : Value} {r1 r2 : List UInt8} (h1 : Bs w u1 r1) (h2 : Bs w u2 r2) : Rs (w.alloc (.cells #[u1, u2] T)) (.slice (some ⟨w.heap.size, 0, none⟩) 2 2) [r1, r2] := by
  obtain ⟨a1, c1, e1, _⟩ := h1.form
  obtain ⟨a2, c2, e2, _⟩ := h2.form
  refine ⟨[u1, u2], rfl, Sl.lit (cs := #[u1, u2]) rfl rfl (by simp [e1, e2, Value.oneCell']) (by unfold maxLen; decide), fun j u r hu hr => ?_⟩
  match j, hu, hr with
  | 0, hu, hr => simp at hu hr; subst hu hr; exact h1.alloc _
  | 1, hu, hr => simp at hu hr; subst hu hr; exact h2.alloc _
  | j + 2, hu, hr => simp at hu

theorem run_index8 (H : List Int) (k : Nat) (hk : k < H.length) (hH : H.length = 8) (w : World) : (Instr.index 76 (.agg (wCells H).toArray) (.int .i64 k)).run Try.prog w = .ok (.int .u32 H[k]) w := by
  have hs : (sizeOf 71).run Try.prog w = .ok 1 w := by kernel_rfl
  have ha : (isAgg 71).run Try.prog w = .ok false w := by kernel_rfl
  have hc := wCells_get H k hk
  have hk8 : ¬ 8 ≤ k := by omega
  simp [Instr.index, run_underlying Try.underlying76, asIntOf, part, hs, ha, hc, hk8]

theorem outB_take (H : List Int) (k : Nat) (h : k < H.length) : outB (H.take (k + 1)) = outB (H.take k) ++ (putB H[k].toNat).drop 4 := by
  unfold outB
  rw [List.take_succ_eq_append_getElem h, List.flatMap_append, List.flatMap_singleton]
theorem outB_length (H : List Int) : (outB H).length = 4 * H.length := by
  induction H with
  | nil => rfl
  | cons x H ih => simp only [outB, List.flatMap_cons, List.length_append, List.length_drop, putB_length, List.length_cons] at ih ⊢; omega

set_option maxHeartbeats 4000000 in
set_option maxRecDepth 100000 in
theorem shaDigest_any (F : Nat → Prop) (p : Nat) (D : List UInt8) (w : World) (hs : SumOf w F p D) (hl : D.length ≤ 1099511627000) :
    Calls Try.prog 20 #[.pointer (some ⟨p, 0, none⟩)] w fun e w' => ∃ v, e = .returned v ∧ OwnBs w' w.heap.size v (digB D) ∧ Below w.heap.size w w' := by
  obtain ⟨hF, va, hblk, hown, hne, hFv⟩ := hs
  have hH := blocksI_length h0I D rfl (D.length / 64)
  obtain ⟨a, b, c, d, e, f, g, i, hhs⟩ := list8 _ hH
  rw [hhs] at hblk
  obtain ⟨r, hr⟩ : ∃ r, r = D.length - 64 * (D.length / 64) := ⟨_, rfl⟩
  rw [← hr] at hown
  obtain ⟨ar, cr, rfl, hcr, hcm2⟩ := hown.sl.form
  have HBLK := Lib.hid hblk
  have HOWN := Lib.hid hown
  have HHS := Lib.hid hhs
  have hr63 : r ≤ 63 := by omega
  have HR := Lib.hid hr
  have hpl := hblk.lt
  unfold maxLen at hcm2
  clear hblk hown hH hhs hr
  go_enter Try.func20, Try.ntmps20
  go_upto_region 1 with fail
  go_cut [3] (fun s3 wx => ∃ pt, s3 = .pointer (some ⟨pt, 0, none⟩) ∧ w.heap.size ≤ pt ∧ SumOf wx (fun k => w.heap.size ≤ k) pt D ∧ Below w.heap.size w wx)
  case first =>
    have S0 := Sum10.mk HBLK.out.drew
    have hpne : p ≠ w.heap.size := by omega
    obtain ⟨s0, s1, s2, s3, s4, s5, s6, s7, s8, s9⟩ := S0
    go_region_held3 (fun W : World => W.cell? ⟨p, 0, none⟩ = some (.int .u32 a) ∧ W.cell? ⟨p, 1, none⟩ = some (.int .u32 b) ∧ W.cell? ⟨p, 2, none⟩ = some (.int .u32 c) ∧ W.cell? ⟨p, 3, none⟩ = some (.int .u32 d) ∧ W.cell? ⟨p, 4, none⟩ = some (.int .u32 e) ∧
      W.cell? ⟨p, 5, none⟩ = some (.int .u32 f) ∧ W.cell? ⟨p, 6, none⟩ = some (.int .u32 g) ∧ W.cell? ⟨p, 7, none⟩ = some (.int .u32 i) ∧ W.cell? ⟨p, 8, none⟩ = some (.slice ar r cr) ∧ W.cell? ⟨p, 9, none⟩ = some (.int .u64 D.length))
      (first | (with_reducible exact ⟨s0, s1, s2, s3, s4, s5, s6, s7, s8, s9⟩) | (refine Sum10.mk ?_; first | (with_reducible assumption) | (with_reducible exact Blk.alloc (by with_reducible assumption) _) | (with_reducible exact (HBLK.out.alloc _).drew) | (with_reducible exact hbs _ _ _ _ _ _ _ _ _ _)))
      (first | (refine step_app_nil rfl (.const (.slice none 0 0)) (.tmp 15) elBytes rfl (by simp [Act.eval, Act.put]) (by simp [Act.eval, Act.put]) HOWN.out.drew.sl (by unfold maxLen; omega) (by omega) ?_; intro v' w2 hown2 hk2 hvb2; obtain ⟨a2, c2, rfl, hc2, hcm3⟩ := hown2.sl.form; have hblk2 : Blk w2 p _ _ := HBLK.out.drew.keep hk2 (by simp; omega)) | (refine step_app_nil (w := (w.alloc (.cells #[Value.int .u32 0, Value.int .u32 0, Value.int .u32 0, Value.int .u32 0, Value.int .u32 0, Value.int .u32 0, Value.int .u32 0, Value.int .u32 0, Value.slice none 0 0, Value.int .u64 0] 78)).drew) rfl (.const (.slice none 0 0)) (.tmp 15) elBytes rfl (by simp [Act.eval, Act.put]) (by simp [Act.eval, Act.put]) (HOWN.out.alloc _).drew.sl (by unfold maxLen; omega) (by omega) ?_; intro v' w2 hown2 hk2 hvb2; obtain ⟨a2, c2, rfl, hc2, hcm3⟩ := hown2.sl.form; have hblk2 : Blk w2 p _ _ := (HBLK.out.alloc _).drew.keep hk2 (by simp; omega); have hbz : Blk w2 w.heap.size [Value.int .u32 0, Value.int .u32 0, Value.int .u32 0, Value.int .u32 0, Value.int .u32 0, Value.int .u32 0, Value.int .u32 0, Value.int .u32 0, Value.slice none 0 0, Value.int .u64 0] _ := (Blk.new w [Value.int .u32 0, Value.int .u32 0, Value.int .u32 0, Value.int .u32 0, Value.int .u32 0, Value.int .u32 0, Value.int .u32 0, Value.int .u32 0, Value.slice none 0 0, Value.int .u64 0] 78).drew.keep hk2 (by simp); obtain ⟨y0, y1, y2, y3, y4, y5, y6, y7, y8, y9⟩ := Sum10.mk hbz; obtain ⟨g0, g1, g2, g3, g4, g5, g6, g7, g8, g9⟩ := hbz.frozen10; have hbs := Blk.set10 hblk2 hpne))
    · have hsz2 := hk2.size
      have hb2 : Below w.heap.size w w2 := (Keeps.drewL hk2).below (fun k hk => hk)
      have fin : SumOf (w2.alloc (.cells (wCells [a, b, c, d, e, f, g, i] ++ [Value.slice a2 r c2, Value.int .u64 D.length]).toArray 78)) (fun k => w.heap.size ≤ k) w2.heap.size D := by
        refine ⟨hb2.size, .slice a2 r c2, ?_, ?_, ?_, fun x hx => (hvb2 x hx).1⟩
        · rw [HHS.out]; exact Blk.new w2 _ _
        · rw [← HR.out]; exact (OwnO.of_own (hown2.base (Nat.zero_le _))).alloc _
        · intro h; have := (hvb2 _ h).2; omega
      have FIN := Lib.hid fin
      have hbx : Below w.heap.size w (w2.alloc (.cells (wCells [a, b, c, d, e, f, g, i] ++ [Value.slice a2 r c2, Value.int .u64 D.length]).toArray 78)) := hb2.alloc hb2.size _
      clear fin hown2 hk2 hvb2 hblk2
      go_wp2_with fail
      go_meet
      exact ⟨_, rfl, hb2.size, FIN.out, hbx⟩
    · have hsz2 := hk2.size
      simp at hsz2
      have hb2 : Below w.heap.size w w2 := ((Below.refl _ _).alloc (Nat.le_refl _) _).trans ((Keeps.drewL hk2).below (fun k hk => by simp at hk; omega))
      have hkw := Keeps.set10 w2 w.heap.size (.int .u32 a) (.int .u32 b) (.int .u32 c) (.int .u32 d) (.int .u32 e) (.int .u32 f) (.int .u32 g) (.int .u32 i) (.slice a2 r c2) (.int .u64 D.length)
      have hball := Blk.all10 hbz (.int .u32 a) (.int .u32 b) (.int .u32 c) (.int .u32 d) (.int .u32 e) (.int .u32 f) (.int .u32 g) (.int .u32 i) (.slice a2 r c2) (.int .u64 D.length)
      have hvb3 : ∀ x, (Value.slice a2 r c2).ownBlock = some x → w.heap.size + 1 ≤ x := fun x hx => by have := (hvb2 x hx).1; simp at this; omega
      obtain ⟨wE, hwE⟩ : ∃ wE, wE = ((((((((((w2.setCell ⟨w.heap.size, 0, none⟩ (.int .u32 a)).setCell ⟨w.heap.size, 1, none⟩ (.int .u32 b)).setCell ⟨w.heap.size, 2, none⟩ (.int .u32 c)).setCell ⟨w.heap.size, 3, none⟩ (.int .u32 d)).setCell ⟨w.heap.size, 4, none⟩ (.int .u32 e)).setCell ⟨w.heap.size, 5, none⟩ (.int .u32 f)).setCell ⟨w.heap.size, 6, none⟩ (.int .u32 g)).setCell ⟨w.heap.size, 7, none⟩ (.int .u32 i)).setCell ⟨w.heap.size, 8, none⟩ (.slice a2 r c2)).setCell ⟨w.heap.size, 9, none⟩ (.int .u64 D.length)) := ⟨_, rfl⟩
      rw [← hwE] at hkw hball ⊢
      have fin : SumOf wE (fun k => w.heap.size ≤ k) w.heap.size D := by
        refine ⟨Nat.le_refl _, .slice a2 r c2, ?_, ?_, ?_, fun x hx => by have := hvb3 x hx; omega⟩
        · rw [HHS.out]; exact hball
        · rw [← HR.out]; exact (OwnO.of_own (hown2.base (Nat.zero_le _))).keep hkw (fun x hx e => by have := hvb3 x hx; omega)
        · intro h; have := hvb3 _ h; omega
      have FIN := Lib.hid fin
      have hbx : Below w.heap.size w wE := hb2.trans (hkw.below (by omega))
      clear fin hown2 hk2 hvb2 hblk2 hkw hball hvb3 hbs hbz y0 y1 y2 y3 y4 y5 y6 y7 y8 y9 g0 g1 g2 g3 g4 g5 g6 g7 g8 g9 hwE s0 s1 s2 s3 s4 s5 s6 s7 s8 s9
      go_wp2_with fail
      go_meet
      exact ⟨_, rfl, Nat.le_refl _, FIN.out, hbx⟩
  case rest =>
    obtain ⟨pt, rfl, hpt, hsum, hb⟩ := hcut
    have hsum' := hsum
    obtain ⟨_, va, hblk, hown, hne2, hFv2⟩ := hsum'
    have hH := blocksI_length h0I D rfl (D.length / 64)
    rw [← HR.out] at hown
    obtain ⟨a3, c3, rfl, hcr3, hcm3⟩ := hown.sl.form
    have t8 := hblk.cell 8
    rw [sum8 _ _ _ hH] at t8
    have p9 : wc.cell? ⟨p, 9, none⟩ = some (.int .u64 D.length) := by rw [(HBLK.out.below hb hpl).cell]; rfl
    have HSUM := Lib.hid hsum
    unfold maxLen at hcm3
    obtain ⟨N, hN⟩ : ∃ N : Nat, N = 1 + (119 - r) % 64 := ⟨_, rfl⟩
    have hNr : (1 + (119 - (r : Int)) % 64) = (N : Int) := by omega
    have hN1 : 1 ≤ N ∧ N ≤ 64 := by omega
    have hpadB : padB D.length = 128 :: List.replicate (N - 1) 0 := by
      unfold padB
      rw [show (119 - D.length % 64) % 64 = N - 1 by have := HR.out; omega]
    obtain ⟨PA, hPA⟩ : ∃ PA : Array Value, PA = (List.replicate N (.int .u8 0)).toArray := ⟨_, rfl⟩
    have hmk := mkBytes wc N _ hNr (by omega)
    rw [← hPA] at hmk
    have hz : Blk (wc.alloc (.cells PA 5)) wc.heap.size (List.replicate N (.int .u8 0)) 5 := by rw [hPA]; exact Blk.new _ _ _
    have z0 := hz.cell 0
    have zf := hz.frozen 0
    rw [List.getElem?_replicate, if_pos (by omega)] at z0
    have hN0 : (0 : Int) < N := by omega
    obtain ⟨PB, hPB⟩ : ∃ PB : Array Value, PB = PA.setIfInBounds 0 (.int .u8 128) := ⟨_, rfl⟩
    have hPBl : PB.toList = bCells (padB D.length) := by
      rw [hPB, hPA, hpadB, show N = (N - 1) + 1 by omega]
      simp [bCells, bV, List.replicate_succ]
    have hpadW : Blk (wc.alloc (.cells PB 5)) wc.heap.size (bCells (padB D.length)) 5 := by
      have := Blk.new wc PB.toList 5
      rw [hPBl] at this
      rw [show PB = (bCells (padB D.length)).toArray by rw [← hPBl]]
      exact this
    have hpl2 : p < wc.heap.size := Nat.lt_of_lt_of_le hpl hb.size
    have hb2 : Below w.heap.size w (wc.alloc (.cells PB 5)) := hb.alloc hb.size _
    have p9' : (wc.alloc (.cells PB 5)).cell? ⟨p, 9, none⟩ = some (.int .u64 D.length) := by rw [(HBLK.out.below hb2 hpl).cell]; rfl
    have hsum2 := hsum.below ((Below.refl _ _).alloc (Nat.le_refl _) (.cells PB 5))
    have hNl : (padB D.length).length = N := by rw [hpadB]; simp; omega
    have HPW := Lib.hid hpadW
    have HB2 := Lib.hid hb2
    have HNL := Lib.hid hNl
    have HSUM2 := Lib.hid hsum2
    have hptl := hsum.lt
    clear hsum hblk hown hne2 hFv2 hH hpadW hb2 hpadB hPA hz hNr hsum2 HSUM hN hNl hPBl
    go_wp2_with (rw [← hPB])
    refine (show Calls Try.prog 45 #[.int .u64 (8 * (D.length : Int))] (wc.alloc (.cells PB 5)) _ by rw [show (8 * (D.length : Int)) = ((8 * D.length : Nat) : Int) by omega]; exact put_any (8 * D.length) _).mono ?_
    rintro e w3 ⟨rfl, hown3, hb3, _⟩
    obtain ⟨W0, hW0⟩ : ∃ W0, W0 = wc.alloc (.cells PB 5) := ⟨_, rfl⟩
    have hW0s : W0.heap.size = wc.heap.size + 1 := by rw [hW0]; simp
    rw [← hW0] at HPW HB2 HSUM2 hown3 hb3 p9' ⊢
    rw [hW0s] at hown3 ⊢
    have hput : Bs w3 _ (putB (8 * D.length)) := hown3.bs
    have hpad3 : Bs w3 (.slice (some ⟨wc.heap.size, 0, none⟩) N N) (padB D.length) := by
      have h1 := ((HPW.out.below hb3 HPW.out.lt).bs (off := 0) (n := N) (cap := N) (by have := HNL.out; omega) (Nat.le_refl _) (by unfold maxLen; omega))
      exact h1.bs (by rw [List.drop_zero, List.take_of_length_le (by have := HNL.out; omega)]) HNL.out
    have hrs := Rs.two (T := 22) hpad3 hput
    have hs3 := hb3.size
    have HRS := Lib.hid hrs
    have HB3 : Hid (Below w.heap.size w (w3.alloc (.cells #[.slice (some ⟨wc.heap.size, 0, none⟩) N N, .slice (some ⟨wc.heap.size + 1, 0, none⟩) 8 8] 22))) := Lib.hid ((HB2.out.trans (hb3.mono HB2.out.size)).alloc (by have := HB2.out.size; omega) _)
    have HSUM3 := Lib.hid ((HSUM2.out.below hb3).below ((Below.refl _ _).alloc (Nat.le_refl _) (.cells #[.slice (some ⟨wc.heap.size, 0, none⟩) N N, .slice (some ⟨wc.heap.size + 1, 0, none⟩) 8 8] 22)))
    clear hput hpad3 hrs hown3 hb3 hW0 HPW HB2 HSUM2 hmk z0 zf p9' p9 t8
    go_wp2_with fail
    refine (joined_any _ _ _ HRS.out (by have := HNL.out; simp [putB_length]; omega)).mono ?_
    rintro e w4 ⟨v4, rfl, hown4, hb4⟩
    have hflat : [padB D.length, putB (8 * D.length)].flatten = padB D.length ++ putB (8 * D.length) := by simp
    obtain ⟨Q, hQ⟩ : ∃ Q, Q = padB D.length ++ putB (8 * D.length) := ⟨_, rfl⟩
    rw [hflat, ← hQ] at hown4
    have hQl : Q.length = N + 8 := by rw [hQ, List.length_append, HNL.out, putB_length]
    have HQ := Lib.hid hQ
    have HQL := Lib.hid hQl
    have hQs : Q.length ≤ 72 := by omega
    obtain ⟨g4, cap4, rest4, rfl, hg4, _⟩ := hown4.blk (by omega)
    clear hQ hQl
    have hbs4 := hown4.bs
    have HSUM4 := Lib.hid (HSUM3.out.below hb4)
    have HB4 : Hid (Below w.heap.size w w4) := Lib.hid (HB3.out.trans (hb4.mono HB3.out.size))
    have hs4 := hb4.size
    simp at hs4 hg4
    have HBS4 := Lib.hid hbs4
    clear hown4 hb4 hbs4 HRS hflat
    go_wp2_with fail
    refine (shaWrite_any _ pt D _ _ w4 HSUM4.out HBS4.out (by omega)).mono ?_
    rintro e w5 ⟨rfl, hsum5, hk5⟩
    have HB5 : Hid (Below w.heap.size w w5) := Lib.hid (HB4.out.trans (hk5.below (by
      have := HB4.out.size
      rintro k (h | h) <;> omega)))
    obtain ⟨_, va5, hblk5, _⟩ := hsum5
    obtain ⟨M, hM⟩ : ∃ M, M = wholeB D := ⟨_, rfl⟩
    rw [show D ++ Q = M by rw [hM, HQ.out]; rfl] at hblk5
    obtain ⟨H, hH⟩ : ∃ H, H = blocksI h0I M (M.length / 64) := ⟨_, rfl⟩
    have hHl : H.length = 8 := by rw [hH]; exact blocksI_length _ _ rfl _
    have hHw : ∀ x ∈ H, 0 ≤ x ∧ x < 4294967296 := by rw [hH]; exact blocksI_w32 _ _ rfl h0I_w32 _
    rw [← hH] at hblk5
    have hdig : outB H = digB D := by rw [hH, hM]; rfl
    have hca : CellsAt w5 pt 0 (wCells H) := fun j u hj => by
      rw [hblk5.cell, Nat.zero_add, List.getElem?_append_left (List.getElem?_eq_some_iff.1 hj).1]
      exact hj
    have hcl : (wCells H).length = 8 := by rw [wCells_length, hHl]
    have HCA := Lib.hid hca
    have HCL := Lib.hid hcl
    have HDIG := Lib.hid hdig
    have HHW := Lib.hid hHw
    have hs5 := hk5.size
    clear hM hH hdig hca hcl hHw hk5 hblk5 HSUM4 HSUM3 HBS4
    go_wp2_with ((with_reducible show wpList _ _ _ (⟨some 42, _, _, _, _, _⟩ :: _) _ _); refine wpList_ldAgg rfl (.tmp 41) agg8 rfl rfl (cs := wCells H) HCL.out HCA.out ?_)
    go_wp2_with fail
    go_loopw [5, 43] (fun out i wr => ∃ k : Nat, k ≤ 8 ∧ i = .int .i64 k ∧ OwnBs wr w.heap.size out (outB (H.take k)) ∧ Below w.heap.size w wr) (fun _ i _ => 8 - (intOf i).toNat)
    case atStart => exact ⟨0, by omega, rfl, Own.nil _ _ _ _ _, HB5.out⟩
    case round =>
      obtain ⟨k, hk, rfl, hout, hB⟩ := hrel
      by_cases hlt : k < 8
      · have hix := run_index8 H k (by omega) hHl
        have hkw := HHW.out _ (List.getElem_mem (by omega : k < H.length))
        have hstep := outB_take H k (by omega)
        generalize H[k]'(by omega) = x at hix hkw hstep
        obtain ⟨xn, rfl⟩ : ∃ n : Nat, x = (n : Int) := ⟨x.toNat, by omega⟩
        rw [Int.toNat_natCast] at hstep
        have HSTEP := Lib.hid hstep
        have HOUT := Lib.hid hout
        have hss := hB.size
        have hol := outB_length (H.take k)
        rw [List.length_take] at hol
        clear hstep hout
        go_wp2_with fail
        refine (put_any xn wr).mono ?_
        rintro e w6 ⟨rfl, hown6, hb6, hblk6⟩
        have hsl6 : Sl w6 1 (.slice (some ⟨wr.heap.size, 4, none⟩) 4 4) 4 (bCells ((putB xn).drop 4)) := by
          have := hblk6.bs (off := 4) (n := 4) (cap := 4) (by rw [putB_length]; decide) (Nat.le_refl _) (by unfold maxLen; decide)
          rw [List.take_of_length_le (by rw [List.length_drop, putB_length]; decide)] at this
          exact this
        have HSL6 := Lib.hid hsl6
        have HOUT6 := Lib.hid (HOUT.out.below hb6)
        have HB6 : Hid (Below w.heap.size w w6) := Lib.hid (hB.trans (hb6.mono hss))
        have hs6 := hb6.size
        clear hsl6 hown6 hb6 hblk6
        go_wp2_with ((with_reducible show wpList _ _ _ (⟨some 51, _, _, _, _, _⟩ :: _) _ _); refine wpList_app rfl (.tmp 46) (.tmp 50) elBytes rfl w.heap.size HOUT6.out HSL6.out (by unfold maxLen; omega) (by omega) (by omega) ?_)
        intro v7 w7 hown7 hk7 hvb7
        have hout7 : OwnBs w7 w.heap.size v7 (outB (H.take (k + 1))) := by
          rw [HSTEP.out]
          unfold OwnBs
          rw [List.length_append, bCells_append, List.length_drop, putB_length]
          rw [show (outB (H.take k)).length + (8 - 4) = 4 * k + 4 by omega]
          exact hown7
        have hB7 : Below w.heap.size w w7 := HB6.out.trans (hk7.below (by
          intro j hj
          rcases hj with hj | hj <;> omega))
        have HO7 := Lib.hid hout7
        clear hown7 hk7 hvb7 hout7
        go_wp2_with fail
        go_roundw
        case rel => exact ⟨k + 1, by omega, by go_num, HO7.out, hB7⟩
        case measure => simp [intOf]; omega
      · obtain rfl : k = 8 := by omega
        go_wp2_with fail
        go_ret
        refine ⟨_, rfl, ?_, hB⟩
        rw [← HDIG.out]
        rw [List.take_of_length_le (by omega)] at hout
        exact hout
end Go.Proofs.Ytdmjliehobgknaa
