/- Contract: the law's Plain: a value as the document has it. (Printed by wip/tools/genplain.py.) -/
import Derived.Test.YtdmjliehobgknaaRefSame
namespace Go.Proofs.Ytdmjliehobgknaa
set_option linter.unusedSimpArgs false
set_option linter.unusedVariables false
open Go.RowKit

mutual
/-- No list is longer than memory has room for. -/
def Lw : Tv → Prop
  | .mk _ _ _ _ l => l.length ≤ 1954687338211 ∧ LsW l
def LsW : List Tv → Prop
  | [] => True
  | x :: l => Lw x ∧ LsW l
end
theorem LsW.mem : ∀ {l : List Tv}, LsW l → ∀ x ∈ l, Lw x
  | [], _, x, hx => by simp at hx
  | y :: l, h, x, hx => by
    rcases List.mem_cons.1 hx with e | hx
    · rw [e]; exact h.1
    · exact h.2.mem x hx
theorem LsW.of : ∀ {l : List Tv}, (∀ x ∈ l, Lw x) → LsW l
  | [], _ => trivial
  | y :: l, h => ⟨h y (by simp), LsW.of (fun x hx => h x (by simp [hx]))⟩

theorem TvsF.take_snoc {w : World} {F : Nat → Prop} {l : List Tv} {j : Nat} {cs r : List Value} (h : j < l.length) (h1 : TvsF w F (l.take j) cs) (h2 : TvF w F l[j] r) : TvsF w F (l.take (j + 1)) (cs ++ r) := by
  rw [List.take_succ_eq_append_getElem h]
  exact h1.snoc h2

def PlRes (w : World) (F : Nat → Prop) (x : Tv) (e : Ending) (w' : World) : Prop :=
  ∃ cs : List Value, e = .returned (.agg cs.toArray) ∧ TvF w' (fun y => (F y ∧ y < w.heap.size) ∨ (w.heap.size ≤ y ∧ y < w'.heap.size)) x cs ∧ Below w.heap.size w w'

structure PL (w : World) (F : Nat → Prop) (r : Nat) (k t : Int) (n : Nat) (bv : Value) (l : List Tv) (wr : World) (j : Nat) (lv : Value) (rows : List Value) (G : Nat → Prop) : Prop where
  q : Blk wr (r + 2) [.int .i64 k, .int .i64 t, .int .u64 n, bv, lv] 50
  z : Blk wr (r + 1) zs5 50
  own : Own wr (r + 3) 50 5 lv j rows
  tvs : TvsF wr G (l.take j) rows
  g : ∀ x, G x → (F x ∧ x < r) ∨ (r + 3 ≤ x ∧ x < wr.heap.size ∧ lv.ownBlock ≠ some x)
  v : ∀ x, lv.ownBlock = some x → r + 3 ≤ x ∧ x < wr.heap.size
  below : Below r w wr
  size : r + 3 ≤ wr.heap.size

set_option maxHeartbeats 8000000 in
set_option maxRecDepth 100000 in
theorem plain_any : ∀ (x : Tv) (F : Nat → Prop) (cs : List Value) (w : World), TvF w F x cs → Lw x →
    Calls Try.prog 29 #[.agg cs.toArray] w (PlRes w F x) := by
  refine tv_ind (fun k t n b l ih => ?_)
  intro F cs w h hlw
  obtain ⟨bv, lv, rows, rfl, hb, hbF, hl, hlF, hls⟩ := (TvF.tight _ _ h).open_
  simp only [Tv.kind, Tv.tag, Tv.n, Tv.b, Tv.l] at *
  obtain ⟨hl1, hl2⟩ := hlw
  obtain ⟨ab, cb, rfl, hcb, hmb⟩ := hb.form
  obtain ⟨al, cl, rfl, hcl, hml⟩ := hl.form
  unfold maxLen at hmb hml
  have HL := Lib.hid hl
  have HLS := Lib.hid hls
  have HBS := Lib.hid hb
  have HBF := Lib.hid hbF
  have HIH := Lib.hid ih
  have HLW := Lib.hid hl2
  obtain ⟨r, hr⟩ : ∃ r, r = w.heap.size := ⟨_, rfl⟩
  have hdr : w.heap.size ≤ r := by omega
  have hrd : r ≤ w.heap.size := by omega
  clear h hb hbF hl hlF hls ih hl2
  go_enter Try.func29, Try.ntmps29
  go_wp2_with fail
  generalize hW0 : (((w.alloc (.cells #[.int .i64 k, .int .i64 t, .int .u64 n, .slice ab b.length cb, .slice al l.length cl] 47)).alloc (.cells #[.int .i64 0, .int .i64 0, .int .u64 0, .slice none 0 0, .slice none 0 0] 50)).alloc (.cells #[.int .i64 k, .int .i64 t, .int .u64 n, .slice ab b.length cb, .slice none 0 0] 50)) = W0
  have hpl : PL w F r k t n (.slice ab b.length cb) l W0 0 (.slice none 0 0) [] (fun _ => False) := by
    subst hr hW0
    refine ⟨Blk.at_ (by simp), (Blk.at_ (by simp)).alloc _, Own.nil _ _ _ _ _, rfl, fun _ h => h.elim, by simp [Value.ownBlock], (((Below.refl _ _).alloc (Nat.le_refl _) _).alloc (by simp) _).alloc (by simp <;> omega) _, by simp <;> omega⟩
  have HPL := Lib.hid hpl
  have hrw : w.heap.size = r := hr.symm
  rw [hrw]
  clear hW0 hpl hr hrw
  go_loopw [18] (fun i wr => ∃ (j : Nat) (lv : Value) (rows : List Value) (G : Nat → Prop), j ≤ l.length ∧ i = .int .i64 j ∧ PL w F r k t n (.slice ab b.length cb) l wr j lv rows G) (fun i _ => l.length - (intOf i).toNat)
  case atStart => exact ⟨0, _, _, _, Nat.zero_le _, rfl, HPL.out⟩
  case round =>
    obtain ⟨j, lv, rows, G, hj, rfl, hp⟩ := hrel
    have HP := Lib.hid hp
    have hszr := hp.size
    clear HPL
    by_cases hlt : j < l.length
    · obtain ⟨bl, ol, rfl, _⟩ := HL.out.addr (by rw [HL.out.1]; omega)
      obtain ⟨re, hre, hrc⟩ := HLS.out.cells HL.out j hlt
      have hB := hp.below.mono hdr
      have hcr : CellsAt wr bl (ol + j * 5) re := fun i u hi => below_cell hB (hrc i u hi)
      have hji : (j : Int) < l.length := by omega
      have hih := HIH.out l[j] (List.getElem_mem hlt)
      have hlw := HLW.out.mem l[j] (List.getElem_mem hlt)
      obtain ⟨y, hy⟩ : ∃ y, y = l[j] := ⟨_, rfl⟩
      rw [← hy] at hre hih hlw
      have HY := Lib.hid hy
      have hrl := hre.length
      have HR1 := Lib.hid hre.one
      have HRL := Lib.hid hrl
      have HCR := Lib.hid hcr
      have HRT := Lib.hid (hre.below hB)
      have HIHy := Lib.hid hih
      have HLWy := Lib.hid hlw
      have HN := Lib.hid (Blk.new wr zs5 47)
      clear hre hrc hcr hrl hB hp hih hlw hy
      go_wp2_with (first | ((with_reducible show wpList _ _ _ (⟨some 21, _, _, _, _, _⟩ :: _) _ _); refine wpList_ldAgg rfl (.tmp 20) aggDer rfl rfl (cs := re) HRL.out HCR.out ?_) | ((with_reducible show wpList _ _ _ (⟨none, .store _ (.tmp 5) (.tmp 21), _, _, _, _⟩ :: _) _ _); refine wpList_stAgg rfl (.tmp 5) (.tmp 21) aggDer rfl rfl (vs := re) rfl HRL.out HN.out (Nat.le_refl _) HR1.out ?_))
      intro w3 h3 k3
      have h3' : Blk w3 wr.heap.size re 47 := by
        rw [List.drop_of_length_le (by decide), List.append_nil] at h3
        exact h3
      have hz3 := k3.size
      simp at hz3
      have hb3 : Below wr.heap.size wr w3 := ((Below.refl _ _).alloc (Nat.le_refl _) _).trans (k3.below (by omega))
      have H3d : Hid (CellsAt w3.drew wr.heap.size 0 re) := Lib.hid h3'.cellsAll
      have HB3 : Hid (Below wr.heap.size wr w3.drew) := Lib.hid hb3.drew
      have HCALL := Lib.hid (HIHy.out _ re w3.drew ((HRT.out.below hb3).below ((Below.refl _ _).drew)) HLWy.out)
      have y4 : w3.drew.cell? ⟨r + 2, 4, none⟩ = some lv := by
        have := HP.out.q.below HB3.out (by omega)
        rw [this.cell]
        rfl
      have hzd : w3.drew.heap.size = w3.heap.size := rfl
      have HZD : Hid (w3.drew.heap.size = w3.heap.size) := Lib.hid rfl
      obtain ⟨s3, hs3⟩ : ∃ s3, s3 = wr.heap.size := ⟨_, rfl⟩
      rw [← hs3] at H3d ⊢
      clear h3 h3' k3 hb3 HN HRT HCR hzd
      go_wp2_with fail
      refine wp_region_any (by kernel_rfl) ?_
      change wpAny _ _ _ _ _ _ _ (World.drew _)
      refine wpAny_take (i := 0) (oi := { dst := some 22, op := _, type := _, pos := _, after := _, guard := none }) (v := .pointer (some ⟨r + 2, 4, none⟩)) rfl (by kernel_rfl) (by kernel_rfl) (by kernel_rfl) (fun _ _ _ h => h) (Or.inl ⟨by rfl, by intro w; go_simp⟩) ?_
      simp only [Act.put, List.setIfInBounds_toArray, List.set_cons_zero, List.set_cons_succ]
      refine wpAny_ready (rs := [1, 2]) (by decide +kernel) (by simp) ?_
      refine AllReady.cons (o := { dst := some 23, op := .load 48 (.tmp 22), type := _, pos := _, after := _, guard := none }) rfl (fun K hK => ?_) (AllReady.cons (o := { dst := some 24, op := .load 47 (.tmp 5), type := _, pos := _, after := _, guard := none }) rfl (fun K hK => ?_) AllReady.nil)
      · go_simp
        refine hK _ _ ?_
        clear hK K
        try simp only [Act.put, List.setIfInBounds_toArray, List.set_cons_zero, List.set_cons_succ]
        refine wpAny_ready (rs := [2]) (by decide +kernel) (by simp) ?_
        refine AllReady.cons (o := { dst := some 24, op := .load 47 (.tmp 5), type := _, pos := _, after := _, guard := none }) rfl (fun K hK => ?_) AllReady.nil
        refine step_ldAgg rfl (.tmp 5) aggDer rfl (by simp [Act.eval]) HRL.out H3d.out ?_
        refine hK _ _ ?_
        clear hK K
        try simp only [Act.put, List.setIfInBounds_toArray, List.set_cons_zero, List.set_cons_succ]
        refine wpAny_ready (rs := [3]) (by decide +kernel) (by simp) ?_
        refine AllReady.cons (o := { dst := some 25, op := .call { callee := .value (.func 29), args := #[.tmp 24], argTypes := #[47] }, type := _, pos := _, after := _, guard := none }) rfl (fun K hK => ?_) AllReady.nil
        go_simp
        refine HCALL.out.mono ?_
        rintro e w5 ⟨cs5, rfl, htv5, hb5⟩
        have hz5 := hb5.size
        have HB5 : Hid (Below wr.heap.size wr w5) := Lib.hid (HB3.out.trans (hb5.mono HB3.out.size))
        have hq5 := HP.out.q.below HB5.out (by omega)
        have y5 : w5.cell? ⟨r + 2, 4, none⟩ = some lv := by rw [hq5.cell]; rfl
        have y5c : (w5.alloc (.cells cs5.toArray 50)).cell? ⟨r + 2, 4, none⟩ = some lv := by rw [(hq5.alloc (.cells cs5.toArray 50)).cell]; rfl
        have HCL5 : Hid (cs5.length = 5) := Lib.hid htv5.length
        have HC51 := Lib.hid htv5.one
        have HTV5 := Lib.hid htv5
        have hz35 : w3.heap.size ≤ w5.heap.size := by have := HZD.out; omega
        have HO5 : Hid (Own (w5.alloc (.cells cs5.toArray 50)) (r + 3) 50 5 lv j rows) := Lib.hid ((HP.out.own.below HB5.out).alloc _)
        have HV5 : Hid (∀ b, lv.ownBlock = some b → b < (w5.alloc (.cells cs5.toArray 50)).heap.size) := Lib.hid (fun b hb => by have := (HP.out.v b hb).2; simp; omega)
        clear htv5 hb5 hq5 HCALL y4
        refine hK _ _ ?_
        clear hK K
        try simp only [Act.put, List.setIfInBounds_toArray, List.set_cons_zero, List.set_cons_succ]
        refine wpAny_ready (rs := [4]) (by decide +kernel) (by simp) ?_
        refine AllReady.cons (o := { dst := some 26, op := .buildSlice 48 1 #[(0, .tmp 25)], type := _, pos := _, after := _, guard := none }) rfl (fun K hK => ?_) AllReady.nil
        refine step_bs1 rfl (.tmp 25) elRef rfl (X := cs5.toArray) (by simp [Act.eval]) (by have := HCL5.out; simpa using this) (by decide) ?_
        refine hK _ _ ?_
        clear hK K
        try simp only [Act.put, List.setIfInBounds_toArray, List.set_cons_zero, List.set_cons_succ]
        refine wpAny_ready (rs := [5]) (by decide +kernel) (by simp) ?_
        refine AllReady.cons (o := { dst := some 27, op := .call { callee := .builtin .append, args := #[.tmp 23, .tmp 26], argTypes := #[48, 48] }, type := _, pos := _, after := _, guard := none }) rfl (fun K hK => ?_) AllReady.nil
        refine step_app2 rfl (.tmp 23) (.tmp 26) elRef rfl (r + 3) (v := lv) (by simp [Act.eval]) HO5.out HV5.out (u := .slice (some ⟨w5.heap.size, 0, none⟩) 1 1) (by simp [Act.eval]) (Sl.lit (n := 1) rfl (by simpa using HCL5.out) HC51.out (by unfold maxLen; decide)) (by unfold maxLen; omega) (by omega) (by simp; omega) ?_
        intro v7 w7 ho7 hk7 hv7
        have hz7 := hk7.size
        simp at hz7
        obtain ⟨a7, c7, hv7f, _⟩ := ho7.sl.form
        subst hv7f
        have k57 : Keeps (fun b => lv.ownBlock = some b ∨ w5.heap.size ≤ b) w5 w7 := by
          refine ((Keeps.refl _ _).alloc _ (.inr (Nat.le_refl _))).trans (hk7.mono (fun b hb => ?_))
          rcases hb with hb | hb
          · exact .inl hb.1
          · try simp at hb
            exact .inr (by omega)
        have ka : Keeps (fun b => lv.ownBlock = some b ∨ wr.heap.size ≤ b) wr w7 := ((Keeps.of_below HB5.out).mono (fun b hb => .inr hb)).trans (k57.mono (fun b hb => by
          rcases hb with hb | hb
          · exact .inl hb
          · exact .inr (by omega)))
        have hvr : ∀ b, b < r + 3 → ¬ (lv.ownBlock = some b ∨ wr.heap.size ≤ b) := by
          rintro b hb (h | h)
          · have := (HP.out.v b h).1; omega
          · omega
        have hq7 := HP.out.q.keep ka (hvr _ (by omega))
        have hr7 := HP.out.z.keep ka (hvr _ (by omega))
        have q7 : w7.cell? ⟨r + 2, 4, none⟩ = some lv := by rw [hq7.cell]; rfl
        have qf7 := hq7.frozen 4
        have hb7 : Below r w w7 := HP.out.below.trans (ka.below (by
          rintro b (h | h)
          · have := (HP.out.v b h).1; omega
          · omega))
        have htvs7 : TvsF w7 (fun y => G y ∨ (F y ∧ y < r) ∨ (wr.heap.size ≤ y ∧ y < w5.heap.size)) (l.take (j + 1)) (rows ++ cs5) := by
          refine TvsF.take_snoc hlt ((HP.out.tvs.keep ka (fun y hy hl h => ?_)).mono (fun y hy => .inl hy)) ?_
          · rcases HP.out.g y hy with hg | ⟨hg1, hg2, hg3⟩
            · rcases h with h | h
              · have := (HP.out.v y h).1; omega
              · omega
            · rcases h with h | h
              · exact hg3 h
              · omega
          · rw [← HY.out]
            refine (HTV5.out.keep k57 (fun y hy hl h => ?_)).mono (fun y hy => ?_)
            · have hz := HZD.out
              rcases hy with hy | hy
              · rcases h with h | h
                · have := (HP.out.v y h).1; omega
                · omega
              · rcases h with h | h
                · have := (HP.out.v y h).2; omega
                · omega
            · have hz := HZD.out
              rcases hy with hy | hy
              · exact .inr (.inl ⟨hy.1.1, by omega⟩)
              · exact .inr (.inr ⟨by omega, by omega⟩)
        have hv8 : ∀ b, (Value.slice a7 (j + 1) c7).ownBlock = some b → r + 3 ≤ b ∧ b < w7.heap.size := fun b hb => by
          refine ⟨?_, (hv7 b hb).2⟩
          rcases (hv7 b hb).1 with h | h
          · exact (HP.out.v b h).1
          · try simp at h
            omega
        have HPn : Hid (PL w F r k t n (.slice ab b.length cb) l (w7.setCell ⟨r + 2, 4, none⟩ (.slice a7 (j + 1) c7)) (j + 1) (.slice a7 (j + 1) c7) (rows ++ cs5) (fun y => G y ∨ (F y ∧ y < r) ∨ (wr.heap.size ≤ y ∧ y < w5.heap.size))) := Lib.hid (by
          have ks : Keeps (fun b => b = r + 2) w7 (w7.setCell ⟨r + 2, 4, none⟩ (.slice a7 (j + 1) c7)) := Keeps.one _ _ _ _
          have hsz : (w7.setCell ⟨r + 2, 4, none⟩ (.slice a7 (j + 1) c7)).heap.size = w7.heap.size := by simp [World.setCell]
          refine ⟨hq7.set 4 _, hr7.keep ks (by omega), ho7.keep ks (fun b hb e => by have := (hv8 b hb).1; omega), htvs7.keep ks (fun y hy _ e => ?_), fun y hy => ?_, by rw [hsz]; exact hv8, hb7.trans (ks.below (by omega)), by rw [hsz]; omega⟩
          · rcases hy with hy | hy | hy
            · rcases HP.out.g y hy with hg | hg <;> omega
            · omega
            · omega
          · rw [hsz]
            rcases hy with hy | hy | hy
            · rcases HP.out.g y hy with hg | ⟨hg1, hg2, hg3⟩
              · exact .inl hg
              · refine .inr ⟨hg1, by omega, fun e => ?_⟩
                rcases (hv7 y e).1 with h | h
                · exact hg3 h
                · try simp at h
                  omega
            · exact .inl hy
            · refine .inr ⟨by omega, by omega, fun e => ?_⟩
              rcases (hv7 y e).1 with h | h
              · have := (HP.out.v y h).2; omega
              · try simp at h
                omega)
        clear ho7 hk7 hv7 k57 ka hvr hq7 hr7 hb7 htvs7 hv8 HTV5 HB5 HO5 HV5 HCL5 HC51 y5 y5c
        refine hK _ _ ?_
        clear hK K
        try simp only [Act.put, List.setIfInBounds_toArray, List.set_cons_zero, List.set_cons_succ]
        refine wpAny_take (i := 6) (oi := { dst := some 28, op := _, type := _, pos := _, after := _, guard := none }) (v := .pointer (some ⟨r + 2, 4, none⟩)) rfl (by kernel_rfl) (by kernel_rfl) (by kernel_rfl) (fun _ _ _ h => h) (Or.inl ⟨by rfl, by intro w; go_simp⟩) ?_
        simp only [Act.put, List.setIfInBounds_toArray, List.set_cons_zero, List.set_cons_succ]
        refine wpAny_ready (rs := [7]) (by decide +kernel) (by simp) ?_
        refine AllReady.cons (o := { dst := none, op := .store 48 (.tmp 28) (.tmp 27), type := _, pos := _, after := _, guard := none }) rfl (fun K hK => ?_) AllReady.nil
        go_simp
        refine hK _ _ ?_
        clear hK K
        try simp only [Act.put, List.setIfInBounds_toArray, List.set_cons_zero, List.set_cons_succ]
        refine wpAny_done (by decide +kernel) ?_ _
        go_wp2_with fail
        go_roundw
        case rel => exact ⟨j + 1, _, _, _, by omega, by go_num, HPn.out⟩
        case measure => simp [intOf]; omega
      · refine step_ldAgg rfl (.tmp 5) aggDer rfl (by simp [Act.eval]) HRL.out H3d.out ?_
        refine hK _ _ ?_
        clear hK K
        try simp only [Act.put, List.setIfInBounds_toArray, List.set_cons_zero, List.set_cons_succ]
        refine wpAny_ready (rs := [1, 3]) (by decide +kernel) (by simp) ?_
        refine AllReady.cons (o := { dst := some 23, op := .load 48 (.tmp 22), type := _, pos := _, after := _, guard := none }) rfl (fun K hK => ?_) (AllReady.cons (o := { dst := some 25, op := .call { callee := .value (.func 29), args := #[.tmp 24], argTypes := #[47] }, type := _, pos := _, after := _, guard := none }) rfl (fun K hK => ?_) AllReady.nil)
        · go_simp
          refine hK _ _ ?_
          clear hK K
          try simp only [Act.put, List.setIfInBounds_toArray, List.set_cons_zero, List.set_cons_succ]
          refine wpAny_ready (rs := [3]) (by decide +kernel) (by simp) ?_
          refine AllReady.cons (o := { dst := some 25, op := .call { callee := .value (.func 29), args := #[.tmp 24], argTypes := #[47] }, type := _, pos := _, after := _, guard := none }) rfl (fun K hK => ?_) AllReady.nil
          go_simp
          refine HCALL.out.mono ?_
          rintro e w5 ⟨cs5, rfl, htv5, hb5⟩
          have hz5 := hb5.size
          have HB5 : Hid (Below wr.heap.size wr w5) := Lib.hid (HB3.out.trans (hb5.mono HB3.out.size))
          have hq5 := HP.out.q.below HB5.out (by omega)
          have y5 : w5.cell? ⟨r + 2, 4, none⟩ = some lv := by rw [hq5.cell]; rfl
          have y5c : (w5.alloc (.cells cs5.toArray 50)).cell? ⟨r + 2, 4, none⟩ = some lv := by rw [(hq5.alloc (.cells cs5.toArray 50)).cell]; rfl
          have HCL5 : Hid (cs5.length = 5) := Lib.hid htv5.length
          have HC51 := Lib.hid htv5.one
          have HTV5 := Lib.hid htv5
          have hz35 : w3.heap.size ≤ w5.heap.size := by have := HZD.out; omega
          have HO5 : Hid (Own (w5.alloc (.cells cs5.toArray 50)) (r + 3) 50 5 lv j rows) := Lib.hid ((HP.out.own.below HB5.out).alloc _)
          have HV5 : Hid (∀ b, lv.ownBlock = some b → b < (w5.alloc (.cells cs5.toArray 50)).heap.size) := Lib.hid (fun b hb => by have := (HP.out.v b hb).2; simp; omega)
          clear htv5 hb5 hq5 HCALL y4
          refine hK _ _ ?_
          clear hK K
          try simp only [Act.put, List.setIfInBounds_toArray, List.set_cons_zero, List.set_cons_succ]
          refine wpAny_ready (rs := [4]) (by decide +kernel) (by simp) ?_
          refine AllReady.cons (o := { dst := some 26, op := .buildSlice 48 1 #[(0, .tmp 25)], type := _, pos := _, after := _, guard := none }) rfl (fun K hK => ?_) AllReady.nil
          refine step_bs1 rfl (.tmp 25) elRef rfl (X := cs5.toArray) (by simp [Act.eval]) (by have := HCL5.out; simpa using this) (by decide) ?_
          refine hK _ _ ?_
          clear hK K
          try simp only [Act.put, List.setIfInBounds_toArray, List.set_cons_zero, List.set_cons_succ]
          refine wpAny_ready (rs := [5]) (by decide +kernel) (by simp) ?_
          refine AllReady.cons (o := { dst := some 27, op := .call { callee := .builtin .append, args := #[.tmp 23, .tmp 26], argTypes := #[48, 48] }, type := _, pos := _, after := _, guard := none }) rfl (fun K hK => ?_) AllReady.nil
          refine step_app2 rfl (.tmp 23) (.tmp 26) elRef rfl (r + 3) (v := lv) (by simp [Act.eval]) HO5.out HV5.out (u := .slice (some ⟨w5.heap.size, 0, none⟩) 1 1) (by simp [Act.eval]) (Sl.lit (n := 1) rfl (by simpa using HCL5.out) HC51.out (by unfold maxLen; decide)) (by unfold maxLen; omega) (by omega) (by simp; omega) ?_
          intro v7 w7 ho7 hk7 hv7
          have hz7 := hk7.size
          simp at hz7
          obtain ⟨a7, c7, hv7f, _⟩ := ho7.sl.form
          subst hv7f
          have k57 : Keeps (fun b => lv.ownBlock = some b ∨ w5.heap.size ≤ b) w5 w7 := by
            refine ((Keeps.refl _ _).alloc _ (.inr (Nat.le_refl _))).trans (hk7.mono (fun b hb => ?_))
            rcases hb with hb | hb
            · exact .inl hb.1
            · try simp at hb
              exact .inr (by omega)
          have ka : Keeps (fun b => lv.ownBlock = some b ∨ wr.heap.size ≤ b) wr w7 := ((Keeps.of_below HB5.out).mono (fun b hb => .inr hb)).trans (k57.mono (fun b hb => by
            rcases hb with hb | hb
            · exact .inl hb
            · exact .inr (by omega)))
          have hvr : ∀ b, b < r + 3 → ¬ (lv.ownBlock = some b ∨ wr.heap.size ≤ b) := by
            rintro b hb (h | h)
            · have := (HP.out.v b h).1; omega
            · omega
          have hq7 := HP.out.q.keep ka (hvr _ (by omega))
          have hr7 := HP.out.z.keep ka (hvr _ (by omega))
          have q7 : w7.cell? ⟨r + 2, 4, none⟩ = some lv := by rw [hq7.cell]; rfl
          have qf7 := hq7.frozen 4
          have hb7 : Below r w w7 := HP.out.below.trans (ka.below (by
            rintro b (h | h)
            · have := (HP.out.v b h).1; omega
            · omega))
          have htvs7 : TvsF w7 (fun y => G y ∨ (F y ∧ y < r) ∨ (wr.heap.size ≤ y ∧ y < w5.heap.size)) (l.take (j + 1)) (rows ++ cs5) := by
            refine TvsF.take_snoc hlt ((HP.out.tvs.keep ka (fun y hy hl h => ?_)).mono (fun y hy => .inl hy)) ?_
            · rcases HP.out.g y hy with hg | ⟨hg1, hg2, hg3⟩
              · rcases h with h | h
                · have := (HP.out.v y h).1; omega
                · omega
              · rcases h with h | h
                · exact hg3 h
                · omega
            · rw [← HY.out]
              refine (HTV5.out.keep k57 (fun y hy hl h => ?_)).mono (fun y hy => ?_)
              · have hz := HZD.out
                rcases hy with hy | hy
                · rcases h with h | h
                  · have := (HP.out.v y h).1; omega
                  · omega
                · rcases h with h | h
                  · have := (HP.out.v y h).2; omega
                  · omega
              · have hz := HZD.out
                rcases hy with hy | hy
                · exact .inr (.inl ⟨hy.1.1, by omega⟩)
                · exact .inr (.inr ⟨by omega, by omega⟩)
          have hv8 : ∀ b, (Value.slice a7 (j + 1) c7).ownBlock = some b → r + 3 ≤ b ∧ b < w7.heap.size := fun b hb => by
            refine ⟨?_, (hv7 b hb).2⟩
            rcases (hv7 b hb).1 with h | h
            · exact (HP.out.v b h).1
            · try simp at h
              omega
          have HPn : Hid (PL w F r k t n (.slice ab b.length cb) l (w7.setCell ⟨r + 2, 4, none⟩ (.slice a7 (j + 1) c7)) (j + 1) (.slice a7 (j + 1) c7) (rows ++ cs5) (fun y => G y ∨ (F y ∧ y < r) ∨ (wr.heap.size ≤ y ∧ y < w5.heap.size))) := Lib.hid (by
            have ks : Keeps (fun b => b = r + 2) w7 (w7.setCell ⟨r + 2, 4, none⟩ (.slice a7 (j + 1) c7)) := Keeps.one _ _ _ _
            have hsz : (w7.setCell ⟨r + 2, 4, none⟩ (.slice a7 (j + 1) c7)).heap.size = w7.heap.size := by simp [World.setCell]
            refine ⟨hq7.set 4 _, hr7.keep ks (by omega), ho7.keep ks (fun b hb e => by have := (hv8 b hb).1; omega), htvs7.keep ks (fun y hy _ e => ?_), fun y hy => ?_, by rw [hsz]; exact hv8, hb7.trans (ks.below (by omega)), by rw [hsz]; omega⟩
            · rcases hy with hy | hy | hy
              · rcases HP.out.g y hy with hg | hg <;> omega
              · omega
              · omega
            · rw [hsz]
              rcases hy with hy | hy | hy
              · rcases HP.out.g y hy with hg | ⟨hg1, hg2, hg3⟩
                · exact .inl hg
                · refine .inr ⟨hg1, by omega, fun e => ?_⟩
                  rcases (hv7 y e).1 with h | h
                  · exact hg3 h
                  · try simp at h
                    omega
              · exact .inl hy
              · refine .inr ⟨by omega, by omega, fun e => ?_⟩
                rcases (hv7 y e).1 with h | h
                · have := (HP.out.v y h).2; omega
                · try simp at h
                  omega)
          clear ho7 hk7 hv7 k57 ka hvr hq7 hr7 hb7 htvs7 hv8 HTV5 HB5 HO5 HV5 HCL5 HC51 y5 y5c
          refine hK _ _ ?_
          clear hK K
          try simp only [Act.put, List.setIfInBounds_toArray, List.set_cons_zero, List.set_cons_succ]
          refine wpAny_take (i := 6) (oi := { dst := some 28, op := _, type := _, pos := _, after := _, guard := none }) (v := .pointer (some ⟨r + 2, 4, none⟩)) rfl (by kernel_rfl) (by kernel_rfl) (by kernel_rfl) (fun _ _ _ h => h) (Or.inl ⟨by rfl, by intro w; go_simp⟩) ?_
          simp only [Act.put, List.setIfInBounds_toArray, List.set_cons_zero, List.set_cons_succ]
          refine wpAny_ready (rs := [7]) (by decide +kernel) (by simp) ?_
          refine AllReady.cons (o := { dst := none, op := .store 48 (.tmp 28) (.tmp 27), type := _, pos := _, after := _, guard := none }) rfl (fun K hK => ?_) AllReady.nil
          go_simp
          refine hK _ _ ?_
          clear hK K
          try simp only [Act.put, List.setIfInBounds_toArray, List.set_cons_zero, List.set_cons_succ]
          refine wpAny_done (by decide +kernel) ?_ _
          go_wp2_with fail
          go_roundw
          case rel => exact ⟨j + 1, _, _, _, by omega, by go_num, HPn.out⟩
          case measure => simp [intOf]; omega
        · go_simp
          refine HCALL.out.mono ?_
          rintro e w5 ⟨cs5, rfl, htv5, hb5⟩
          have hz5 := hb5.size
          have HB5 : Hid (Below wr.heap.size wr w5) := Lib.hid (HB3.out.trans (hb5.mono HB3.out.size))
          have hq5 := HP.out.q.below HB5.out (by omega)
          have y5 : w5.cell? ⟨r + 2, 4, none⟩ = some lv := by rw [hq5.cell]; rfl
          have y5c : (w5.alloc (.cells cs5.toArray 50)).cell? ⟨r + 2, 4, none⟩ = some lv := by rw [(hq5.alloc (.cells cs5.toArray 50)).cell]; rfl
          have HCL5 : Hid (cs5.length = 5) := Lib.hid htv5.length
          have HC51 := Lib.hid htv5.one
          have HTV5 := Lib.hid htv5
          have hz35 : w3.heap.size ≤ w5.heap.size := by have := HZD.out; omega
          have HO5 : Hid (Own (w5.alloc (.cells cs5.toArray 50)) (r + 3) 50 5 lv j rows) := Lib.hid ((HP.out.own.below HB5.out).alloc _)
          have HV5 : Hid (∀ b, lv.ownBlock = some b → b < (w5.alloc (.cells cs5.toArray 50)).heap.size) := Lib.hid (fun b hb => by have := (HP.out.v b hb).2; simp; omega)
          clear htv5 hb5 hq5 HCALL y4
          refine hK _ _ ?_
          clear hK K
          try simp only [Act.put, List.setIfInBounds_toArray, List.set_cons_zero, List.set_cons_succ]
          refine wpAny_ready (rs := [1, 4]) (by decide +kernel) (by simp) ?_
          refine AllReady.cons (o := { dst := some 23, op := .load 48 (.tmp 22), type := _, pos := _, after := _, guard := none }) rfl (fun K hK => ?_) (AllReady.cons (o := { dst := some 26, op := .buildSlice 48 1 #[(0, .tmp 25)], type := _, pos := _, after := _, guard := none }) rfl (fun K hK => ?_) AllReady.nil)
          · go_simp
            refine hK _ _ ?_
            clear hK K
            try simp only [Act.put, List.setIfInBounds_toArray, List.set_cons_zero, List.set_cons_succ]
            refine wpAny_ready (rs := [4]) (by decide +kernel) (by simp) ?_
            refine AllReady.cons (o := { dst := some 26, op := .buildSlice 48 1 #[(0, .tmp 25)], type := _, pos := _, after := _, guard := none }) rfl (fun K hK => ?_) AllReady.nil
            refine step_bs1 rfl (.tmp 25) elRef rfl (X := cs5.toArray) (by simp [Act.eval]) (by have := HCL5.out; simpa using this) (by decide) ?_
            refine hK _ _ ?_
            clear hK K
            try simp only [Act.put, List.setIfInBounds_toArray, List.set_cons_zero, List.set_cons_succ]
            refine wpAny_ready (rs := [5]) (by decide +kernel) (by simp) ?_
            refine AllReady.cons (o := { dst := some 27, op := .call { callee := .builtin .append, args := #[.tmp 23, .tmp 26], argTypes := #[48, 48] }, type := _, pos := _, after := _, guard := none }) rfl (fun K hK => ?_) AllReady.nil
            refine step_app2 rfl (.tmp 23) (.tmp 26) elRef rfl (r + 3) (v := lv) (by simp [Act.eval]) HO5.out HV5.out (u := .slice (some ⟨w5.heap.size, 0, none⟩) 1 1) (by simp [Act.eval]) (Sl.lit (n := 1) rfl (by simpa using HCL5.out) HC51.out (by unfold maxLen; decide)) (by unfold maxLen; omega) (by omega) (by simp; omega) ?_
            intro v7 w7 ho7 hk7 hv7
            have hz7 := hk7.size
            simp at hz7
            obtain ⟨a7, c7, hv7f, _⟩ := ho7.sl.form
            subst hv7f
            have k57 : Keeps (fun b => lv.ownBlock = some b ∨ w5.heap.size ≤ b) w5 w7 := by
              refine ((Keeps.refl _ _).alloc _ (.inr (Nat.le_refl _))).trans (hk7.mono (fun b hb => ?_))
              rcases hb with hb | hb
              · exact .inl hb.1
              · try simp at hb
                exact .inr (by omega)
            have ka : Keeps (fun b => lv.ownBlock = some b ∨ wr.heap.size ≤ b) wr w7 := ((Keeps.of_below HB5.out).mono (fun b hb => .inr hb)).trans (k57.mono (fun b hb => by
              rcases hb with hb | hb
              · exact .inl hb
              · exact .inr (by omega)))
            have hvr : ∀ b, b < r + 3 → ¬ (lv.ownBlock = some b ∨ wr.heap.size ≤ b) := by
              rintro b hb (h | h)
              · have := (HP.out.v b h).1; omega
              · omega
            have hq7 := HP.out.q.keep ka (hvr _ (by omega))
            have hr7 := HP.out.z.keep ka (hvr _ (by omega))
            have q7 : w7.cell? ⟨r + 2, 4, none⟩ = some lv := by rw [hq7.cell]; rfl
            have qf7 := hq7.frozen 4
            have hb7 : Below r w w7 := HP.out.below.trans (ka.below (by
              rintro b (h | h)
              · have := (HP.out.v b h).1; omega
              · omega))
            have htvs7 : TvsF w7 (fun y => G y ∨ (F y ∧ y < r) ∨ (wr.heap.size ≤ y ∧ y < w5.heap.size)) (l.take (j + 1)) (rows ++ cs5) := by
              refine TvsF.take_snoc hlt ((HP.out.tvs.keep ka (fun y hy hl h => ?_)).mono (fun y hy => .inl hy)) ?_
              · rcases HP.out.g y hy with hg | ⟨hg1, hg2, hg3⟩
                · rcases h with h | h
                  · have := (HP.out.v y h).1; omega
                  · omega
                · rcases h with h | h
                  · exact hg3 h
                  · omega
              · rw [← HY.out]
                refine (HTV5.out.keep k57 (fun y hy hl h => ?_)).mono (fun y hy => ?_)
                · have hz := HZD.out
                  rcases hy with hy | hy
                  · rcases h with h | h
                    · have := (HP.out.v y h).1; omega
                    · omega
                  · rcases h with h | h
                    · have := (HP.out.v y h).2; omega
                    · omega
                · have hz := HZD.out
                  rcases hy with hy | hy
                  · exact .inr (.inl ⟨hy.1.1, by omega⟩)
                  · exact .inr (.inr ⟨by omega, by omega⟩)
            have hv8 : ∀ b, (Value.slice a7 (j + 1) c7).ownBlock = some b → r + 3 ≤ b ∧ b < w7.heap.size := fun b hb => by
              refine ⟨?_, (hv7 b hb).2⟩
              rcases (hv7 b hb).1 with h | h
              · exact (HP.out.v b h).1
              · try simp at h
                omega
            have HPn : Hid (PL w F r k t n (.slice ab b.length cb) l (w7.setCell ⟨r + 2, 4, none⟩ (.slice a7 (j + 1) c7)) (j + 1) (.slice a7 (j + 1) c7) (rows ++ cs5) (fun y => G y ∨ (F y ∧ y < r) ∨ (wr.heap.size ≤ y ∧ y < w5.heap.size))) := Lib.hid (by
              have ks : Keeps (fun b => b = r + 2) w7 (w7.setCell ⟨r + 2, 4, none⟩ (.slice a7 (j + 1) c7)) := Keeps.one _ _ _ _
              have hsz : (w7.setCell ⟨r + 2, 4, none⟩ (.slice a7 (j + 1) c7)).heap.size = w7.heap.size := by simp [World.setCell]
              refine ⟨hq7.set 4 _, hr7.keep ks (by omega), ho7.keep ks (fun b hb e => by have := (hv8 b hb).1; omega), htvs7.keep ks (fun y hy _ e => ?_), fun y hy => ?_, by rw [hsz]; exact hv8, hb7.trans (ks.below (by omega)), by rw [hsz]; omega⟩
              · rcases hy with hy | hy | hy
                · rcases HP.out.g y hy with hg | hg <;> omega
                · omega
                · omega
              · rw [hsz]
                rcases hy with hy | hy | hy
                · rcases HP.out.g y hy with hg | ⟨hg1, hg2, hg3⟩
                  · exact .inl hg
                  · refine .inr ⟨hg1, by omega, fun e => ?_⟩
                    rcases (hv7 y e).1 with h | h
                    · exact hg3 h
                    · try simp at h
                      omega
                · exact .inl hy
                · refine .inr ⟨by omega, by omega, fun e => ?_⟩
                  rcases (hv7 y e).1 with h | h
                  · have := (HP.out.v y h).2; omega
                  · try simp at h
                    omega)
            clear ho7 hk7 hv7 k57 ka hvr hq7 hr7 hb7 htvs7 hv8 HTV5 HB5 HO5 HV5 HCL5 HC51 y5 y5c
            refine hK _ _ ?_
            clear hK K
            try simp only [Act.put, List.setIfInBounds_toArray, List.set_cons_zero, List.set_cons_succ]
            refine wpAny_take (i := 6) (oi := { dst := some 28, op := _, type := _, pos := _, after := _, guard := none }) (v := .pointer (some ⟨r + 2, 4, none⟩)) rfl (by kernel_rfl) (by kernel_rfl) (by kernel_rfl) (fun _ _ _ h => h) (Or.inl ⟨by rfl, by intro w; go_simp⟩) ?_
            simp only [Act.put, List.setIfInBounds_toArray, List.set_cons_zero, List.set_cons_succ]
            refine wpAny_ready (rs := [7]) (by decide +kernel) (by simp) ?_
            refine AllReady.cons (o := { dst := none, op := .store 48 (.tmp 28) (.tmp 27), type := _, pos := _, after := _, guard := none }) rfl (fun K hK => ?_) AllReady.nil
            go_simp
            refine hK _ _ ?_
            clear hK K
            try simp only [Act.put, List.setIfInBounds_toArray, List.set_cons_zero, List.set_cons_succ]
            refine wpAny_done (by decide +kernel) ?_ _
            go_wp2_with fail
            go_roundw
            case rel => exact ⟨j + 1, _, _, _, by omega, by go_num, HPn.out⟩
            case measure => simp [intOf]; omega
          · refine step_bs1 rfl (.tmp 25) elRef rfl (X := cs5.toArray) (by simp [Act.eval]) (by have := HCL5.out; simpa using this) (by decide) ?_
            refine hK _ _ ?_
            clear hK K
            try simp only [Act.put, List.setIfInBounds_toArray, List.set_cons_zero, List.set_cons_succ]
            refine wpAny_ready (rs := [1]) (by decide +kernel) (by simp) ?_
            refine AllReady.cons (o := { dst := some 23, op := .load 48 (.tmp 22), type := _, pos := _, after := _, guard := none }) rfl (fun K hK => ?_) AllReady.nil
            go_simp
            refine hK _ _ ?_
            clear hK K
            try simp only [Act.put, List.setIfInBounds_toArray, List.set_cons_zero, List.set_cons_succ]
            refine wpAny_ready (rs := [5]) (by decide +kernel) (by simp) ?_
            refine AllReady.cons (o := { dst := some 27, op := .call { callee := .builtin .append, args := #[.tmp 23, .tmp 26], argTypes := #[48, 48] }, type := _, pos := _, after := _, guard := none }) rfl (fun K hK => ?_) AllReady.nil
            refine step_app2 rfl (.tmp 23) (.tmp 26) elRef rfl (r + 3) (v := lv) (by simp [Act.eval]) HO5.out HV5.out (u := .slice (some ⟨w5.heap.size, 0, none⟩) 1 1) (by simp [Act.eval]) (Sl.lit (n := 1) rfl (by simpa using HCL5.out) HC51.out (by unfold maxLen; decide)) (by unfold maxLen; omega) (by omega) (by simp; omega) ?_
            intro v7 w7 ho7 hk7 hv7
            have hz7 := hk7.size
            simp at hz7
            obtain ⟨a7, c7, hv7f, _⟩ := ho7.sl.form
            subst hv7f
            have k57 : Keeps (fun b => lv.ownBlock = some b ∨ w5.heap.size ≤ b) w5 w7 := by
              refine ((Keeps.refl _ _).alloc _ (.inr (Nat.le_refl _))).trans (hk7.mono (fun b hb => ?_))
              rcases hb with hb | hb
              · exact .inl hb.1
              · try simp at hb
                exact .inr (by omega)
            have ka : Keeps (fun b => lv.ownBlock = some b ∨ wr.heap.size ≤ b) wr w7 := ((Keeps.of_below HB5.out).mono (fun b hb => .inr hb)).trans (k57.mono (fun b hb => by
              rcases hb with hb | hb
              · exact .inl hb
              · exact .inr (by omega)))
            have hvr : ∀ b, b < r + 3 → ¬ (lv.ownBlock = some b ∨ wr.heap.size ≤ b) := by
              rintro b hb (h | h)
              · have := (HP.out.v b h).1; omega
              · omega
            have hq7 := HP.out.q.keep ka (hvr _ (by omega))
            have hr7 := HP.out.z.keep ka (hvr _ (by omega))
            have q7 : w7.cell? ⟨r + 2, 4, none⟩ = some lv := by rw [hq7.cell]; rfl
            have qf7 := hq7.frozen 4
            have hb7 : Below r w w7 := HP.out.below.trans (ka.below (by
              rintro b (h | h)
              · have := (HP.out.v b h).1; omega
              · omega))
            have htvs7 : TvsF w7 (fun y => G y ∨ (F y ∧ y < r) ∨ (wr.heap.size ≤ y ∧ y < w5.heap.size)) (l.take (j + 1)) (rows ++ cs5) := by
              refine TvsF.take_snoc hlt ((HP.out.tvs.keep ka (fun y hy hl h => ?_)).mono (fun y hy => .inl hy)) ?_
              · rcases HP.out.g y hy with hg | ⟨hg1, hg2, hg3⟩
                · rcases h with h | h
                  · have := (HP.out.v y h).1; omega
                  · omega
                · rcases h with h | h
                  · exact hg3 h
                  · omega
              · rw [← HY.out]
                refine (HTV5.out.keep k57 (fun y hy hl h => ?_)).mono (fun y hy => ?_)
                · have hz := HZD.out
                  rcases hy with hy | hy
                  · rcases h with h | h
                    · have := (HP.out.v y h).1; omega
                    · omega
                  · rcases h with h | h
                    · have := (HP.out.v y h).2; omega
                    · omega
                · have hz := HZD.out
                  rcases hy with hy | hy
                  · exact .inr (.inl ⟨hy.1.1, by omega⟩)
                  · exact .inr (.inr ⟨by omega, by omega⟩)
            have hv8 : ∀ b, (Value.slice a7 (j + 1) c7).ownBlock = some b → r + 3 ≤ b ∧ b < w7.heap.size := fun b hb => by
              refine ⟨?_, (hv7 b hb).2⟩
              rcases (hv7 b hb).1 with h | h
              · exact (HP.out.v b h).1
              · try simp at h
                omega
            have HPn : Hid (PL w F r k t n (.slice ab b.length cb) l (w7.setCell ⟨r + 2, 4, none⟩ (.slice a7 (j + 1) c7)) (j + 1) (.slice a7 (j + 1) c7) (rows ++ cs5) (fun y => G y ∨ (F y ∧ y < r) ∨ (wr.heap.size ≤ y ∧ y < w5.heap.size))) := Lib.hid (by
              have ks : Keeps (fun b => b = r + 2) w7 (w7.setCell ⟨r + 2, 4, none⟩ (.slice a7 (j + 1) c7)) := Keeps.one _ _ _ _
              have hsz : (w7.setCell ⟨r + 2, 4, none⟩ (.slice a7 (j + 1) c7)).heap.size = w7.heap.size := by simp [World.setCell]
              refine ⟨hq7.set 4 _, hr7.keep ks (by omega), ho7.keep ks (fun b hb e => by have := (hv8 b hb).1; omega), htvs7.keep ks (fun y hy _ e => ?_), fun y hy => ?_, by rw [hsz]; exact hv8, hb7.trans (ks.below (by omega)), by rw [hsz]; omega⟩
              · rcases hy with hy | hy | hy
                · rcases HP.out.g y hy with hg | hg <;> omega
                · omega
                · omega
              · rw [hsz]
                rcases hy with hy | hy | hy
                · rcases HP.out.g y hy with hg | ⟨hg1, hg2, hg3⟩
                  · exact .inl hg
                  · refine .inr ⟨hg1, by omega, fun e => ?_⟩
                    rcases (hv7 y e).1 with h | h
                    · exact hg3 h
                    · try simp at h
                      omega
                · exact .inl hy
                · refine .inr ⟨by omega, by omega, fun e => ?_⟩
                  rcases (hv7 y e).1 with h | h
                  · have := (HP.out.v y h).2; omega
                  · try simp at h
                    omega)
            clear ho7 hk7 hv7 k57 ka hvr hq7 hr7 hb7 htvs7 hv8 HTV5 HB5 HO5 HV5 HCL5 HC51 y5 y5c
            refine hK _ _ ?_
            clear hK K
            try simp only [Act.put, List.setIfInBounds_toArray, List.set_cons_zero, List.set_cons_succ]
            refine wpAny_take (i := 6) (oi := { dst := some 28, op := _, type := _, pos := _, after := _, guard := none }) (v := .pointer (some ⟨r + 2, 4, none⟩)) rfl (by kernel_rfl) (by kernel_rfl) (by kernel_rfl) (fun _ _ _ h => h) (Or.inl ⟨by rfl, by intro w; go_simp⟩) ?_
            simp only [Act.put, List.setIfInBounds_toArray, List.set_cons_zero, List.set_cons_succ]
            refine wpAny_ready (rs := [7]) (by decide +kernel) (by simp) ?_
            refine AllReady.cons (o := { dst := none, op := .store 48 (.tmp 28) (.tmp 27), type := _, pos := _, after := _, guard := none }) rfl (fun K hK => ?_) AllReady.nil
            go_simp
            refine hK _ _ ?_
            clear hK K
            try simp only [Act.put, List.setIfInBounds_toArray, List.set_cons_zero, List.set_cons_succ]
            refine wpAny_done (by decide +kernel) ?_ _
            go_wp2_with fail
            go_roundw
            case rel => exact ⟨j + 1, _, _, _, by omega, by go_num, HPn.out⟩
            case measure => simp [intOf]; omega
    · obtain rfl : j = l.length := by omega
      have hq := hp.q
      have HQ := Lib.hid hq
      have HZ := Lib.hid hp.z
      obtain ⟨a9, c9, hv9, _⟩ := hp.own.sl.form
      subst hv9
      have HTV : Hid (TvF wr (fun y => (F y ∧ y < r) ∨ (r + 3 ≤ y ∧ y < wr.heap.size)) (.mk k t n b l) [.int .i64 k, .int .i64 t, .int .u64 n, .slice ab b.length cb, .slice a9 l.length c9]) := Lib.hid (by
        refine ⟨_, _, _, rfl, HBS.out.below (hp.below.mono hdr), fun hp2 y hy => ?_, hp.own.sl, fun _ y hy => .inr (hp.v y hy), ?_⟩
        · have := HBF.out hp2 y hy
          exact .inl ⟨this.1, by omega⟩
        · have := hp.tvs
          rw [List.take_length] at this
          exact this.mono (fun y hy => by
            rcases hp.g y hy with hg | hg
            · exact .inl hg
            · exact .inr ⟨hg.1, hg.2.1⟩))
      have HBw : Hid (Below w.heap.size w wr) := Lib.hid (hp.below.mono hdr)
      clear hq hp
      go_wp2_with (first | ((with_reducible show wpList _ _ _ (⟨some 30, _, _, _, _, _⟩ :: _) _ _); refine wpList_ldAgg rfl (.tmp 3) aggRef rfl rfl (cs := [.int .i64 k, .int .i64 t, .int .u64 n, .slice ab b.length cb, .slice a9 l.length c9]) rfl HQ.out.cellsAll ?_) | ((with_reducible show wpList _ _ _ (⟨none, .store _ (.tmp 2) (.tmp 30), _, _, _, _⟩ :: _) _ _); refine wpList_stAgg rfl (.tmp 2) (.tmp 30) aggRef rfl rfl (vs := [.int .i64 k, .int .i64 t, .int .u64 n, .slice ab b.length cb, .slice a9 l.length c9]) rfl rfl HZ.out (Nat.le_refl _) HTV.out.one ?_))
      intro w2 h2 k2
      have h2' : Blk w2 (r + 1) [.int .i64 k, .int .i64 t, .int .u64 n, .slice ab b.length cb, .slice a9 l.length c9] 50 := by simpa [zs5] using h2
      have H2 := Lib.hid h2'
      have hz9 := k2.size
      have HB2 : Hid (Below w.heap.size w w2) := Lib.hid (HBw.out.trans (k2.below (by omega)))
      have HT2 : Hid (TvF w2 (fun y => (F y ∧ y < w.heap.size) ∨ (w.heap.size ≤ y ∧ y < w2.heap.size)) (.mk k t n b l) [.int .i64 k, .int .i64 t, .int .u64 n, .slice ab b.length cb, .slice a9 l.length c9]) := Lib.hid ((HTV.out.keep k2 (fun y hy _ e => by omega)).mono (fun y hy => by
        rcases hy with hy | hy
        · exact .inl ⟨hy.1, by omega⟩
        · exact .inr ⟨by omega, by omega⟩))
      clear h2 h2' k2
      go_wp2_with fail
      exact bodyPost_ret (results_agg rfl aggRef rfl (cs := [.int .i64 k, .int .i64 t, .int .u64 n, .slice ab b.length cb, .slice a9 l.length c9]) rfl H2.out.cellsAll) rfl ⟨_, rfl, HT2.out, HB2.out⟩
end Go.Proofs.Ytdmjliehobgknaa
