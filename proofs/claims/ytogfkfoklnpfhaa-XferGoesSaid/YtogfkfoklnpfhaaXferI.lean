/- Contract: a file that comes: has all come? (Printed by wip/tools/genxferi.py.) -/
import Derived.Test.YtogfkfoklnpfhaaXferR
namespace Go.Proofs.Ytogfkfoklnpfhaa
set_option linter.unusedSimpArgs false
set_option linter.unusedVariables false
open Go.RowKit

/-- The table as a provider. -/
def provV (q : Nat) : Value := .iface 28 (.pointer (some ⟨q, 0, none⟩))
theorem dig_nil (k : Nat) (a : Addr) (w : World) : (nilAhead (k + 1) 28 (.pointer (some a)) "Digest").run Try.prog w = .ok (some false) w := by kernel_rfl
theorem dig_method (k : Nat) (a : Addr) (w : World) : (method (k + 1) 28 (.pointer (some a)) "Digest").run Try.prog w = .ok (10, .pointer (some a)) w := by kernel_rfl

def WholeRes (p q : Nat) (kv bv mp : Value) (r : List (List UInt8) × InF × Int) (l : List Res) (e : Ending) (w' : World) : Prop :=
  e = .returned (.int .i64 r.2.2) ∧ Hold w' (inR p r.2.1 :: tabR q kv bv mp r.1 :: l)

set_option maxRecDepth 100000 in
set_option maxHeartbeats 4000000 in
theorem whole_any (p q : Nat) (kv bv mp : Value) (sums : List (List UInt8)) (i : InF) (l : List Res) (w : World) (h : Hold w (inR p i :: tabR q kv bv mp sums :: l)) (hd : i.data.length ≤ 2048) (hs : i.sum.length ≤ 1099511627776) (hn : sums.length < 1099511627776) (hz0 : 0 ≤ i.size) (hz1 : i.size ≤ 2048) :
    Calls Try.prog 35 #[.pointer (some ⟨p, 0, none⟩), .iface 28 (.pointer (some ⟨q, 0, none⟩))] w (WholeRes p q kv bv mp (inWhole sums i) l) := by
  have HC0 := Lib.hid h
  obtain ⟨st, size, sum, data⟩ := i
  obtain ⟨a, c, b, d, k1, k2, k3, k4, h⟩ := inR_open h
  simp only at k1 k3 h hd hs hz0 hz1
  have hblk := h.blkOf (p := p) (cs := [.int .i64 st, .int .i64 size, .slice a sum.length c, .slice b data.length d]) (T := 45) (by simp)
  have c1 := hblk.cell 1
  have c3 := hblk.cell 3
  simp only [List.getElem?_cons_succ, List.getElem?_cons_zero] at c1 c3
  have hp := hblk.lt
  have HC := Lib.hid h
  unfold maxLen at k2 k4
  clear h hblk
  by_cases hlt : (data.length : Int) < size
  · have HE : Hid (inWhole sums ⟨st, size, sum, data⟩ = (sums, ⟨st, size, sum, data⟩, 0)) := Lib.hid (by unfold inWhole; rw [if_pos hlt])
    go_enter Try.func35, Try.ntmps35
    go_wp2_with fail
    go_quiet (fail)
    go_wp2_with fail
    go_ret
    rw [HE.out]
    exact ⟨rfl, HC0.out.drewN _⟩
  · have HNL := Lib.hid hlt
    have hge : size ≤ (data.length : Int) := by omega
    clear hlt
    go_enter Try.func35, Try.ntmps35
    go_wp2_with fail
    go_quiet (fail)
    go_wp2_with fail
    have HC := Lib.hid (HC.out.drewN nq).drew
    generalize w.drewN nq = W at HC ⊢
    obtain ⟨bq, hbq⟩ : ∃ bq, decide (digM sums data = sum) = bq := ⟨_, rfl⟩
    have HBQ := Lib.hid hbq
    clear hbq
    clear c1 c3 hp
    refine wp_region_any (by kernel_rfl) ?_
    change wpAny _ _ _ _ _ _ _ (World.drew _)
    refine wpAny_take (i := 0) (oi := { dst := some 15, op := _, type := _, pos := _, after := _, guard := none }) (v := .iface 28 (.pointer (some ⟨q, 0, none⟩))) rfl (by kernel_rfl) (by kernel_rfl) (by kernel_rfl) (fun _ _ _ h => h) (Or.inl ⟨by rfl, by intro w; go_simp⟩) ?_
    simp only [Act.put, List.setIfInBounds_toArray, List.set_cons_zero, List.set_cons_succ]
    refine wpAny_take (i := 1) (oi := { dst := some 16, op := _, type := _, pos := _, after := _, guard := none }) (v := .pointer (some ⟨p, 0, none⟩)) rfl (by kernel_rfl) (by kernel_rfl) (by kernel_rfl) (fun _ _ _ h => h) (Or.inl ⟨by rfl, by intro w; go_simp⟩) ?_
    simp only [Act.put, List.setIfInBounds_toArray, List.set_cons_zero, List.set_cons_succ]
    refine wpAny_take (i := 2) (oi := { dst := some 17, op := _, type := _, pos := _, after := _, guard := none }) (v := .pointer (some ⟨p, 0, none⟩)) rfl (by kernel_rfl) (by kernel_rfl) (by kernel_rfl) (fun _ _ _ h => h) (Or.inl ⟨by rfl, by intro w; go_simp⟩) ?_
    simp only [Act.put, List.setIfInBounds_toArray, List.set_cons_zero, List.set_cons_succ]
    refine wpAny_take (i := 3) (oi := { dst := some 18, op := _, type := _, pos := _, after := _, guard := none }) (v := .pointer (some ⟨p, 3, none⟩)) rfl (by kernel_rfl) (by kernel_rfl) (by kernel_rfl) (fun _ _ _ h => h) (Or.inl ⟨by rfl, by intro w; go_simp⟩) ?_
    simp only [Act.put, List.setIfInBounds_toArray, List.set_cons_zero, List.set_cons_succ]
    refine wpAny_take (i := 5) (oi := { dst := some 20, op := _, type := _, pos := _, after := _, guard := none }) (v := .func (.method "Digest") #[.iface 28 (.pointer (some ⟨q, 0, none⟩))] #[]) rfl (by kernel_rfl) (by kernel_rfl) (by kernel_rfl) (fun _ _ _ h => h) (Or.inl ⟨by rfl, by intro w; go_simp⟩) ?_
    simp only [Act.put, List.setIfInBounds_toArray, List.set_cons_zero, List.set_cons_succ]
    refine wpAny_take (i := 6) (oi := { dst := some 21, op := _, type := _, pos := _, after := _, guard := none }) (v := .func (.method "Digest") #[.iface 28 (.pointer (some ⟨q, 0, none⟩))] #[]) rfl (by kernel_rfl) (by kernel_rfl) (by kernel_rfl) (fun _ _ _ h => h) (Or.inl ⟨by rfl, by intro w; go_simp; simp [dig_nil]⟩) ?_
    simp only [Act.put, List.setIfInBounds_toArray, List.set_cons_zero, List.set_cons_succ]
    refine wpAny_take (i := 7) (oi := { dst := some 22, op := _, type := _, pos := _, after := _, guard := none }) (v := .iface 28 (.pointer (some ⟨q, 0, none⟩))) rfl (by kernel_rfl) (by kernel_rfl) (by kernel_rfl) (fun _ _ _ h => h) (Or.inl ⟨by rfl, by intro w; go_simp⟩) ?_
    simp only [Act.put, List.setIfInBounds_toArray, List.set_cons_zero, List.set_cons_succ]
    refine wpAny_take (i := 9) (oi := { dst := some 24, op := _, type := _, pos := _, after := _, guard := none }) (v := .pointer (some ⟨p, 0, none⟩)) rfl (by kernel_rfl) (by kernel_rfl) (by kernel_rfl) (fun _ _ _ h => h) (Or.inl ⟨by rfl, by intro w; go_simp⟩) ?_
    simp only [Act.put, List.setIfInBounds_toArray, List.set_cons_zero, List.set_cons_succ]
    refine wpAny_take (i := 10) (oi := { dst := some 25, op := _, type := _, pos := _, after := _, guard := none }) (v := .pointer (some ⟨p, 0, none⟩)) rfl (by kernel_rfl) (by kernel_rfl) (by kernel_rfl) (fun _ _ _ h => h) (Or.inl ⟨by rfl, by intro w; go_simp⟩) ?_
    simp only [Act.put, List.setIfInBounds_toArray, List.set_cons_zero, List.set_cons_succ]
    refine wpAny_take (i := 11) (oi := { dst := some 26, op := _, type := _, pos := _, after := _, guard := none }) (v := .pointer (some ⟨p, 2, none⟩)) rfl (by kernel_rfl) (by kernel_rfl) (by kernel_rfl) (fun _ _ _ h => h) (Or.inl ⟨by rfl, by intro w; go_simp⟩) ?_
    simp only [Act.put, List.setIfInBounds_toArray, List.set_cons_zero, List.set_cons_succ]
    refine wpAny_ready (rs := [4, 12]) (by decide +kernel) (by simp) ?_
    refine AllReady.cons (o := { dst := some 19, op := .load 22 (.tmp 18), type := _, pos := _, after := _, guard := none }) rfl (fun K hK => ?_) (AllReady.cons (o := { dst := some 27, op := .load 22 (.tmp 26), type := _, pos := _, after := _, guard := none }) rfl (fun K hK => ?_) AllReady.nil)
    · have cc := (HC.out.blkOf (p := p) (cs := [.int .i64 st, .int .i64 size, .slice a sum.length c, .slice b data.length d]) (T := 45) (by simp)).cell 3
      simp only [List.getElem?_cons_succ, List.getElem?_cons_zero] at cc
      go_simp
      refine hK _ _ ?_
      clear hK K
      try simp only [Act.put, List.setIfInBounds_toArray, List.set_cons_zero, List.set_cons_succ]
      refine wpAny_ready (rs := [8, 12]) (by decide +kernel) (by simp) ?_
      refine AllReady.cons (o := { dst := some 23, op := .call { callee := .invoke (.tmp 22) "Digest", args := #[.tmp 19], argTypes := #[22] }, type := _, pos := _, after := _, guard := none }) rfl (fun K hK => ?_) (AllReady.cons (o := { dst := some 27, op := .load 22 (.tmp 26), type := _, pos := _, after := _, guard := none }) rfl (fun K hK => ?_) AllReady.nil)
      · have hbs : Bs _ (.slice b data.length d) data := (HC.out.ownBOf (v := .slice b data.length d) (b := data) (by simp)).1.bs
        have hdg := Lib.hid (digest_any q kv bv mp sums (.slice b data.length d) data _ _ HC.out.pull4 hbs (by omega) hn)
        clear hbs
        go_simp
        refine hdg.out.mono ?_
        rintro e w2 ⟨r, rfl, hc⟩
        have HC := Lib.hid (hc.front (m := [tabR q kv bv mp (digT sums data), .row (.slice (some ⟨r, 0, none⟩) 16 16) (digM sums data), .blk p [.int .i64 st, .int .i64 size, .slice a sum.length c, .slice b data.length d] 45, .row (.slice a sum.length c) sum, .ownB (.slice b data.length d) data]) [2, 3, 4, 1, 0] 5 (by decide))
        clear hc hdg
        refine hK _ _ ?_
        clear hK K
        try simp only [Act.put, List.setIfInBounds_toArray, List.set_cons_zero, List.set_cons_succ]
        refine wpAny_ready (rs := [12]) (by decide +kernel) (by simp) ?_
        refine AllReady.cons (o := { dst := some 27, op := .load 22 (.tmp 26), type := _, pos := _, after := _, guard := none }) rfl (fun K hK => ?_) AllReady.nil
        have cc := (HC.out.blkOf (p := p) (cs := [.int .i64 st, .int .i64 size, .slice a sum.length c, .slice b data.length d]) (T := 45) (by simp)).cell 2
        simp only [List.getElem?_cons_succ, List.getElem?_cons_zero] at cc
        go_simp
        refine hK _ _ ?_
        clear hK K
        try simp only [Act.put, List.setIfInBounds_toArray, List.set_cons_zero, List.set_cons_succ]
        refine wpAny_ready (rs := [13]) (by decide +kernel) (by simp) ?_
        refine AllReady.cons (o := { dst := some 28, op := .call { callee := .value (.func 31), args := #[.tmp 23, .tmp 27], argTypes := #[22, 22] }, type := _, pos := _, after := _, guard := none }) rfl (fun K hK => ?_) AllReady.nil
        have hb1 := HC.out.rowOf (v := .slice (some ⟨r, 0, none⟩) 16 16) (b := digM sums data) (by simp)
        have hb2 := HC.out.rowOf (v := .slice a sum.length c) (b := sum) (by simp)
        go_simp
        refine (equal_any _ _ (digM sums data) sum _ hb1 hb2).mono ?_
        rw [HBQ.out]
        rintro e w3 ⟨rfl, rfl⟩
        clear hb1 hb2
        refine hK _ _ ?_
        clear hK K
        try simp only [Act.put, List.setIfInBounds_toArray, List.set_cons_zero, List.set_cons_succ]
        refine wpAny_take (i := 14) (oi := { dst := some 29, op := _, type := _, pos := _, after := _, guard := none }) (v := .bool (!bq)) rfl (by kernel_rfl) (by kernel_rfl) (by kernel_rfl) (fun _ _ _ h => h) (Or.inl ⟨by rfl, by intro w; go_simp⟩) ?_
        simp only [Act.put, List.setIfInBounds_toArray, List.set_cons_zero, List.set_cons_succ]
        refine wpAny_done (by decide +kernel) ?_ _
        have HC := Lib.hid (HC.out.front (m := [.blk p [.int .i64 st, .int .i64 size, .slice a sum.length c, .slice b data.length d] 45, .row (.slice a sum.length c) sum, .ownB (.slice b data.length d) data, .row (.slice (some ⟨r, 0, none⟩) 16 16) (digM sums data), tabR q kv bv mp (digT sums data)]) [3, 0, 1, 2, 4] 5 (by decide)).tail
        have HC := Lib.hid (show Hold _ (.blk p [.int .i64 st, .int .i64 size, .slice a sum.length c, .slice b data.length d] 45 :: .row (.slice a sum.length c) sum :: .ownB (.slice b data.length d) data :: tabR q kv bv mp (digT sums data) :: l) from HC.out)
        have hblk := HC.out.blkOf (p := p) (cs := [.int .i64 st, .int .i64 size, .slice a sum.length c, .slice b data.length d]) (T := 45) (by simp)
        have cc0 := hblk.cell 0
        simp only [List.getElem?_cons_succ, List.getElem?_cons_zero] at cc0
        have ff0 := hblk.frozen 0
        clear hblk
        cases bq
        · have hq := HBQ.out
          simp only [decide_eq_true_eq, decide_eq_false_iff_not] at hq
          have HE : Hid (inWhole sums ⟨st, size, sum, data⟩ = (digT sums data, ⟨4, size, sum, data⟩, 23)) := Lib.hid (by unfold inWhole; rw [if_neg (show ¬ ((data.length : Int) < size) by omega), if_neg hq])
          clear hq
          have HC := Lib.hid (HC.out.set 0 (.int .i64 4))
          go_wp2_with fail
          go_ret
          rw [HE.out]
          exact ⟨rfl, inR_shut HC.out⟩
        · have hq := HBQ.out
          simp only [decide_eq_true_eq, decide_eq_false_iff_not] at hq
          have HE : Hid (inWhole sums ⟨st, size, sum, data⟩ = (digT sums data, ⟨2, size, sum, data⟩, 0)) := Lib.hid (by unfold inWhole; rw [if_neg (show ¬ ((data.length : Int) < size) by omega), if_pos hq])
          clear hq
          have HC := Lib.hid (HC.out.set 0 (.int .i64 2))
          go_wp2_with fail
          go_ret
          rw [HE.out]
          exact ⟨rfl, inR_shut HC.out⟩
      · have cc := (HC.out.blkOf (p := p) (cs := [.int .i64 st, .int .i64 size, .slice a sum.length c, .slice b data.length d]) (T := 45) (by simp)).cell 2
        simp only [List.getElem?_cons_succ, List.getElem?_cons_zero] at cc
        go_simp
        refine hK _ _ ?_
        clear hK K
        try simp only [Act.put, List.setIfInBounds_toArray, List.set_cons_zero, List.set_cons_succ]
        refine wpAny_ready (rs := [8]) (by decide +kernel) (by simp) ?_
        refine AllReady.cons (o := { dst := some 23, op := .call { callee := .invoke (.tmp 22) "Digest", args := #[.tmp 19], argTypes := #[22] }, type := _, pos := _, after := _, guard := none }) rfl (fun K hK => ?_) AllReady.nil
        have hbs : Bs _ (.slice b data.length d) data := (HC.out.ownBOf (v := .slice b data.length d) (b := data) (by simp)).1.bs
        have hdg := Lib.hid (digest_any q kv bv mp sums (.slice b data.length d) data _ _ HC.out.pull4 hbs (by omega) hn)
        clear hbs
        go_simp
        refine hdg.out.mono ?_
        rintro e w2 ⟨r, rfl, hc⟩
        have HC := Lib.hid (hc.front (m := [tabR q kv bv mp (digT sums data), .row (.slice (some ⟨r, 0, none⟩) 16 16) (digM sums data), .blk p [.int .i64 st, .int .i64 size, .slice a sum.length c, .slice b data.length d] 45, .row (.slice a sum.length c) sum, .ownB (.slice b data.length d) data]) [2, 3, 4, 1, 0] 5 (by decide))
        clear hc hdg
        refine hK _ _ ?_
        clear hK K
        try simp only [Act.put, List.setIfInBounds_toArray, List.set_cons_zero, List.set_cons_succ]
        refine wpAny_ready (rs := [13]) (by decide +kernel) (by simp) ?_
        refine AllReady.cons (o := { dst := some 28, op := .call { callee := .value (.func 31), args := #[.tmp 23, .tmp 27], argTypes := #[22, 22] }, type := _, pos := _, after := _, guard := none }) rfl (fun K hK => ?_) AllReady.nil
        have hb1 := HC.out.rowOf (v := .slice (some ⟨r, 0, none⟩) 16 16) (b := digM sums data) (by simp)
        have hb2 := HC.out.rowOf (v := .slice a sum.length c) (b := sum) (by simp)
        go_simp
        refine (equal_any _ _ (digM sums data) sum _ hb1 hb2).mono ?_
        rw [HBQ.out]
        rintro e w3 ⟨rfl, rfl⟩
        clear hb1 hb2
        refine hK _ _ ?_
        clear hK K
        try simp only [Act.put, List.setIfInBounds_toArray, List.set_cons_zero, List.set_cons_succ]
        refine wpAny_take (i := 14) (oi := { dst := some 29, op := _, type := _, pos := _, after := _, guard := none }) (v := .bool (!bq)) rfl (by kernel_rfl) (by kernel_rfl) (by kernel_rfl) (fun _ _ _ h => h) (Or.inl ⟨by rfl, by intro w; go_simp⟩) ?_
        simp only [Act.put, List.setIfInBounds_toArray, List.set_cons_zero, List.set_cons_succ]
        refine wpAny_done (by decide +kernel) ?_ _
        have HC := Lib.hid (HC.out.front (m := [.blk p [.int .i64 st, .int .i64 size, .slice a sum.length c, .slice b data.length d] 45, .row (.slice a sum.length c) sum, .ownB (.slice b data.length d) data, .row (.slice (some ⟨r, 0, none⟩) 16 16) (digM sums data), tabR q kv bv mp (digT sums data)]) [3, 0, 1, 2, 4] 5 (by decide)).tail
        have HC := Lib.hid (show Hold _ (.blk p [.int .i64 st, .int .i64 size, .slice a sum.length c, .slice b data.length d] 45 :: .row (.slice a sum.length c) sum :: .ownB (.slice b data.length d) data :: tabR q kv bv mp (digT sums data) :: l) from HC.out)
        have hblk := HC.out.blkOf (p := p) (cs := [.int .i64 st, .int .i64 size, .slice a sum.length c, .slice b data.length d]) (T := 45) (by simp)
        have cc0 := hblk.cell 0
        simp only [List.getElem?_cons_succ, List.getElem?_cons_zero] at cc0
        have ff0 := hblk.frozen 0
        clear hblk
        cases bq
        · have hq := HBQ.out
          simp only [decide_eq_true_eq, decide_eq_false_iff_not] at hq
          have HE : Hid (inWhole sums ⟨st, size, sum, data⟩ = (digT sums data, ⟨4, size, sum, data⟩, 23)) := Lib.hid (by unfold inWhole; rw [if_neg (show ¬ ((data.length : Int) < size) by omega), if_neg hq])
          clear hq
          have HC := Lib.hid (HC.out.set 0 (.int .i64 4))
          go_wp2_with fail
          go_ret
          rw [HE.out]
          exact ⟨rfl, inR_shut HC.out⟩
        · have hq := HBQ.out
          simp only [decide_eq_true_eq, decide_eq_false_iff_not] at hq
          have HE : Hid (inWhole sums ⟨st, size, sum, data⟩ = (digT sums data, ⟨2, size, sum, data⟩, 0)) := Lib.hid (by unfold inWhole; rw [if_neg (show ¬ ((data.length : Int) < size) by omega), if_pos hq])
          clear hq
          have HC := Lib.hid (HC.out.set 0 (.int .i64 2))
          go_wp2_with fail
          go_ret
          rw [HE.out]
          exact ⟨rfl, inR_shut HC.out⟩
    · have cc := (HC.out.blkOf (p := p) (cs := [.int .i64 st, .int .i64 size, .slice a sum.length c, .slice b data.length d]) (T := 45) (by simp)).cell 2
      simp only [List.getElem?_cons_succ, List.getElem?_cons_zero] at cc
      go_simp
      refine hK _ _ ?_
      clear hK K
      try simp only [Act.put, List.setIfInBounds_toArray, List.set_cons_zero, List.set_cons_succ]
      refine wpAny_ready (rs := [4]) (by decide +kernel) (by simp) ?_
      refine AllReady.cons (o := { dst := some 19, op := .load 22 (.tmp 18), type := _, pos := _, after := _, guard := none }) rfl (fun K hK => ?_) AllReady.nil
      have cc := (HC.out.blkOf (p := p) (cs := [.int .i64 st, .int .i64 size, .slice a sum.length c, .slice b data.length d]) (T := 45) (by simp)).cell 3
      simp only [List.getElem?_cons_succ, List.getElem?_cons_zero] at cc
      go_simp
      refine hK _ _ ?_
      clear hK K
      try simp only [Act.put, List.setIfInBounds_toArray, List.set_cons_zero, List.set_cons_succ]
      refine wpAny_ready (rs := [8]) (by decide +kernel) (by simp) ?_
      refine AllReady.cons (o := { dst := some 23, op := .call { callee := .invoke (.tmp 22) "Digest", args := #[.tmp 19], argTypes := #[22] }, type := _, pos := _, after := _, guard := none }) rfl (fun K hK => ?_) AllReady.nil
      have hbs : Bs _ (.slice b data.length d) data := (HC.out.ownBOf (v := .slice b data.length d) (b := data) (by simp)).1.bs
      have hdg := Lib.hid (digest_any q kv bv mp sums (.slice b data.length d) data _ _ HC.out.pull4 hbs (by omega) hn)
      clear hbs
      go_simp
      refine hdg.out.mono ?_
      rintro e w2 ⟨r, rfl, hc⟩
      have HC := Lib.hid (hc.front (m := [tabR q kv bv mp (digT sums data), .row (.slice (some ⟨r, 0, none⟩) 16 16) (digM sums data), .blk p [.int .i64 st, .int .i64 size, .slice a sum.length c, .slice b data.length d] 45, .row (.slice a sum.length c) sum, .ownB (.slice b data.length d) data]) [2, 3, 4, 1, 0] 5 (by decide))
      clear hc hdg
      refine hK _ _ ?_
      clear hK K
      try simp only [Act.put, List.setIfInBounds_toArray, List.set_cons_zero, List.set_cons_succ]
      refine wpAny_ready (rs := [13]) (by decide +kernel) (by simp) ?_
      refine AllReady.cons (o := { dst := some 28, op := .call { callee := .value (.func 31), args := #[.tmp 23, .tmp 27], argTypes := #[22, 22] }, type := _, pos := _, after := _, guard := none }) rfl (fun K hK => ?_) AllReady.nil
      have hb1 := HC.out.rowOf (v := .slice (some ⟨r, 0, none⟩) 16 16) (b := digM sums data) (by simp)
      have hb2 := HC.out.rowOf (v := .slice a sum.length c) (b := sum) (by simp)
      go_simp
      refine (equal_any _ _ (digM sums data) sum _ hb1 hb2).mono ?_
      rw [HBQ.out]
      rintro e w3 ⟨rfl, rfl⟩
      clear hb1 hb2
      refine hK _ _ ?_
      clear hK K
      try simp only [Act.put, List.setIfInBounds_toArray, List.set_cons_zero, List.set_cons_succ]
      refine wpAny_take (i := 14) (oi := { dst := some 29, op := _, type := _, pos := _, after := _, guard := none }) (v := .bool (!bq)) rfl (by kernel_rfl) (by kernel_rfl) (by kernel_rfl) (fun _ _ _ h => h) (Or.inl ⟨by rfl, by intro w; go_simp⟩) ?_
      simp only [Act.put, List.setIfInBounds_toArray, List.set_cons_zero, List.set_cons_succ]
      refine wpAny_done (by decide +kernel) ?_ _
      have HC := Lib.hid (HC.out.front (m := [.blk p [.int .i64 st, .int .i64 size, .slice a sum.length c, .slice b data.length d] 45, .row (.slice a sum.length c) sum, .ownB (.slice b data.length d) data, .row (.slice (some ⟨r, 0, none⟩) 16 16) (digM sums data), tabR q kv bv mp (digT sums data)]) [3, 0, 1, 2, 4] 5 (by decide)).tail
      have HC := Lib.hid (show Hold _ (.blk p [.int .i64 st, .int .i64 size, .slice a sum.length c, .slice b data.length d] 45 :: .row (.slice a sum.length c) sum :: .ownB (.slice b data.length d) data :: tabR q kv bv mp (digT sums data) :: l) from HC.out)
      have hblk := HC.out.blkOf (p := p) (cs := [.int .i64 st, .int .i64 size, .slice a sum.length c, .slice b data.length d]) (T := 45) (by simp)
      have cc0 := hblk.cell 0
      simp only [List.getElem?_cons_succ, List.getElem?_cons_zero] at cc0
      have ff0 := hblk.frozen 0
      clear hblk
      cases bq
      · have hq := HBQ.out
        simp only [decide_eq_true_eq, decide_eq_false_iff_not] at hq
        have HE : Hid (inWhole sums ⟨st, size, sum, data⟩ = (digT sums data, ⟨4, size, sum, data⟩, 23)) := Lib.hid (by unfold inWhole; rw [if_neg (show ¬ ((data.length : Int) < size) by omega), if_neg hq])
        clear hq
        have HC := Lib.hid (HC.out.set 0 (.int .i64 4))
        go_wp2_with fail
        go_ret
        rw [HE.out]
        exact ⟨rfl, inR_shut HC.out⟩
      · have hq := HBQ.out
        simp only [decide_eq_true_eq, decide_eq_false_iff_not] at hq
        have HE : Hid (inWhole sums ⟨st, size, sum, data⟩ = (digT sums data, ⟨2, size, sum, data⟩, 0)) := Lib.hid (by unfold inWhole; rw [if_neg (show ¬ ((data.length : Int) < size) by omega), if_pos hq])
        clear hq
        have HC := Lib.hid (HC.out.set 0 (.int .i64 2))
        go_wp2_with fail
        go_ret
        rw [HE.out]
        exact ⟨rfl, inR_shut HC.out⟩
end Go.Proofs.Ytogfkfoklnpfhaa
