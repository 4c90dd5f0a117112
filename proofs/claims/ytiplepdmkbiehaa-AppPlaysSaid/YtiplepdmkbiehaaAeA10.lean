/- Texts of this proof, one behind the other: AppLk. -/
import Derived.Test.YtiplepdmkbiehaaAeA9
import Derived.BigQuiet
namespace Go.Proofs.Ytiplepdmkbiehaa
set_option linter.unusedSimpArgs false
set_option linter.unusedVariables false
open Go.RowKit Go.Maps Go.MapKept Go.WideMaps
/-- 'm[k]' as one step of a region that draws its order. -/
theorem step_lookupV {α : Type} [DecidableEq α] {kL : α → Lit} {P : Program} {w : World} {ops : Array Oper} {o : Oper} {a : Act} {K' : Act → World → Prop} {Q : Exit → Act → World → Prop} {E : Prop} (hgd : o.guard = none) (m x : Operand) {t : TypeId} (hop : o.op = Op.lookup t m x false) (k e : TypeId) (K : Keyed P k) (hk : KInj kL) (ht : P.underlying t = some (.map k e)) {z : Value} (hz : (zeroValue e).run P w = .ok z w) (b : Nat) (M : List (α × Value))
    (hm : a.eval m = .map (some b)) (hown : MapAt P k kL w b M) (s : α) (hkey : keyOf P k (a.eval x) = some (kL s))
    (h : K' (a.put o.dst (getV M s z)) w) : if Region.wanted o (yielded ops a.tmps) = true then Oper.wp P o a w K' Q else E := by
  have hw : Region.wanted o (yielded ops a.tmps) = true := by simp [Region.wanted, hgd]
  rw [if_pos hw]
  obtain ⟨D, hd, ho⟩ := hown
  obtain ⟨v, ps, hrun, hv⟩ := ho.lookup K ht hz (zd := .held z) (zp := []) rfl hkey
  rw [hd.at hk] at hv
  simp only [rawR, Option.some.injEq, Prod.mk.injEq, DataW.held.injEq] at hv
  rw [hv.1] at hrun
  unfold Oper.wp
  simp [execOp, hop, hm, hrun, Result.andThen]
  exact h
/-- 'm[k] = v' as one step of a region that draws its order. -/
theorem step_updateV {α : Type} [DecidableEq α] {kL : α → Lit} {P : Program} {w : World} {ops : Array Oper} {o : Oper} {a : Act} {K' : Act → World → Prop} {Q : Exit → Act → World → Prop} {E : Prop} (hgd : o.guard = none) (m x v : Operand) {t : TypeId} (hop : o.op = Op.mapUpdate t m x v) (k e : TypeId) (K : Keyed P k) (hk : KInj kL) (ht : P.underlying t = some (.map k e)) (b : Nat) (M : List (α × Value))
    (hm : a.eval m = .map (some b)) (hown : MapAt P k kL w b M) (hn : M.length < maxLen) (s : α) (hkey : keyOf P k (a.eval x) = some (kL s))
    (h : ∀ w', MapAt P k kL w' b (putV M s (a.eval v)) → Keeps (fun k => k = b ∨ w.heap.size ≤ k) w w' → w'.heap.size = w.heap.size → K' (a.put o.dst undef) w') : if Region.wanted o (yielded ops a.tmps) = true then Oper.wp P o a w K' Q else E := by
  have hw : Region.wanted o (yielded ops a.tmps) = true := by simp [Region.wanted, hgd]
  rw [if_pos hw]
  obtain ⟨D, hd, ho⟩ := hown
  obtain ⟨w', hrun, r1, r2⟩ := ho.store K ht (by rw [hd.size]; exact hn) hkey (val := a.eval v) (d := .held (a.eval v)) (ps := []) rfl
  unfold Oper.wp
  simp [execOp, hop, hm, hrun, Result.andThen]
  refine h w' ⟨_, hd.put hk s (a.eval v), ownsMapV_tight r1⟩ (keeps_grown r2.grown) ?_
  obtain ⟨es, clock, es', clock', e1, rfl⟩ := r2
  simp [Go.ChangeMaps.setBlock]
theorem exec_lookupV {α : Type} [DecidableEq α] {kL : α → Lit} {P : Program} {w : World} {o : Oper} {a : Act} (m x : Operand) {t : TypeId} (hop : o.op = Op.lookup t m x false) (k e : TypeId) (K : Keyed P k) (hk : KInj kL) (ht : P.underlying t = some (.map k e)) {z : Value} (hz : (zeroValue e).run P w = .ok z w) (b : Nat) (M : List (α × Value))
    (hm : a.eval m = .map (some b)) (hown : MapAt P k kL w b M) (s : α) (hkey : keyOf P k (a.eval x) = some (kL s)) : (execOp a.eval o).run P w = .ok (.value (getV M s z)) w := by
  obtain ⟨D, hd, ho⟩ := hown
  obtain ⟨v, ps, hrun, hv⟩ := ho.lookup K ht hz (zd := .held z) (zp := []) rfl hkey
  rw [hd.at hk] at hv
  simp only [rawR, Option.some.injEq, Prod.mk.injEq, DataW.held.injEq] at hv
  rw [hv.1] at hrun
  simp [execOp, hop, hm, hrun, Result.andThen]
theorem exec_lookupV_ok {α : Type} [DecidableEq α] {kL : α → Lit} {P : Program} {w : World} {o : Oper} {a : Act} (m x : Operand) {t : TypeId} (hop : o.op = Op.lookup t m x true) (k e : TypeId) (K : Keyed P k) (hk : KInj kL) (ht : P.underlying t = some (.map k e)) {z : Value} (hz : (zeroValue e).run P w = .ok z w) (b : Nat) (M : List (α × Value))
    (hm : a.eval m = .map (some b)) (hown : MapAt P k kL w b M) (s : α) (hkey : keyOf P k (a.eval x) = some (kL s)) : (execOp a.eval o).run P w = .ok (.value (.tuple #[getV M s z, .bool (hasV M s)])) w := by
  obtain ⟨D, hd, ho⟩ := hown
  obtain ⟨v, ps, hrun, hv⟩ := ho.look_ok K ht hz (zd := .held z) (zp := []) rfl hkey
  rw [hd.at hk] at hv
  simp only [rawR, Option.some.injEq, Prod.mk.injEq, DataW.held.injEq] at hv
  rw [hv.1, hd.has hk] at hrun
  simp [execOp, hop, hm, hrun, Result.andThen]
theorem zBs (w : World) : (zeroValue 40).run Try.prog w = .ok (.slice none 0 0) w := by kernel_rfl
theorem zNm (w : World) : (zeroValue 3).run Try.prog w = .ok (.int .i64 0) w := by kernel_rfl
theorem overM_get (L : List (Int × Nat)) (k : Int) : getV (overM L) k (.int .i64 0) = .int .i64 ((getV L k 0 : Nat) : Int) := getV_map (fun n : Nat => Value.int .i64 (n : Int)) L k 0
theorem overM_put (L : List (Int × Nat)) (k : Int) (n : Nat) : putV (overM L) k (.int .i64 (n : Int)) = overM (putV L k n) := putV_map (fun n : Nat => Value.int .i64 (n : Int)) L k n
theorem rowM_has : ∀ {vs : List Value} {L : List (Int × List UInt8)}, vs.length = L.length → ∀ k, hasV (rowM vs L) k = hasV L k
  | [], [], _, _ => rfl
  | v :: vs, x :: L, h, k => by
    show hasV ((x.1, v) :: rowM vs L) k = _
    rw [hasV_cons, hasV_cons, rowM_has (by simpa using h)]
  | [], _ :: _, h, _ => by simp at h
  | _ :: _, [], h, _ => by simp at h
theorem rowM_get {W : World} {z : Value} : ∀ {vs : List Value} {L : List (Int × List UInt8)} {l : List Res}, Hold W (sumsR vs (L.map (·.2)) :: l) → ∀ k, hasV L k = true → Bs W (getV (rowM vs L) k z) (getV L k [])
  | [], [], _, _, _, h => by simp [hasV] at h
  | [], _ :: _, _, h, _, _ => (Hold.pure.1 h).1.elim
  | _ :: _, [], _, h, _, _ => (Hold.pure.1 h).1.elim
  | v :: vs, x :: L, l, h, k, hk => by
    have h := Hold.star.1 h
    show Bs W (getV ((x.1, v) :: rowM vs L) k z) _
    rw [getV_cons, getV_cons]
    by_cases e : x.1 = k
    · rw [if_pos e, if_pos e]
      exact h.row0
    · rw [if_neg e, if_neg e]
      rw [hasV_cons] at hk
      exact rowM_get h.tail k (by simpa [e] using hk)
theorem abs_list {W : World} {m : List Res} (h : Hold W m) : ∃ L, Hold W L ∧ L = m := ⟨m, h, rfl⟩
theorem logCells_at : ∀ {es : List EvF} {ds : List Value} (k : Nat) (hk : k < es.length) (hd : ds.length = es.length) (j : Nat) (hj : j < 4), (logCells es ds)[k * 4 + j]? = (evCells (ds[k]'(by omega)) es[k])[j]?
  | e :: es, d :: ds, 0, _, _, j, hj => by
    rw [Nat.zero_mul, Nat.zero_add]
    show (evCells d e ++ logCells es ds)[j]? = _
    rw [List.getElem?_append_left (by simp [evCells]; omega)]
    rfl
  | e :: es, d :: ds, k + 1, hk, hd, j, hj => by
    show (evCells d e ++ logCells es ds)[(k + 1) * 4 + j]? = _
    rw [List.getElem?_append_right (by simp [evCells]; omega)]
    have : (k + 1) * 4 + j - (evCells d e).length = k * 4 + j := by simp [evCells]; omega
    rw [this]
    exact logCells_at k (by simpa using hk) (by simpa using hd) j hj
  | [], _, _, hk, _, _, _ => by simp at hk
  | _ :: _, [], _, _, hd, _, _ => by simp at hd
theorem lookOks_at {y : SideF} {es : List EvF} : ∀ {X : SideF}, lookOks y X es → ∀ (j : Nat) (h : j < es.length), lookOk (lookL X (es.take j)) y es[j] := by
  induction es with
  | nil => intro X _ j h; simp at h
  | cons v vs ih =>
    intro X hl j h
    cases j with
    | zero => exact hl.1
    | succ j => exact ih hl.2 j (by simpa using h)
theorem lookE_hear (X : SideF) (v : EvF) : (lookE X v).hear.length ≤ X.hear.length + 1 := by
  unfold lookE
  split
  · simp
  · split
    · exact Nat.le_succ _
    · exact Nat.le_succ _
theorem lookL_hear : ∀ (vs : List EvF) (X : SideF), (lookL X vs).hear.length ≤ X.hear.length + vs.length
  | [], X => Nat.le_refl _
  | v :: vs, X => by
    have h1 := lookL_hear vs (lookE X v)
    have h2 := lookE_hear X v
    show (lookL (lookE X v) vs).hear.length ≤ _
    rw [List.length_cons]
    omega
theorem lookE_over (X : SideF) (v : EvF) : (lookE X v).over.length ≤ X.over.length + 1 := by
  unfold lookE
  split
  · exact Nat.le_succ _
  · split
    · exact putV_length _ _ _
    · exact Nat.le_succ _
theorem lookL_over : ∀ (vs : List EvF) (X : SideF), (lookL X vs).over.length ≤ X.over.length + vs.length
  | [], X => Nat.le_refl _
  | v :: vs, X => by
    have h1 := lookL_over vs (lookE X v)
    have h2 := lookE_over X v
    show (lookL (lookE X v) vs).over.length ≤ _
    rw [List.length_cons]
    omega
theorem lookL_take (es : List EvF) (j : Nat) (h : j < es.length) (X : SideF) : lookL X (es.take (j + 1)) = lookE (lookL X (es.take j)) es[j] := by
  unfold lookL
  rw [← List.take_append_getElem h, List.foldl_append]
  rfl
set_option maxRecDepth 100000 in
set_option maxHeartbeats 8000000 in
theorem look0_any (p q : Nat) (mp : Value) (t : Sums) (x y : SideF) (n pp : Nat) (l : List Res) (w : World) (h : Hold w (pairR p q mp t x y :: l)) (hok : Ok n pp t x y) (hn : n ≤ 1000000) (hlk : lookOks y (bare x) x.app.log) (hhe : x.hear.length ≤ 1000000) (hov : x.over.length ≤ 549755813888) :
    Calls Try.prog 14 #[.pointer (some ⟨p, 0, none⟩), .int .i64 0] w fun e w' => e = .returned (.bool true) ∧ Hold w' (pairR p q mp t (lookW x) y :: l) := by
  obtain ⟨z, u, h⟩ := pairR_two h
  have hb := restR_blk (p := p) (z := z) (u := u) (x := x) (y := y) h (by simp)
  have c0 : w.cell? ⟨p, 0, none⟩ = some (.pointer (some ⟨z.e, 0, none⟩)) := hb.cell 0
  have HN := hI (appEvents_any z.e q z.P x.app.app _ w h)
  have HLK := hI hlk
  have HOK := hI hok
  have HNL := hI hn
  have HHE := hI hhe
  have HVL := hI hov
  clear hhe hov
  obtain ⟨es, hes⟩ : ∃ es, es = x.app.app.log := ⟨_, rfl⟩
  have HES : Hid (es = x.app.log) := hI hes
  rw [← hes] at HN
  have hel : es.length ≤ 1000000 := by rw [hes]; exact Nat.le_trans hok.bx.log hn
  clear h hb hes hok hlk hn
  go_enter Try.func14, Try.ntmps14
  go_wp2_with ((with_reducible show Calls _ _ #[_] _ _); refine HN.out.mono ?_)
  rintro e w2 ⟨v, rfl, hc⟩
  obtain ⟨ds, hc⟩ := logR_open hc.swap
  obtain ⟨la, lc, hvf, hlc, hlm⟩ := hc.own0.1.sl.form
  subst hvf
  have hds : ds.length = es.length := by simpa using sumsR_len hc.tail
  have HDS := hI hds
  have HC : Hid (Hold w2 (pairR p q mp t (bare x) y :: .own 54 4 (.slice la es.length lc) es.length (logCells es ds) :: sumsR ds (es.map (·.data)) :: l)) := by
    have h0 : Hold w2 (([.own 54 4 (.slice la es.length lc) es.length (logCells es ds), sumsR ds (es.map (·.data)), appR z.e q z.P (EndW.app { x.app with log := [] }), appR u.e q u.P y.app.app, tabR q (.slice none 0 0) (.slice none 0 0) mp t, restR p z u x y] : List Res) ++ l) := hc
    have h1 := h0.front [2, 3, 4, 5, 0, 1] 6 (by decide)
    exact hI (pairR_back h1)
  clear hc hds hlc HN
  go_wp2_with fail
  go_loopw [17] (fun i wr => ∃ j : Nat, j ≤ es.length ∧ i = .int .i64 j ∧ Hold wr (pairR p q mp t (lookL (bare x) (es.take j)) y :: .own 54 4 (.slice la es.length lc) es.length (logCells es ds) :: sumsR ds (es.map (·.data)) :: l)) (fun i _ => es.length - (intOf i).toNat)
  case atStart => exact ⟨0, Nat.zero_le _, rfl, HC.out⟩
  case round =>
    obtain ⟨j, hj, rfl, hr⟩ := hrel
    have HC := hI hr
    clear hr
    by_cases hlt : j < es.length
    · have hji : (j : Int) < es.length := by omega
      have hok := lookOks_at (es := es) (by rw [HES.out]; exact HLK.out) j hlt
      have HSTEP : Hid (lookL (bare x) (es.take (j + 1)) = lookE (lookL (bare x) (es.take j)) es[j]) := hI (lookL_take es j hlt _)
      have hXh := lookL_hear (es.take j) (bare x)
      have hXo := lookL_over (es.take j) (bare x)
      obtain ⟨X, hX⟩ : ∃ X, X = lookL (bare x) (es.take j) := ⟨_, rfl⟩
      rw [← hX] at HC HSTEP hok hXh hXo
      have HOL : Hid ((overM X.over).length < maxLen) := hI (by
        rw [List.length_take] at hXo
        have h2 : (bare x).over.length ≤ 549755813888 := HVL.out
        unfold overM maxLen
        rw [List.length_map]
        omega)
      clear hXo
      have hXh : X.hear.length ≤ 2000000 := by
        refine Nat.le_trans hXh ?_
        rw [List.length_take]
        have := HHE.out
        show x.hear.length + _ ≤ _
        omega
      clear hX
      have hd : j < ds.length := by rw [HDS.out]; exact hlt
      have hown := HC.out.swap.own0.1
      obtain ⟨bl, ol, hal, hcell⟩ := hown.sl.addr (by rw [hown.sl.1]; omega)
      subst hal
      have hel : ∀ (i : Nat) u, (evCells ds[j] es[j])[i]? = some u → wr.cell? ⟨bl, ol + j * 4 + i, none⟩ = some u := by
        intro i u hi
        have hi' : i < 4 := by have := (List.getElem?_eq_some_iff.1 hi).1; simpa [evCells] using this
        have := hcell (j * 4 + i) u (by rw [logCells_at j hlt HDS.out i hi']; exact hi)
        rw [Nat.add_assoc]
        exact this
      obtain ⟨v, hv⟩ : ∃ v, v = es[j] := ⟨_, rfl⟩
      obtain ⟨dv, hdv⟩ : ∃ dv, dv = ds[j] := ⟨_, rfl⟩
      have hbs : Bs wr dv v.data := by
        have := sumsR_at HC.out.pull3 j (v := dv) (r := v.data) (by rw [hdv]; exact List.getElem?_eq_getElem hd) (by rw [hv, List.getElem?_map, List.getElem?_eq_getElem hlt]; rfl)
        exact this
      obtain ⟨da, dc, hdf, -, -⟩ := hbs.form
      rw [← hv, ← hdv, hdf] at hel
      rw [← hv] at HSTEP hok
      rw [hdf] at hbs
      have HBS := hI hbs
      obtain ⟨vk, vi, vt, vd⟩ := v
      have e0 := hel 0 (.int .i64 vk) rfl
      have e1 := hel 1 (.int .i64 vi) rfl
      have e2 := hel 2 (.string vt) rfl
      have e3 := hel 3 (.slice da vd.length dc) rfl
      rw [Nat.add_zero] at e0
      have HLO := hI hok
      have HDV : Hid (ds[j]? = some (.slice da vd.length dc) ∧ (es.map (·.data))[j]? = some vd) := hI ⟨by rw [List.getElem?_eq_getElem hd, ← hdv, hdf], by rw [List.getElem?_map, List.getElem?_eq_getElem hlt, ← hv]; rfl⟩
      have HC := hI (HC.out.addBlk [.int .i64 vk, .int .i64 vi, .string vt, .slice da vd.length dc] 54)
      clear hown hcell hel hv hdv hdf hd hok hbs
      obtain ⟨pe, hpe⟩ : ∃ pe, pe = wr.heap.size := ⟨_, rfl⟩
      obtain ⟨z2, u2, h2⟩ := pairR_two HC.out.swap
      obtain ⟨ze, zP, zs, zh, zf, zo⟩ := z2
      obtain ⟨ue, uP, us, uh, uf, uo⟩ := u2
      rw [← hpe] at h2
      -- blk p, own and other things (8), ends, table, blk pe, events
      have h3 := restR_iff.1 h2.pull4
      have HSZ : Hid (pe = wr.heap.size) := hI hpe
      clear h2 HC
      by_cases hk0 : vk = 0
      · subst hk0
        have h4 : Hold _ (strsR zh X.hear :: .blk p (pairC ⟨ze, zP, zs, zh, zf, zo⟩ ⟨ue, uP, us, uh, uf, uo⟩) 38 :: .blk pe [.int .i64 0, .int .i64 vi, .string vt, .slice da vd.length dc] 54 :: _) := Hold.front (m := [_, _, _, _, _, _, _, _, _, _, _, _, _, _, _]) (l := l) h3 [2, 0, 12, 1, 3, 4, 5, 6, 7, 8, 9, 10, 11, 13, 14] 15 (by decide)
        obtain ⟨ha, hcap, hvf, -, -⟩ := h4.own0.1.sl.form
        subst hvf
        obtain ⟨hl, hhl⟩ : ∃ hl, hl = X.hear := ⟨_, rfl⟩
        have HHL : Hid (hl.length ≤ 1099511627776) := hI (by rw [hhl]; omega)
        have HLE : Hid (hl = X.hear) := hI hhl
        rw [← hhl] at h4
        clear hhl hXh
        have HR := hI h4.drew
        clear h3 h4
        go_wp2_with fail
        rw [← hpe]
        clear hpe
        obtain ⟨wd, hwd⟩ : ∃ wd, wd = (wr.alloc (.cells #[.int .i64 0, .int .i64 vi, .string vt, .slice da vd.length dc] 54)).drew := ⟨_, rfl⟩
        rw [← hwd] at HR
        have HPE : Hid (wd.cell? ⟨pe, 2, none⟩ = some (.string vt)) := hI (HR.out.tail.tail.blk0.cell 2)
        have HCH : Hid (wd.cell? ⟨p, 6, none⟩ = some (.slice ha hl.length hcap)) := hI (HR.out.tail.blk0.cell 6)
        refine wp_region_held (S := fun W : World => W.cell? ⟨pe, 2, none⟩ = some (.string vt)) (by kernel_rfl) ?_
        change wpAnyH _ _ _ _ _ _ _ _ (World.drew _)
        rw [← hwd]
        clear hwd
        refine tkH 0 25 none (.pointer (some ⟨p, 0, none⟩)) rfl (by kernel_rfl) (fun _ _ _ h => h) (by rfl) (by intro W hW; go_simp) HPE.out ?_
        simp only [Act.put, zq1, zq2, zq3]
        refine tkH 1 26 none (.int .i64 0) rfl (by kernel_rfl) (fun _ _ _ h => h) (by rfl) (by intro W hW; go_simp) HPE.out ?_
        simp only [Act.put, zq1, zq2, zq3]
        refine tkH 2 27 none (.pointer (some ⟨p, 0, none⟩)) rfl (by kernel_rfl) (fun _ _ _ h => h) (by rfl) (by intro W hW; go_simp) HPE.out ?_
        simp only [Act.put, zq1, zq2, zq3]
        refine tkH 3 28 none (.int .i64 0) rfl (by kernel_rfl) (fun _ _ _ h => h) (by rfl) (by intro W hW; go_simp) HPE.out ?_
        simp only [Act.put, zq1, zq2, zq3]
        refine tkH 4 29 none (.pointer (some ⟨p, 0, none⟩)) rfl (by kernel_rfl) (fun _ _ _ h => h) (by rfl) (by intro W hW; go_simp) HPE.out ?_
        simp only [Act.put, zq1, zq2, zq3]
        refine tkH 5 30 none (.pointer (some ⟨p, 6, none⟩)) rfl (by kernel_rfl) (fun _ _ _ h => h) (by rfl) (by intro W hW; go_simp) HPE.out ?_
        simp only [Act.put, zq1, zq2, zq3]
        refine tkH 6 31 none (.pointer (some ⟨p, 6, none⟩)) rfl (by kernel_rfl) (fun _ _ _ h => h) (by rfl) (by intro W hW; go_simp) HPE.out ?_
        simp only [Act.put, zq1, zq2, zq3]
        refine tkH 8 33 none (.pointer (some ⟨pe, 2, none⟩)) rfl (by kernel_rfl) (fun _ _ _ h => h) (by rfl) (by intro W hW; go_simp) HPE.out ?_
        simp only [Act.put, zq1, zq2, zq3]
        refine tkH 9 34 none (.string vt) rfl (by kernel_rfl) (fun _ _ _ h => h) (by rfl) (by intro W hW; have hce : W.cell? ⟨pe, 2, none⟩ = some (.string vt) := hW; go_simp) HPE.out ?_
        simp only [Act.put, zq1, zq2, zq3]
        refine tkH 12 37 none (.pointer (some ⟨p, 0, none⟩)) rfl (by kernel_rfl) (fun _ _ _ h => h) (by rfl) (by intro W hW; go_simp) HPE.out ?_
        simp only [Act.put, zq1, zq2, zq3]
        refine tkH 13 38 none (.pointer (some ⟨p, 6, none⟩)) rfl (by kernel_rfl) (fun _ _ _ h => h) (by rfl) (by intro W hW; go_simp) HPE.out ?_
        simp only [Act.put, zq1, zq2, zq3]
        refine anyH_ready (rs := [7, 10]) (by decide +kernel) (by simp) ?_
        refine AllReadyH.cons (o := { dst := some 32, op := .load 31 (.tmp 31), type := _, pos := _, after := _, guard := none }) rfl (fun K hK => ?_) (AllReadyH.cons (o := { dst := some 35, op := .buildSlice 31 1 #[(0, .tmp 34)], type := _, pos := _, after := _, guard := none }) rfl (fun K hK => ?_) AllReadyH.nil)
        · have hch := HCH.out
          go_simp
          clear hch
          refine hK _ _ HPE.out ?_
          clear hK K
          try simp only [Act.put, zq1, zq2, zq3]
          refine anyH_ready (rs := [10]) (by decide +kernel) (by simp) ?_
          refine AllReadyH.cons (o := { dst := some 35, op := .buildSlice 31 1 #[(0, .tmp 34)], type := _, pos := _, after := _, guard := none }) rfl (fun K hK => ?_) AllReadyH.nil
          go_simp
          have HA := hI (HR.out.alloc (.cells #[.string vt] 9))
          have HSL : Hid (Sl (wd.alloc (.cells #[.string vt] 9)) 1 (.slice (some ⟨wd.heap.size, 0, none⟩) 1 1) 1 [.string vt]) := hI (Sl.lit rfl rfl (by simp [Value.oneCell']) (by unfold maxLen; decide))
          have HPE : Hid ((wd.alloc (.cells #[.string vt] 9)).cell? ⟨pe, 2, none⟩ = some (.string vt)) := hI (HA.out.tail.tail.blk0.cell 2)
          have HCH : Hid ((wd.alloc (.cells #[.string vt] 9)).cell? ⟨p, 6, none⟩ = some (.slice ha hl.length hcap)) := hI (HA.out.tail.blk0.cell 6)
          refine hK _ _ HPE.out ?_
          clear hK K
          try simp only [Act.put, zq1, zq2, zq3]
          refine anyH_ready (rs := [11]) (by decide +kernel) (by simp) ?_
          refine AllReadyH.cons (o := { dst := some 36, op := .call { callee := .builtin .append, args := #[.tmp 32, .tmp 35], argTypes := #[31, 31] }, type := _, pos := _, after := _, guard := none }) rfl (fun K hK => ?_) AllReadyH.nil
          refine step_app2 rfl (.tmp 32) (.tmp 35) elStr rfl 0 (v := .slice ha hl.length hcap) (by simp [Act.eval]) HA.out.own0.1 HA.out.own0.2 (u := .slice (some ⟨wd.heap.size, 0, none⟩) 1 1) (by simp [Act.eval]) HSL.out (by have := HHL.out; unfold maxLen; omega) (by have := HHL.out; omega) (Nat.zero_le _) ?_
          intro v' w5 ho hkk hvv
          have hc5 := HA.out.append (B := 0) ho (hkk.mono fun k h => by simpa using h) (fun k h => by simpa using hvv k h)
          obtain ⟨va5, vc5, hvf5, _⟩ := ho.sl.form
          subst hvf5
          have HC5 := hI hc5
          have HPE : Hid (w5.cell? ⟨pe, 2, none⟩ = some (.string vt)) := hI (HC5.out.tail.tail.blk0.cell 2)
          clear ho hkk hvv hc5
          refine hK _ _ HPE.out ?_
          clear hK K
          try simp only [Act.put, zq1, zq2, zq3]
          refine tkH 14 39 none (.pointer (some ⟨p, 6, none⟩)) rfl (by kernel_rfl) (fun _ _ _ h => h) (by rfl) (by intro W hW; go_simp) HPE.out ?_
          simp only [Act.put, zq1, zq2, zq3]
          refine anyH_ready (rs := [15]) (by decide +kernel) (by simp) ?_
          refine AllReadyH.cons (o := { dst := none, op := .store 31 (.tmp 39) (.tmp 36), type := _, pos := _, after := _, guard := none }) rfl (fun K hK => ?_) AllReadyH.nil
          have hch := HC5.out.tail.blk0.cell 6
          have hcf := HC5.out.tail.blk0.frozen 6
          simp only [pairC, List.getElem?_cons_zero, List.getElem?_cons_succ] at hch
          go_simp
          clear hch hcf
          have HC6 := hI (HC5.out.swap.set 6 (.slice va5 (hl.length + 1) vc5))
          have HPE : Hid ((w5.setCell ⟨p, 6, none⟩ (.slice va5 (hl.length + 1) vc5)).cell? ⟨pe, 2, none⟩ = some (.string vt)) := hI (HC6.out.tail.tail.blk0.cell 2)
          refine hK _ _ HPE.out ?_
          clear hK K
          try simp only [Act.put, zq1, zq2, zq3]
          refine wpAnyH_done (by decide +kernel) ?_ _
          have h7 := Hold.front (m := [_, _, _, _, _, _, _, _, _, _, _, _, _, _, _]) (l := l) HC6.out.swap [1, 3, 0, 4, 5, 6, 7, 8, 9, 10, 11, 12, 2, 13, 14] 15 (by decide)
          have e7 : strsR (.slice va5 (hl.length + 1) vc5) (hl ++ [vt]) = .own 9 1 (.slice va5 (hl.length + 1) vc5) (hl.length + 1) (hl.map strC ++ [.string vt]) := by simp [strsR, strC]
          have h8 : Hold _ (restR p ⟨ze, zP, zs, .slice va5 (hl.length + 1) vc5, zf, zo⟩ ⟨ue, uP, us, uh, uf, uo⟩ ⟨X.app, X.said, hl ++ [vt], X.file, X.over⟩ y :: appR ze q zP X.app.app :: appR ue q uP y.app.app :: tabR q (.slice none 0 0) (.slice none 0 0) mp t :: .blk pe [.int .i64 0, .int .i64 vi, .string vt, .slice da vd.length dc] 54 :: .own 54 4 (.slice (some ⟨bl, ol, none⟩) es.length lc) es.length (logCells es ds) :: sumsR ds (es.map (·.data)) :: l) := restR_iff.2 (by rw [e7]; exact h7)
          have h9 := pairR_back (x := { X with hear := hl ++ [vt] }) (y := y) (E := X.app) (G := y.app) (z := ⟨ze, zP, zs, .slice va5 (hl.length + 1) vc5, zf, zo⟩) (u := ⟨ue, uP, us, uh, uf, uo⟩) (P1 := zP) (P2 := uP) h8.push4
          have HC9 := hI h9.swap.tail
          clear h7 e7 h8 h9 HC6 HPE HCH HA HSL HR HC5
          go_wp2_with fail
          go_roundw
          case rel =>
            refine ⟨j + 1, by omega, by go_num, ?_⟩
            have e : lookE X ⟨0, vi, vt, vd⟩ = { X with hear := hl ++ [vt] } := by rw [lookE, if_pos rfl, HLE.out]
            rw [HSTEP.out, e]
            exact HC9.out
          case measure => simp [intOf]; omega
        · go_simp
          have HA := hI (HR.out.alloc (.cells #[.string vt] 9))
          have HSL : Hid (Sl (wd.alloc (.cells #[.string vt] 9)) 1 (.slice (some ⟨wd.heap.size, 0, none⟩) 1 1) 1 [.string vt]) := hI (Sl.lit rfl rfl (by simp [Value.oneCell']) (by unfold maxLen; decide))
          have HPE : Hid ((wd.alloc (.cells #[.string vt] 9)).cell? ⟨pe, 2, none⟩ = some (.string vt)) := hI (HA.out.tail.tail.blk0.cell 2)
          have HCH : Hid ((wd.alloc (.cells #[.string vt] 9)).cell? ⟨p, 6, none⟩ = some (.slice ha hl.length hcap)) := hI (HA.out.tail.blk0.cell 6)
          refine hK _ _ HPE.out ?_
          clear hK K
          try simp only [Act.put, zq1, zq2, zq3]
          refine anyH_ready (rs := [7]) (by decide +kernel) (by simp) ?_
          refine AllReadyH.cons (o := { dst := some 32, op := .load 31 (.tmp 31), type := _, pos := _, after := _, guard := none }) rfl (fun K hK => ?_) AllReadyH.nil
          have hch := HCH.out
          go_simp
          clear hch
          refine hK _ _ HPE.out ?_
          clear hK K
          try simp only [Act.put, zq1, zq2, zq3]
          refine anyH_ready (rs := [11]) (by decide +kernel) (by simp) ?_
          refine AllReadyH.cons (o := { dst := some 36, op := .call { callee := .builtin .append, args := #[.tmp 32, .tmp 35], argTypes := #[31, 31] }, type := _, pos := _, after := _, guard := none }) rfl (fun K hK => ?_) AllReadyH.nil
          refine step_app2 rfl (.tmp 32) (.tmp 35) elStr rfl 0 (v := .slice ha hl.length hcap) (by simp [Act.eval]) HA.out.own0.1 HA.out.own0.2 (u := .slice (some ⟨wd.heap.size, 0, none⟩) 1 1) (by simp [Act.eval]) HSL.out (by have := HHL.out; unfold maxLen; omega) (by have := HHL.out; omega) (Nat.zero_le _) ?_
          intro v' w5 ho hkk hvv
          have hc5 := HA.out.append (B := 0) ho (hkk.mono fun k h => by simpa using h) (fun k h => by simpa using hvv k h)
          obtain ⟨va5, vc5, hvf5, _⟩ := ho.sl.form
          subst hvf5
          have HC5 := hI hc5
          have HPE : Hid (w5.cell? ⟨pe, 2, none⟩ = some (.string vt)) := hI (HC5.out.tail.tail.blk0.cell 2)
          clear ho hkk hvv hc5
          refine hK _ _ HPE.out ?_
          clear hK K
          try simp only [Act.put, zq1, zq2, zq3]
          refine tkH 14 39 none (.pointer (some ⟨p, 6, none⟩)) rfl (by kernel_rfl) (fun _ _ _ h => h) (by rfl) (by intro W hW; go_simp) HPE.out ?_
          simp only [Act.put, zq1, zq2, zq3]
          refine anyH_ready (rs := [15]) (by decide +kernel) (by simp) ?_
          refine AllReadyH.cons (o := { dst := none, op := .store 31 (.tmp 39) (.tmp 36), type := _, pos := _, after := _, guard := none }) rfl (fun K hK => ?_) AllReadyH.nil
          have hch := HC5.out.tail.blk0.cell 6
          have hcf := HC5.out.tail.blk0.frozen 6
          simp only [pairC, List.getElem?_cons_zero, List.getElem?_cons_succ] at hch
          go_simp
          clear hch hcf
          have HC6 := hI (HC5.out.swap.set 6 (.slice va5 (hl.length + 1) vc5))
          have HPE : Hid ((w5.setCell ⟨p, 6, none⟩ (.slice va5 (hl.length + 1) vc5)).cell? ⟨pe, 2, none⟩ = some (.string vt)) := hI (HC6.out.tail.tail.blk0.cell 2)
          refine hK _ _ HPE.out ?_
          clear hK K
          try simp only [Act.put, zq1, zq2, zq3]
          refine wpAnyH_done (by decide +kernel) ?_ _
          have h7 := Hold.front (m := [_, _, _, _, _, _, _, _, _, _, _, _, _, _, _]) (l := l) HC6.out.swap [1, 3, 0, 4, 5, 6, 7, 8, 9, 10, 11, 12, 2, 13, 14] 15 (by decide)
          have e7 : strsR (.slice va5 (hl.length + 1) vc5) (hl ++ [vt]) = .own 9 1 (.slice va5 (hl.length + 1) vc5) (hl.length + 1) (hl.map strC ++ [.string vt]) := by simp [strsR, strC]
          have h8 : Hold _ (restR p ⟨ze, zP, zs, .slice va5 (hl.length + 1) vc5, zf, zo⟩ ⟨ue, uP, us, uh, uf, uo⟩ ⟨X.app, X.said, hl ++ [vt], X.file, X.over⟩ y :: appR ze q zP X.app.app :: appR ue q uP y.app.app :: tabR q (.slice none 0 0) (.slice none 0 0) mp t :: .blk pe [.int .i64 0, .int .i64 vi, .string vt, .slice da vd.length dc] 54 :: .own 54 4 (.slice (some ⟨bl, ol, none⟩) es.length lc) es.length (logCells es ds) :: sumsR ds (es.map (·.data)) :: l) := restR_iff.2 (by rw [e7]; exact h7)
          have h9 := pairR_back (x := { X with hear := hl ++ [vt] }) (y := y) (E := X.app) (G := y.app) (z := ⟨ze, zP, zs, .slice va5 (hl.length + 1) vc5, zf, zo⟩) (u := ⟨ue, uP, us, uh, uf, uo⟩) (P1 := zP) (P2 := uP) h8.push4
          have HC9 := hI h9.swap.tail
          clear h7 e7 h8 h9 HC6 HPE HCH HA HSL HR HC5
          go_wp2_with fail
          go_roundw
          case rel =>
            refine ⟨j + 1, by omega, by go_num, ?_⟩
            have e : lookE X ⟨0, vi, vt, vd⟩ = { X with hear := hl ++ [vt] } := by rw [lookE, if_pos rfl, HLE.out]
            rw [HSTEP.out, e]
            exact HC9.out
          case measure => simp [intOf]; omega
      · have hk0' : (vk == 0) = false := by simpa using hk0
        clear hXh
        -- over, blk p, blk pe, the other's files and over, the rest
        have h4 : Hold _ (mapV Try.prog 2 kI zo (overM X.over) :: .blk p (pairC ⟨ze, zP, zs, zh, zf, zo⟩ ⟨ue, uP, us, uh, uf, uo⟩) 38 :: .blk pe [.int .i64 vk, .int .i64 vi, .string vt, .slice da vd.length dc] 54 :: filesR uf y.file :: mapV Try.prog 2 kI uo (overM y.over) :: sumsR ds (es.map (·.data)) :: _) := Hold.front (m := [_, _, _, _, _, _, _, _, _, _, _, _, _, _, _]) (l := l) h3 [4, 0, 12, 7, 8, 14, 1, 2, 3, 5, 6, 9, 10, 11, 13] 15 (by decide)
        obtain ⟨fvs, h5⟩ := Hold.ex.1 h4.pull4
        have h6 := Hold.app.1 h5
        have hfl : fvs.length = y.file.length := by simpa using sumsR_len h6.tail
        obtain ⟨L, hc6, hL⟩ := abs_list h6
        have HL := hI hL
        have HOP : Hid (∀ W, Hold W L → W.cell? ⟨p, 10, none⟩ = some (.map (some zo))) := hI (fun W h => by rw [hL] at h; exact h.tail.tail.tail.blk0.cell 10)
        have HUP : Hid (∀ W, Hold W L → W.cell? ⟨p, 11, none⟩ = some (.map (some uo))) := hI (fun W h => by rw [hL] at h; exact h.tail.tail.tail.blk0.cell 11)
        have HFP : Hid (∀ W, Hold W L → W.cell? ⟨p, 9, none⟩ = some (.map (some uf))) := hI (fun W h => by rw [hL] at h; exact h.tail.tail.tail.blk0.cell 9)
        have HE1 : Hid (∀ W, Hold W L → W.cell? ⟨pe, 1, none⟩ = some (.int .i64 vi)) := hI (fun W h => by rw [hL] at h; exact h.tail.tail.tail.tail.blk0.cell 1)
        have HE3 : Hid (∀ W, Hold W L → W.cell? ⟨pe, 3, none⟩ = some (.slice da vd.length dc)) := hI (fun W h => by rw [hL] at h; exact h.tail.tail.tail.tail.blk0.cell 3)
        have HMF : Hid (∀ W, Hold W L → MapAt Try.prog 2 kI W uf (rowM fvs y.file)) := hI (fun W h => by rw [hL] at h; exact h.mapVOf List.mem_cons_self)
        have HMO : Hid (∀ W, Hold W L → MapAt Try.prog 2 kI W zo (overM X.over)) := hI (fun W h => by rw [hL] at h; exact h.tail.tail.mapVOf List.mem_cons_self)
        have HMU : Hid (∀ W, Hold W L → MapAt Try.prog 2 kI W uo (overM y.over)) := hI (fun W h => by rw [hL] at h; exact h.tail.tail.tail.tail.tail.mapVOf List.mem_cons_self)
        have HRS : Hid (∀ W, Hold W L → ∀ z k, hasV y.file k = true → Bs W (getV (rowM fvs y.file) k z) (getV y.file k [])) := hI (fun W h z k hk => by rw [hL] at h; exact rowM_get h.tail k hk)
        have HVB : Hid (∀ W, Hold W L → Bs W (.slice da vd.length dc) vd) := hI (fun W h => by rw [hL] at h; exact sumsR_at h.tail.tail.tail.tail.tail.tail j HDV.out.1 HDV.out.2)
        have HC : Hid (Hold _ L) := hI hc6
        have HFL := hI hfl
        clear h3 h4 h5 h6 hc6 hL hfl
        by_cases hk5 : vk = 5
        · subst hk5
          obtain ⟨g1, g2, g3⟩ := HLO.out.1 rfl
          simp only at g1 g2 g3
          have gk := (hasV_ids HOK.out.both.b.fkeys vi).1 g1
          have gi := HOK.out.bY.id
          have HK := hI (kI_key (n := vi) (by have := HNL.out; omega))
          have HFH : Hid (hasV (rowM fvs y.file) vi = true) := hI (by rw [rowM_has HFL.out]; exact g1)
          obtain ⟨fv, hfv⟩ : ∃ fv, fv = getV (rowM fvs y.file) vi (.slice none 0 0) := ⟨_, rfl⟩
          have HFV : Hid (getV (rowM fvs y.file) vi (.slice none 0 0) = fv) := hI hfv.symm
          have HFB : Hid (∀ W, Hold W L → Bs W fv vd) := hI (fun W h => by rw [hfv, ← g2]; exact HRS.out W h _ vi g1)
          have HOV : Hid (getV (overM X.over) vi (.int .i64 0) = .int .i64 0) := hI (by rw [overM_get, g3]; rfl)
          clear g1 g2 g3 gk gi hfv hk0
          go_wp2_with fail
          rw [← hpe]
          clear hpe
          refine wp_region_held (S := fun W : World => Hold W L) (by kernel_rfl) ?_
          change wpAnyH _ _ _ _ _ _ _ _ (World.drew _)
          have HC := hI HC.out.drew
          refine tkH 0 43 none (.pointer (some ⟨p, 0, none⟩)) rfl (by kernel_rfl) (fun _ _ _ h => h) (by rfl) (by intro W hW; go_simp) HC.out ?_
          simp only [Act.put, zq1, zq2, zq3]
          refine tkH 1 44 none (.int .i64 0) rfl (by kernel_rfl) (fun _ _ _ h => h) (by rfl) (by intro W hW; go_simp) HC.out ?_
          simp only [Act.put, zq1, zq2, zq3]
          refine tkH 2 45 none (.int .i64 1) rfl (by kernel_rfl) (fun _ _ _ h => h) (by rfl) (by intro W hW; go_simp; try rfl) HC.out ?_
          simp only [Act.put, zq1, zq2, zq3]
          refine tkH 3 46 none (.pointer (some ⟨p, 0, none⟩)) rfl (by kernel_rfl) (fun _ _ _ h => h) (by rfl) (by intro W hW; go_simp) HC.out ?_
          simp only [Act.put, zq1, zq2, zq3]
          refine tkH 4 47 none (.pointer (some ⟨p, 8, none⟩)) rfl (by kernel_rfl) (fun _ _ _ h => h) (by rfl) (by intro W hW; go_simp) HC.out ?_
          simp only [Act.put, zq1, zq2, zq3]
          refine tkH 5 48 none (.pointer (some ⟨p, 9, none⟩)) rfl (by kernel_rfl) (fun _ _ _ h => h) (by rfl) (by intro W hW; go_simp) HC.out ?_
          simp only [Act.put, zq1, zq2, zq3]
          refine tkH 6 49 none (.map (some uf)) rfl (by kernel_rfl) (fun _ _ _ h => h) (by rfl) (by intro W hW; have hce : W.cell? ⟨p, 9, none⟩ = some (.map (some uf)) := HFP.out W hW; go_simp) HC.out ?_
          simp only [Act.put, zq1, zq2, zq3]
          refine tkH 7 50 none (.pointer (some ⟨pe, 1, none⟩)) rfl (by kernel_rfl) (fun _ _ _ h => h) (by rfl) (by intro W hW; go_simp) HC.out ?_
          simp only [Act.put, zq1, zq2, zq3]
          refine tkH 8 51 none (.int .i64 vi) rfl (by kernel_rfl) (fun _ _ _ h => h) (by rfl) (by intro W hW; have hce : W.cell? ⟨pe, 1, none⟩ = some (.int .i64 vi) := HE1.out W hW; go_simp) HC.out ?_
          simp only [Act.put, zq1, zq2, zq3]
          refine tkH 9 52 none (.tuple #[fv, .bool true]) rfl (by kernel_rfl) (fun _ _ _ h => h) (by rfl) (by intro W hW; refine (exec_lookupV_ok (.tmp 49) (.tmp 51) rfl 2 40 intK kI_inj Try.underlying33 (zBs W) uf _ (by rfl) (HMF.out W hW) vi (by exact HK.out)).trans ?_; rw [HFV.out, HFH.out]) HC.out ?_
          simp only [Act.put, zq1, zq2, zq3]
          refine tkH 10 42 none (.tuple #[fv, .bool true]) rfl (by kernel_rfl) (fun _ _ _ h => h) (by rfl) (by intro W hW; go_simp) HC.out ?_
          simp only [Act.put, zq1, zq2, zq3]
          refine tkH 11 53 none fv rfl (by kernel_rfl) (fun _ _ _ h => h) (by rfl) (by intro W hW; go_simp) HC.out ?_
          simp only [Act.put, zq1, zq2, zq3]
          refine tkH 12 54 none (.bool true) rfl (by kernel_rfl) (fun _ _ _ h => h) (by rfl) (by intro W hW; go_simp) HC.out ?_
          simp only [Act.put, zq1, zq2, zq3]
          refine tkH 13 7 none fv rfl (by kernel_rfl) (fun _ _ _ h => h) (by rfl) (by intro W hW; go_simp) HC.out ?_
          simp only [Act.put, zq1, zq2, zq3]
          refine tkH 14 8 none (.bool true) rfl (by kernel_rfl) (fun _ _ _ h => h) (by rfl) (by intro W hW; go_simp) HC.out ?_
          simp only [Act.put, zq1, zq2, zq3]
          refine wpAnyH_done (by decide +kernel) ?_ _
          go_wp2_with fail
          refine wp_region_held (S := fun W : World => Hold W L) (by kernel_rfl) ?_
          change wpAnyH _ _ _ _ _ _ _ _ (World.drew _)
          have HC := hI HC.out.drew
          refine tkH 0 55 none (.bool true) rfl (by kernel_rfl) (fun _ _ _ h => h) (by rfl) (by intro W hW; go_simp) HC.out ?_
          simp only [Act.put, zq1, zq2, zq3]
          refine tkH 1 56 none (.bool false) rfl (by kernel_rfl) (fun _ _ _ h => h) (by rfl) (by intro W hW; go_simp) HC.out ?_
          simp only [Act.put, zq1, zq2, zq3]
          refine tkH 2 57 none (.bool false) rfl (by kernel_rfl) (fun _ _ _ h => h) (by rfl) (by intro W hW; go_simp) HC.out ?_
          simp only [Act.put, zq1, zq2, zq3]
          refine tkH 3 58 (some (2, false)) fv rfl (by kernel_rfl) (fun _ _ _ h => h) (by rfl) (by intro W hW; go_simp) HC.out ?_
          simp only [Act.put, zq1, zq2, zq3]
          refine tkH 4 59 (some (2, false)) (.pointer (some ⟨pe, 3, none⟩)) rfl (by kernel_rfl) (fun _ _ _ h => h) (by rfl) (by intro W hW; go_simp) HC.out ?_
          simp only [Act.put, zq1, zq2, zq3]
          refine tkH 5 60 (some (2, false)) (.slice da vd.length dc) rfl (by kernel_rfl) (fun _ _ _ h => h) (by rfl) (by intro W hW; have hce : W.cell? ⟨pe, 3, none⟩ = some (.slice da vd.length dc) := HE3.out W hW; go_simp) HC.out ?_
          simp only [Act.put, zq1, zq2, zq3]
          refine anyH_ready (rs := [6]) (by decide +kernel) (by simp) ?_
          refine AllReadyH.cons (o := { dst := some 61, op := .call { callee := .value (.func 37), args := #[.tmp 58, .tmp 60], argTypes := #[40, 40] }, type := _, pos := _, after := _, guard := some (2, false) }) rfl (fun K hK => ?_) AllReadyH.nil
          rw [if_pos (by rfl)]
          go_simp
          refine (same_b fv (.slice da vd.length dc) vd vd _ (HFB.out _ HC.out) (HVB.out _ HC.out)).mono ?_
          rintro e ws ⟨rfl, hbs⟩
          have HC := hI (HC.out.step hbs)
          clear hbs
          rw [decide_eq_true (rfl : vd = vd)]
          go_simp
          refine hK _ _ HC.out ?_
          clear hK K
          try simp only [Act.put, zq1, zq2, zq3]
          refine tkH 7 62 (some (2, false)) (.bool false) rfl (by kernel_rfl) (fun _ _ _ h => h) (by rfl) (by intro W hW; go_simp) HC.out ?_
          simp only [Act.put, zq1, zq2, zq3]
          refine tkH 8 63 none (.bool false) rfl (by kernel_rfl) (fun _ _ _ h => h) (by rfl) (by intro W hW; go_simp) HC.out ?_
          simp only [Act.put, zq1, zq2, zq3]
          refine tkH 9 64 none (.bool false) rfl (by kernel_rfl) (fun _ _ _ h => h) (by rfl) (by intro W hW; go_simp) HC.out ?_
          simp only [Act.put, zq1, zq2, zq3]
          refine tkH 10 65 (some (9, false)) (.pointer (some ⟨p, 0, none⟩)) rfl (by kernel_rfl) (fun _ _ _ h => h) (by rfl) (by intro W hW; go_simp) HC.out ?_
          simp only [Act.put, zq1, zq2, zq3]
          refine tkH 11 66 (some (9, false)) (.int .i64 0) rfl (by kernel_rfl) (fun _ _ _ h => h) (by rfl) (by intro W hW; go_simp) HC.out ?_
          simp only [Act.put, zq1, zq2, zq3]
          refine tkH 12 67 (some (9, false)) (.pointer (some ⟨p, 0, none⟩)) rfl (by kernel_rfl) (fun _ _ _ h => h) (by rfl) (by intro W hW; go_simp) HC.out ?_
          simp only [Act.put, zq1, zq2, zq3]
          refine tkH 13 68 (some (9, false)) (.pointer (some ⟨p, 10, none⟩)) rfl (by kernel_rfl) (fun _ _ _ h => h) (by rfl) (by intro W hW; go_simp) HC.out ?_
          simp only [Act.put, zq1, zq2, zq3]
          refine tkH 14 69 (some (9, false)) (.pointer (some ⟨p, 10, none⟩)) rfl (by kernel_rfl) (fun _ _ _ h => h) (by rfl) (by intro W hW; go_simp) HC.out ?_
          simp only [Act.put, zq1, zq2, zq3]
          refine tkH 15 70 (some (9, false)) (.map (some zo)) rfl (by kernel_rfl) (fun _ _ _ h => h) (by rfl) (by intro W hW; have hce : W.cell? ⟨p, 10, none⟩ = some (.map (some zo)) := HOP.out W hW; go_simp) HC.out ?_
          simp only [Act.put, zq1, zq2, zq3]
          refine tkH 16 71 (some (9, false)) (.pointer (some ⟨pe, 1, none⟩)) rfl (by kernel_rfl) (fun _ _ _ h => h) (by rfl) (by intro W hW; go_simp) HC.out ?_
          simp only [Act.put, zq1, zq2, zq3]
          refine tkH 17 72 (some (9, false)) (.int .i64 vi) rfl (by kernel_rfl) (fun _ _ _ h => h) (by rfl) (by intro W hW; have hce : W.cell? ⟨pe, 1, none⟩ = some (.int .i64 vi) := HE1.out W hW; go_simp) HC.out ?_
          simp only [Act.put, zq1, zq2, zq3]
          refine tkH 18 73 (some (9, false)) (.int .i64 0) rfl (by kernel_rfl) (fun _ _ _ h => h) (by rfl) (by intro W hW; refine (exec_lookupV (.tmp 70) (.tmp 72) rfl 2 3 intK kI_inj Try.underlying35 (zNm W) zo _ (by rfl) (HMO.out W hW) vi (by exact HK.out)).trans ?_; rw [HOV.out]) HC.out ?_
          simp only [Act.put, zq1, zq2, zq3]
          refine tkH 19 74 (some (9, false)) (.bool false) rfl (by kernel_rfl) (fun _ _ _ h => h) (by rfl) (by intro W hW; go_simp) HC.out ?_
          simp only [Act.put, zq1, zq2, zq3]
          refine tkH 20 75 none (.bool false) rfl (by kernel_rfl) (fun _ _ _ h => h) (by rfl) (by intro W hW; go_simp) HC.out ?_
          simp only [Act.put, zq1, zq2, zq3]
          refine wpAnyH_done (by decide +kernel) ?_ _
          go_wp2_with fail
          have HS : Hid ((World.drew _).cell? ⟨p, 10, none⟩ = some (.map (some zo)) ∧ (World.drew _).cell? ⟨pe, 1, none⟩ = some (.int .i64 vi)) := hI ⟨HOP.out _ HC.out.drew, HE1.out _ HC.out.drew⟩
          refine wp_region_held (S := fun W : World => W.cell? ⟨p, 10, none⟩ = some (.map (some zo)) ∧ W.cell? ⟨pe, 1, none⟩ = some (.int .i64 vi)) (by kernel_rfl) ?_
          change wpAnyH _ _ _ _ _ _ _ _ (World.drew _)
          have HC := hI HC.out.drew
          refine tkH 0 76 none (.pointer (some ⟨p, 0, none⟩)) rfl (by kernel_rfl) (fun _ _ _ h => h) (by rfl) (by intro W hW; go_simp) HS.out ?_
          simp only [Act.put, zq1, zq2, zq3]
          refine tkH 1 77 none (.int .i64 0) rfl (by kernel_rfl) (fun _ _ _ h => h) (by rfl) (by intro W hW; go_simp) HS.out ?_
          simp only [Act.put, zq1, zq2, zq3]
          refine tkH 2 78 none (.pointer (some ⟨p, 0, none⟩)) rfl (by kernel_rfl) (fun _ _ _ h => h) (by rfl) (by intro W hW; go_simp) HS.out ?_
          simp only [Act.put, zq1, zq2, zq3]
          refine tkH 3 79 none (.pointer (some ⟨p, 10, none⟩)) rfl (by kernel_rfl) (fun _ _ _ h => h) (by rfl) (by intro W hW; go_simp) HS.out ?_
          simp only [Act.put, zq1, zq2, zq3]
          refine tkH 4 80 none (.pointer (some ⟨p, 10, none⟩)) rfl (by kernel_rfl) (fun _ _ _ h => h) (by rfl) (by intro W hW; go_simp) HS.out ?_
          simp only [Act.put, zq1, zq2, zq3]
          refine tkH 5 81 none (.map (some zo)) rfl (by kernel_rfl) (fun _ _ _ h => h) (by rfl) (by intro W hW; have hce : W.cell? ⟨p, 10, none⟩ = some (.map (some zo)) := hW.1; go_simp) HS.out ?_
          simp only [Act.put, zq1, zq2, zq3]
          refine tkH 6 82 none (.pointer (some ⟨pe, 1, none⟩)) rfl (by kernel_rfl) (fun _ _ _ h => h) (by rfl) (by intro W hW; go_simp) HS.out ?_
          simp only [Act.put, zq1, zq2, zq3]
          refine tkH 7 83 none (.int .i64 vi) rfl (by kernel_rfl) (fun _ _ _ h => h) (by rfl) (by intro W hW; have hce : W.cell? ⟨pe, 1, none⟩ = some (.int .i64 vi) := hW.2; go_simp) HS.out ?_
          simp only [Act.put, zq1, zq2, zq3]
          refine anyH_ready (rs := [8]) (by decide +kernel) (by simp) ?_
          refine AllReadyH.cons (o := { dst := some 84, op := .lookup 35 (.tmp 81) (.tmp 83) false, type := _, pos := _, after := _, guard := none }) rfl (fun K hK => ?_) AllReadyH.nil
          refine step_lookupV rfl (.tmp 81) (.tmp 83) rfl 2 3 intK kI_inj Try.underlying35 (zNm _) zo _ (by rfl) (HMO.out _ HC.out) vi (by exact HK.out) ?_
          rw [HOV.out]
          refine hK _ _ HS.out ?_
          clear hK K
          try simp only [Act.put, zq1, zq2, zq3]
          refine tkH 9 85 none (.int .i64 1) rfl (by kernel_rfl) (fun _ _ _ h => h) (by rfl) (by intro W hW; go_simp; try rfl) HS.out ?_
          simp only [Act.put, zq1, zq2, zq3]
          refine anyH_ready (rs := [10]) (by decide +kernel) (by simp) ?_
          refine AllReadyH.cons (o := { dst := none, op := .mapUpdate 35 (.tmp 81) (.tmp 83) (.tmp 85), type := _, pos := _, after := _, guard := none }) rfl (fun K hK => ?_) AllReadyH.nil
          refine step_updateV rfl (.tmp 81) (.tmp 83) (.tmp 85) rfl 2 3 intK kI_inj Try.underlying35 zo _ (by rfl) (HMO.out _ HC.out) HOL.out vi (by exact HK.out) ?_
          intro w9 hm9 hk9 hz9
          have hc9 := HC.out
          rw [HL.out] at hc9
          have HC9 := hI (Hold.mapVTurn (M' := putV (overM X.over) vi (.int .i64 ((1 : Nat) : Int))) hc9.pull3 hm9 hk9)
          have HS : Hid (w9.cell? ⟨p, 10, none⟩ = some (.map (some zo)) ∧ w9.cell? ⟨pe, 1, none⟩ = some (.int .i64 vi)) := hI ⟨HC9.out.tail.tail.tail.blk0.cell 10, HC9.out.tail.tail.tail.tail.blk0.cell 1⟩
          clear hm9 hk9 hz9 hc9
          refine hK _ _ HS.out ?_
          clear hK K
          try simp only [Act.put, zq1, zq2, zq3]
          refine wpAnyH_done (by decide +kernel) ?_ _
          have e9 := HC9.out
          rw [overM_put] at e9
          have h5 : Hold _ (filesR uf y.file :: mapV Try.prog 2 kI zo (overM (putV X.over vi 1)) :: _) := Hold.ex.2 ⟨fvs, Hold.app.2 e9.push3⟩
          have h7 := Hold.front (m := [_, _, _, _, _, _, _, _, _, _, _, _, _, _, _]) (l := l) h5.push4 [1, 6, 7, 8, 0, 9, 10, 3, 4, 11, 12, 13, 2, 14, 5] 15 (by decide)
          have h8 : Hold _ (restR p ⟨ze, zP, zs, zh, zf, zo⟩ ⟨ue, uP, us, uh, uf, uo⟩ ⟨X.app, X.said, X.hear, X.file, putV X.over vi 1⟩ y :: appR ze q zP X.app.app :: appR ue q uP y.app.app :: tabR q (.slice none 0 0) (.slice none 0 0) mp t :: .blk pe [.int .i64 5, .int .i64 vi, .string vt, .slice da vd.length dc] 54 :: .own 54 4 (.slice (some ⟨bl, ol, none⟩) es.length lc) es.length (logCells es ds) :: sumsR ds (es.map (·.data)) :: l) := restR_iff.2 h7
          have h9 := pairR_back (x := { X with over := putV X.over vi 1 }) (y := y) (E := X.app) (G := y.app) (z := ⟨ze, zP, zs, zh, zf, zo⟩) (u := ⟨ue, uP, us, uh, uf, uo⟩) (P1 := zP) (P2 := uP) h8.push4
          have HC10 := hI h9.swap.tail
          clear e9 h5 h7 h8 h9 HC9 HC HS
          go_wp2_with fail
          go_roundw
          case rel =>
            refine ⟨j + 1, by omega, by go_num, ?_⟩
            have e : lookE X ⟨5, vi, vt, vd⟩ = { X with over := putV X.over vi 1 } := by rw [lookE, if_neg (by simp), if_pos rfl]
            rw [HSTEP.out, e]
            exact HC10.out
          case measure => simp [intOf]; omega
        · by_cases hk4 : vk = 4
          · subst hk4
            have g1 := HLO.out.2 rfl
            simp only at g1
            have ho := HOK.out.both.a
            have gk : 1 ≤ vi ∧ vi ≤ x.app.id := by
              have h1 := ho.ovr vi
              rw [g1] at h1
              by_cases hc : hasV y.app.ins vi = true ∧ (getV y.app.ins vi InF.nil).st = 2
              · exact ho.ikeys vi hc.1
              · rw [if_neg hc] at h1
                omega
            have gi := HOK.out.bx.id
            have HK := hI (kI_key (n := vi) (by have := HNL.out; omega))
            have HOV : Hid (getV (overM y.over) vi (.int .i64 0) = .int .i64 1) := hI (by rw [overM_get, g1]; rfl)
            have hk5' : ((4 : Int) == 5) = false := by decide
            clear g1 gk gi hk0 hk5 ho
            go_wp2_with fail
            rw [← hpe]
            clear hpe
            refine wp_region_held (S := fun W : World => Hold W L) (by kernel_rfl) ?_
            change wpAnyH _ _ _ _ _ _ _ _ (World.drew _)
            have HC := hI HC.out.drew
            refine tkH 0 88 none (.pointer (some ⟨p, 0, none⟩)) rfl (by kernel_rfl) (fun _ _ _ h => h) (by rfl) (by intro W hW; go_simp) HC.out ?_
            simp only [Act.put, zq1, zq2, zq3]
            refine tkH 1 89 none (.int .i64 0) rfl (by kernel_rfl) (fun _ _ _ h => h) (by rfl) (by intro W hW; go_simp) HC.out ?_
            simp only [Act.put, zq1, zq2, zq3]
            refine tkH 2 90 none (.int .i64 1) rfl (by kernel_rfl) (fun _ _ _ h => h) (by rfl) (by intro W hW; go_simp; try rfl) HC.out ?_
            simp only [Act.put, zq1, zq2, zq3]
            refine tkH 3 91 none (.pointer (some ⟨p, 0, none⟩)) rfl (by kernel_rfl) (fun _ _ _ h => h) (by rfl) (by intro W hW; go_simp) HC.out ?_
            simp only [Act.put, zq1, zq2, zq3]
            refine tkH 4 92 none (.pointer (some ⟨p, 10, none⟩)) rfl (by kernel_rfl) (fun _ _ _ h => h) (by rfl) (by intro W hW; go_simp) HC.out ?_
            simp only [Act.put, zq1, zq2, zq3]
            refine tkH 5 93 none (.pointer (some ⟨p, 11, none⟩)) rfl (by kernel_rfl) (fun _ _ _ h => h) (by rfl) (by intro W hW; go_simp) HC.out ?_
            simp only [Act.put, zq1, zq2, zq3]
            refine tkH 6 94 none (.map (some uo)) rfl (by kernel_rfl) (fun _ _ _ h => h) (by rfl) (by intro W hW; have hce : W.cell? ⟨p, 11, none⟩ = some (.map (some uo)) := HUP.out W hW; go_simp) HC.out ?_
            simp only [Act.put, zq1, zq2, zq3]
            refine tkH 7 95 none (.pointer (some ⟨pe, 1, none⟩)) rfl (by kernel_rfl) (fun _ _ _ h => h) (by rfl) (by intro W hW; go_simp) HC.out ?_
            simp only [Act.put, zq1, zq2, zq3]
            refine tkH 8 96 none (.int .i64 vi) rfl (by kernel_rfl) (fun _ _ _ h => h) (by rfl) (by intro W hW; have hce : W.cell? ⟨pe, 1, none⟩ = some (.int .i64 vi) := HE1.out W hW; go_simp) HC.out ?_
            simp only [Act.put, zq1, zq2, zq3]
            refine tkH 9 97 none (.int .i64 1) rfl (by kernel_rfl) (fun _ _ _ h => h) (by rfl) (by intro W hW; refine (exec_lookupV (.tmp 94) (.tmp 96) rfl 2 3 intK kI_inj Try.underlying35 (zNm W) uo _ (by rfl) (HMU.out W hW) vi (by exact HK.out)).trans ?_; rw [HOV.out]) HC.out ?_
            simp only [Act.put, zq1, zq2, zq3]
            refine tkH 10 98 none (.bool false) rfl (by kernel_rfl) (fun _ _ _ h => h) (by rfl) (by intro W hW; go_simp) HC.out ?_
            simp only [Act.put, zq1, zq2, zq3]
            refine wpAnyH_done (by decide +kernel) ?_ _
            have e9 := HC.out
            rw [HL.out] at e9
            have h5 : Hold _ (filesR uf y.file :: _) := Hold.ex.2 ⟨fvs, Hold.app.2 e9⟩
            have h7 := Hold.front (m := [_, _, _, _, _, _, _, _, _, _, _, _, _, _, _]) (l := l) h5.push4 [1, 6, 7, 8, 0, 9, 10, 3, 4, 11, 12, 13, 2, 14, 5] 15 (by decide)
            have h8 : Hold _ (restR p ⟨ze, zP, zs, zh, zf, zo⟩ ⟨ue, uP, us, uh, uf, uo⟩ X y :: appR ze q zP X.app.app :: appR ue q uP y.app.app :: tabR q (.slice none 0 0) (.slice none 0 0) mp t :: .blk pe [.int .i64 4, .int .i64 vi, .string vt, .slice da vd.length dc] 54 :: .own 54 4 (.slice (some ⟨bl, ol, none⟩) es.length lc) es.length (logCells es ds) :: sumsR ds (es.map (·.data)) :: l) := restR_iff.2 h7
            have h9 := pairR_back (x := X) (y := y) (E := X.app) (G := y.app) (z := ⟨ze, zP, zs, zh, zf, zo⟩) (u := ⟨ue, uP, us, uh, uf, uo⟩) (P1 := zP) (P2 := uP) h8.push4
            have HC10 := hI h9.swap.tail
            clear e9 h5 h7 h8 h9 HC
            go_wp2_with fail
            go_roundw
            case rel =>
              refine ⟨j + 1, by omega, by go_num, ?_⟩
              rw [HSTEP.out, show lookE X ⟨4, vi, vt, vd⟩ = X from by rw [lookE, if_neg (by simp), if_neg (by simp)]]
              exact HC10.out
            case measure => simp [intOf]; omega
          · have hk5' : (vk == 5) = false := by simpa using hk5
            have hk4' : (vk == 4) = false := by simpa using hk4
            have HE := hI (show lookE X ⟨vk, vi, vt, vd⟩ = X by rw [lookE, if_neg hk0, if_neg hk5])
            clear hk0 hk5 hk4
            have e9 := HC.out
            rw [HL.out] at e9
            have h5 : Hold _ (filesR uf y.file :: _) := Hold.ex.2 ⟨fvs, Hold.app.2 e9⟩
            have h7 := Hold.front (m := [_, _, _, _, _, _, _, _, _, _, _, _, _, _, _]) (l := l) h5.push4 [1, 6, 7, 8, 0, 9, 10, 3, 4, 11, 12, 13, 2, 14, 5] 15 (by decide)
            have h8 : Hold _ (restR p ⟨ze, zP, zs, zh, zf, zo⟩ ⟨ue, uP, us, uh, uf, uo⟩ X y :: appR ze q zP X.app.app :: appR ue q uP y.app.app :: tabR q (.slice none 0 0) (.slice none 0 0) mp t :: .blk pe [.int .i64 vk, .int .i64 vi, .string vt, .slice da vd.length dc] 54 :: .own 54 4 (.slice (some ⟨bl, ol, none⟩) es.length lc) es.length (logCells es ds) :: sumsR ds (es.map (·.data)) :: l) := restR_iff.2 h7
            have h9 := pairR_back (x := X) (y := y) (E := X.app) (G := y.app) (z := ⟨ze, zP, zs, zh, zf, zo⟩) (u := ⟨ue, uP, us, uh, uf, uo⟩) (P1 := zP) (P2 := uP) h8.push4
            have HC10 := hI h9.swap.tail
            clear e9 h5 h7 h8 h9 HC
            go_wp2_with fail
            go_roundw
            case rel =>
              refine ⟨j + 1, by omega, by go_num, ?_⟩
              rw [HSTEP.out, HE.out]
              exact HC10.out
            case measure => simp [intOf]; omega
    · obtain rfl : j = es.length := by omega
      go_wp2_with fail
      go_ret
      refine ⟨rfl, ?_⟩
      have := HC.out
      rw [List.take_length] at this
      have e : lookL (bare x) es = lookW x := by rw [HES.out]; rfl
      rw [e] at this
      exact this.swap.tail.swap.tail
set_option maxRecDepth 100000 in
set_option maxHeartbeats 8000000 in
theorem look1_any (p q : Nat) (mp : Value) (t : Sums) (x y : SideF) (n pp : Nat) (l : List Res) (w : World) (h : Hold w (pairR p q mp t y x :: l)) (hok : Ok n pp t x y) (hn : n ≤ 1000000) (hlk : lookOks y (bare x) x.app.log) (hhe : x.hear.length ≤ 1000000) (hov : x.over.length ≤ 549755813888) :
    Calls Try.prog 14 #[.pointer (some ⟨p, 0, none⟩), .int .i64 1] w fun e w' => e = .returned (.bool true) ∧ Hold w' (pairR p q mp t y (lookW x) :: l) := by
  obtain ⟨z, u, h⟩ := pairR_twoS h
  have hb := restR_blk (p := p) (z := u) (u := z) (x := y) (y := x) h (by simp)
  have c0 : w.cell? ⟨p, 1, none⟩ = some (.pointer (some ⟨z.e, 0, none⟩)) := hb.cell 1
  have HN := hI (appEvents_any z.e q z.P x.app.app _ w h)
  have HLK := hI hlk
  have HOK := hI hok
  have HNL := hI hn
  have HHE := hI hhe
  have HVL := hI hov
  clear hhe hov
  obtain ⟨es, hes⟩ : ∃ es, es = x.app.app.log := ⟨_, rfl⟩
  have HES : Hid (es = x.app.log) := hI hes
  rw [← hes] at HN
  have hel : es.length ≤ 1000000 := by rw [hes]; exact Nat.le_trans hok.bx.log hn
  clear h hb hes hok hlk hn
  go_enter Try.func14, Try.ntmps14
  go_wp2_with ((with_reducible show Calls _ _ #[_] _ _); refine HN.out.mono ?_)
  rintro e w2 ⟨v, rfl, hc⟩
  obtain ⟨ds, hc⟩ := logR_open hc.swap
  obtain ⟨la, lc, hvf, hlc, hlm⟩ := hc.own0.1.sl.form
  subst hvf
  have hds : ds.length = es.length := by simpa using sumsR_len hc.tail
  have HDS := hI hds
  have HC : Hid (Hold w2 (pairR p q mp t y (bare x) :: .own 54 4 (.slice la es.length lc) es.length (logCells es ds) :: sumsR ds (es.map (·.data)) :: l)) := by
    have h0 : Hold w2 (([.own 54 4 (.slice la es.length lc) es.length (logCells es ds), sumsR ds (es.map (·.data)), appR z.e q z.P (EndW.app { x.app with log := [] }), appR u.e q u.P y.app.app, tabR q (.slice none 0 0) (.slice none 0 0) mp t, restR p u z y x] : List Res) ++ l) := hc
    have h1 := h0.front [2, 3, 4, 5, 0, 1] 6 (by decide)
    exact hI (pairR_backS h1)
  clear hc hds hlc HN
  go_wp2_with fail
  go_loopw [17] (fun i wr => ∃ j : Nat, j ≤ es.length ∧ i = .int .i64 j ∧ Hold wr (pairR p q mp t y (lookL (bare x) (es.take j)) :: .own 54 4 (.slice la es.length lc) es.length (logCells es ds) :: sumsR ds (es.map (·.data)) :: l)) (fun i _ => es.length - (intOf i).toNat)
  case atStart => exact ⟨0, Nat.zero_le _, rfl, HC.out⟩
  case round =>
    obtain ⟨j, hj, rfl, hr⟩ := hrel
    have HC := hI hr
    clear hr
    by_cases hlt : j < es.length
    · have hji : (j : Int) < es.length := by omega
      have hok := lookOks_at (es := es) (by rw [HES.out]; exact HLK.out) j hlt
      have HSTEP : Hid (lookL (bare x) (es.take (j + 1)) = lookE (lookL (bare x) (es.take j)) es[j]) := hI (lookL_take es j hlt _)
      have hXh := lookL_hear (es.take j) (bare x)
      have hXo := lookL_over (es.take j) (bare x)
      obtain ⟨X, hX⟩ : ∃ X, X = lookL (bare x) (es.take j) := ⟨_, rfl⟩
      rw [← hX] at HC HSTEP hok hXh hXo
      have HOL : Hid ((overM X.over).length < maxLen) := hI (by
        rw [List.length_take] at hXo
        have h2 : (bare x).over.length ≤ 549755813888 := HVL.out
        unfold overM maxLen
        rw [List.length_map]
        omega)
      clear hXo
      have hXh : X.hear.length ≤ 2000000 := by
        refine Nat.le_trans hXh ?_
        rw [List.length_take]
        have := HHE.out
        show x.hear.length + _ ≤ _
        omega
      clear hX
      have hd : j < ds.length := by rw [HDS.out]; exact hlt
      have hown := HC.out.swap.own0.1
      obtain ⟨bl, ol, hal, hcell⟩ := hown.sl.addr (by rw [hown.sl.1]; omega)
      subst hal
      have hel : ∀ (i : Nat) u, (evCells ds[j] es[j])[i]? = some u → wr.cell? ⟨bl, ol + j * 4 + i, none⟩ = some u := by
        intro i u hi
        have hi' : i < 4 := by have := (List.getElem?_eq_some_iff.1 hi).1; simpa [evCells] using this
        have := hcell (j * 4 + i) u (by rw [logCells_at j hlt HDS.out i hi']; exact hi)
        rw [Nat.add_assoc]
        exact this
      obtain ⟨v, hv⟩ : ∃ v, v = es[j] := ⟨_, rfl⟩
      obtain ⟨dv, hdv⟩ : ∃ dv, dv = ds[j] := ⟨_, rfl⟩
      have hbs : Bs wr dv v.data := by
        have := sumsR_at HC.out.pull3 j (v := dv) (r := v.data) (by rw [hdv]; exact List.getElem?_eq_getElem hd) (by rw [hv, List.getElem?_map, List.getElem?_eq_getElem hlt]; rfl)
        exact this
      obtain ⟨da, dc, hdf, -, -⟩ := hbs.form
      rw [← hv, ← hdv, hdf] at hel
      rw [← hv] at HSTEP hok
      rw [hdf] at hbs
      have HBS := hI hbs
      obtain ⟨vk, vi, vt, vd⟩ := v
      have e0 := hel 0 (.int .i64 vk) rfl
      have e1 := hel 1 (.int .i64 vi) rfl
      have e2 := hel 2 (.string vt) rfl
      have e3 := hel 3 (.slice da vd.length dc) rfl
      rw [Nat.add_zero] at e0
      have HLO := hI hok
      have HDV : Hid (ds[j]? = some (.slice da vd.length dc) ∧ (es.map (·.data))[j]? = some vd) := hI ⟨by rw [List.getElem?_eq_getElem hd, ← hdv, hdf], by rw [List.getElem?_map, List.getElem?_eq_getElem hlt, ← hv]; rfl⟩
      have HC := hI (HC.out.addBlk [.int .i64 vk, .int .i64 vi, .string vt, .slice da vd.length dc] 54)
      clear hown hcell hel hv hdv hdf hd hok hbs
      obtain ⟨pe, hpe⟩ : ∃ pe, pe = wr.heap.size := ⟨_, rfl⟩
      obtain ⟨z2, u2, h2⟩ := pairR_twoS HC.out.swap
      obtain ⟨ze, zP, zs, zh, zf, zo⟩ := z2
      obtain ⟨ue, uP, us, uh, uf, uo⟩ := u2
      rw [← hpe] at h2
      -- blk p, own and other things (8), ends, table, blk pe, events
      have h3 := restR_iff.1 h2.pull4
      have HSZ : Hid (pe = wr.heap.size) := hI hpe
      clear h2 HC
      by_cases hk0 : vk = 0
      · subst hk0
        have h4 : Hold _ (strsR zh X.hear :: .blk p (pairC ⟨ue, uP, us, uh, uf, uo⟩ ⟨ze, zP, zs, zh, zf, zo⟩) 38 :: .blk pe [.int .i64 0, .int .i64 vi, .string vt, .slice da vd.length dc] 54 :: _) := Hold.front (m := [_, _, _, _, _, _, _, _, _, _, _, _, _, _, _]) (l := l) h3 [6, 0, 12, 1, 2, 3, 4, 5, 7, 8, 9, 10, 11, 13, 14] 15 (by decide)
        obtain ⟨ha, hcap, hvf, -, -⟩ := h4.own0.1.sl.form
        subst hvf
        obtain ⟨hl, hhl⟩ : ∃ hl, hl = X.hear := ⟨_, rfl⟩
        have HHL : Hid (hl.length ≤ 1099511627776) := hI (by rw [hhl]; omega)
        have HLE : Hid (hl = X.hear) := hI hhl
        rw [← hhl] at h4
        clear hhl hXh
        have HR := hI h4.drew
        clear h3 h4
        go_wp2_with fail
        rw [← hpe]
        clear hpe
        obtain ⟨wd, hwd⟩ : ∃ wd, wd = (wr.alloc (.cells #[.int .i64 0, .int .i64 vi, .string vt, .slice da vd.length dc] 54)).drew := ⟨_, rfl⟩
        rw [← hwd] at HR
        have HPE : Hid (wd.cell? ⟨pe, 2, none⟩ = some (.string vt)) := hI (HR.out.tail.tail.blk0.cell 2)
        have HCH : Hid (wd.cell? ⟨p, 7, none⟩ = some (.slice ha hl.length hcap)) := hI (HR.out.tail.blk0.cell 7)
        refine wp_region_held (S := fun W : World => W.cell? ⟨pe, 2, none⟩ = some (.string vt)) (by kernel_rfl) ?_
        change wpAnyH _ _ _ _ _ _ _ _ (World.drew _)
        rw [← hwd]
        clear hwd
        refine tkH 0 25 none (.pointer (some ⟨p, 0, none⟩)) rfl (by kernel_rfl) (fun _ _ _ h => h) (by rfl) (by intro W hW; go_simp) HPE.out ?_
        simp only [Act.put, zq1, zq2, zq3]
        refine tkH 1 26 none (.int .i64 1) rfl (by kernel_rfl) (fun _ _ _ h => h) (by rfl) (by intro W hW; go_simp) HPE.out ?_
        simp only [Act.put, zq1, zq2, zq3]
        refine tkH 2 27 none (.pointer (some ⟨p, 0, none⟩)) rfl (by kernel_rfl) (fun _ _ _ h => h) (by rfl) (by intro W hW; go_simp) HPE.out ?_
        simp only [Act.put, zq1, zq2, zq3]
        refine tkH 3 28 none (.int .i64 1) rfl (by kernel_rfl) (fun _ _ _ h => h) (by rfl) (by intro W hW; go_simp) HPE.out ?_
        simp only [Act.put, zq1, zq2, zq3]
        refine tkH 4 29 none (.pointer (some ⟨p, 0, none⟩)) rfl (by kernel_rfl) (fun _ _ _ h => h) (by rfl) (by intro W hW; go_simp) HPE.out ?_
        simp only [Act.put, zq1, zq2, zq3]
        refine tkH 5 30 none (.pointer (some ⟨p, 6, none⟩)) rfl (by kernel_rfl) (fun _ _ _ h => h) (by rfl) (by intro W hW; go_simp) HPE.out ?_
        simp only [Act.put, zq1, zq2, zq3]
        refine tkH 6 31 none (.pointer (some ⟨p, 7, none⟩)) rfl (by kernel_rfl) (fun _ _ _ h => h) (by rfl) (by intro W hW; go_simp) HPE.out ?_
        simp only [Act.put, zq1, zq2, zq3]
        refine tkH 8 33 none (.pointer (some ⟨pe, 2, none⟩)) rfl (by kernel_rfl) (fun _ _ _ h => h) (by rfl) (by intro W hW; go_simp) HPE.out ?_
        simp only [Act.put, zq1, zq2, zq3]
        refine tkH 9 34 none (.string vt) rfl (by kernel_rfl) (fun _ _ _ h => h) (by rfl) (by intro W hW; have hce : W.cell? ⟨pe, 2, none⟩ = some (.string vt) := hW; go_simp) HPE.out ?_
        simp only [Act.put, zq1, zq2, zq3]
        refine tkH 12 37 none (.pointer (some ⟨p, 0, none⟩)) rfl (by kernel_rfl) (fun _ _ _ h => h) (by rfl) (by intro W hW; go_simp) HPE.out ?_
        simp only [Act.put, zq1, zq2, zq3]
        refine tkH 13 38 none (.pointer (some ⟨p, 6, none⟩)) rfl (by kernel_rfl) (fun _ _ _ h => h) (by rfl) (by intro W hW; go_simp) HPE.out ?_
        simp only [Act.put, zq1, zq2, zq3]
        refine anyH_ready (rs := [7, 10]) (by decide +kernel) (by simp) ?_
        refine AllReadyH.cons (o := { dst := some 32, op := .load 31 (.tmp 31), type := _, pos := _, after := _, guard := none }) rfl (fun K hK => ?_) (AllReadyH.cons (o := { dst := some 35, op := .buildSlice 31 1 #[(0, .tmp 34)], type := _, pos := _, after := _, guard := none }) rfl (fun K hK => ?_) AllReadyH.nil)
        · have hch := HCH.out
          go_simp
          clear hch
          refine hK _ _ HPE.out ?_
          clear hK K
          try simp only [Act.put, zq1, zq2, zq3]
          refine anyH_ready (rs := [10]) (by decide +kernel) (by simp) ?_
          refine AllReadyH.cons (o := { dst := some 35, op := .buildSlice 31 1 #[(0, .tmp 34)], type := _, pos := _, after := _, guard := none }) rfl (fun K hK => ?_) AllReadyH.nil
          go_simp
          have HA := hI (HR.out.alloc (.cells #[.string vt] 9))
          have HSL : Hid (Sl (wd.alloc (.cells #[.string vt] 9)) 1 (.slice (some ⟨wd.heap.size, 0, none⟩) 1 1) 1 [.string vt]) := hI (Sl.lit rfl rfl (by simp [Value.oneCell']) (by unfold maxLen; decide))
          have HPE : Hid ((wd.alloc (.cells #[.string vt] 9)).cell? ⟨pe, 2, none⟩ = some (.string vt)) := hI (HA.out.tail.tail.blk0.cell 2)
          have HCH : Hid ((wd.alloc (.cells #[.string vt] 9)).cell? ⟨p, 7, none⟩ = some (.slice ha hl.length hcap)) := hI (HA.out.tail.blk0.cell 7)
          refine hK _ _ HPE.out ?_
          clear hK K
          try simp only [Act.put, zq1, zq2, zq3]
          refine anyH_ready (rs := [11]) (by decide +kernel) (by simp) ?_
          refine AllReadyH.cons (o := { dst := some 36, op := .call { callee := .builtin .append, args := #[.tmp 32, .tmp 35], argTypes := #[31, 31] }, type := _, pos := _, after := _, guard := none }) rfl (fun K hK => ?_) AllReadyH.nil
          refine step_app2 rfl (.tmp 32) (.tmp 35) elStr rfl 0 (v := .slice ha hl.length hcap) (by simp [Act.eval]) HA.out.own0.1 HA.out.own0.2 (u := .slice (some ⟨wd.heap.size, 0, none⟩) 1 1) (by simp [Act.eval]) HSL.out (by have := HHL.out; unfold maxLen; omega) (by have := HHL.out; omega) (Nat.zero_le _) ?_
          intro v' w5 ho hkk hvv
          have hc5 := HA.out.append (B := 0) ho (hkk.mono fun k h => by simpa using h) (fun k h => by simpa using hvv k h)
          obtain ⟨va5, vc5, hvf5, _⟩ := ho.sl.form
          subst hvf5
          have HC5 := hI hc5
          have HPE : Hid (w5.cell? ⟨pe, 2, none⟩ = some (.string vt)) := hI (HC5.out.tail.tail.blk0.cell 2)
          clear ho hkk hvv hc5
          refine hK _ _ HPE.out ?_
          clear hK K
          try simp only [Act.put, zq1, zq2, zq3]
          refine tkH 14 39 none (.pointer (some ⟨p, 7, none⟩)) rfl (by kernel_rfl) (fun _ _ _ h => h) (by rfl) (by intro W hW; go_simp) HPE.out ?_
          simp only [Act.put, zq1, zq2, zq3]
          refine anyH_ready (rs := [15]) (by decide +kernel) (by simp) ?_
          refine AllReadyH.cons (o := { dst := none, op := .store 31 (.tmp 39) (.tmp 36), type := _, pos := _, after := _, guard := none }) rfl (fun K hK => ?_) AllReadyH.nil
          have hch := HC5.out.tail.blk0.cell 7
          have hcf := HC5.out.tail.blk0.frozen 7
          simp only [pairC, List.getElem?_cons_zero, List.getElem?_cons_succ] at hch
          go_simp
          clear hch hcf
          have HC6 := hI (HC5.out.swap.set 7 (.slice va5 (hl.length + 1) vc5))
          have HPE : Hid ((w5.setCell ⟨p, 7, none⟩ (.slice va5 (hl.length + 1) vc5)).cell? ⟨pe, 2, none⟩ = some (.string vt)) := hI (HC6.out.tail.tail.blk0.cell 2)
          refine hK _ _ HPE.out ?_
          clear hK K
          try simp only [Act.put, zq1, zq2, zq3]
          refine wpAnyH_done (by decide +kernel) ?_ _
          have h7 := Hold.front (m := [_, _, _, _, _, _, _, _, _, _, _, _, _, _, _]) (l := l) HC6.out.swap [1, 3, 4, 5, 6, 7, 0, 8, 9, 10, 11, 12, 2, 13, 14] 15 (by decide)
          have e7 : strsR (.slice va5 (hl.length + 1) vc5) (hl ++ [vt]) = .own 9 1 (.slice va5 (hl.length + 1) vc5) (hl.length + 1) (hl.map strC ++ [.string vt]) := by simp [strsR, strC]
          have h8 : Hold _ (restR p ⟨ue, uP, us, uh, uf, uo⟩ ⟨ze, zP, zs, .slice va5 (hl.length + 1) vc5, zf, zo⟩ y ⟨X.app, X.said, hl ++ [vt], X.file, X.over⟩ :: appR ze q zP X.app.app :: appR ue q uP y.app.app :: tabR q (.slice none 0 0) (.slice none 0 0) mp t :: .blk pe [.int .i64 0, .int .i64 vi, .string vt, .slice da vd.length dc] 54 :: .own 54 4 (.slice (some ⟨bl, ol, none⟩) es.length lc) es.length (logCells es ds) :: sumsR ds (es.map (·.data)) :: l) := restR_iff.2 (by rw [e7]; exact h7)
          have h9 := pairR_backS (x := { X with hear := hl ++ [vt] }) (y := y) (E := X.app) (G := y.app) (z := ⟨ze, zP, zs, .slice va5 (hl.length + 1) vc5, zf, zo⟩) (u := ⟨ue, uP, us, uh, uf, uo⟩) (P1 := zP) (P2 := uP) h8.push4
          have HC9 := hI h9.swap.tail
          clear h7 e7 h8 h9 HC6 HPE HCH HA HSL HR HC5
          go_wp2_with fail
          go_roundw
          case rel =>
            refine ⟨j + 1, by omega, by go_num, ?_⟩
            have e : lookE X ⟨0, vi, vt, vd⟩ = { X with hear := hl ++ [vt] } := by rw [lookE, if_pos rfl, HLE.out]
            rw [HSTEP.out, e]
            exact HC9.out
          case measure => simp [intOf]; omega
        · go_simp
          have HA := hI (HR.out.alloc (.cells #[.string vt] 9))
          have HSL : Hid (Sl (wd.alloc (.cells #[.string vt] 9)) 1 (.slice (some ⟨wd.heap.size, 0, none⟩) 1 1) 1 [.string vt]) := hI (Sl.lit rfl rfl (by simp [Value.oneCell']) (by unfold maxLen; decide))
          have HPE : Hid ((wd.alloc (.cells #[.string vt] 9)).cell? ⟨pe, 2, none⟩ = some (.string vt)) := hI (HA.out.tail.tail.blk0.cell 2)
          have HCH : Hid ((wd.alloc (.cells #[.string vt] 9)).cell? ⟨p, 7, none⟩ = some (.slice ha hl.length hcap)) := hI (HA.out.tail.blk0.cell 7)
          refine hK _ _ HPE.out ?_
          clear hK K
          try simp only [Act.put, zq1, zq2, zq3]
          refine anyH_ready (rs := [7]) (by decide +kernel) (by simp) ?_
          refine AllReadyH.cons (o := { dst := some 32, op := .load 31 (.tmp 31), type := _, pos := _, after := _, guard := none }) rfl (fun K hK => ?_) AllReadyH.nil
          have hch := HCH.out
          go_simp
          clear hch
          refine hK _ _ HPE.out ?_
          clear hK K
          try simp only [Act.put, zq1, zq2, zq3]
          refine anyH_ready (rs := [11]) (by decide +kernel) (by simp) ?_
          refine AllReadyH.cons (o := { dst := some 36, op := .call { callee := .builtin .append, args := #[.tmp 32, .tmp 35], argTypes := #[31, 31] }, type := _, pos := _, after := _, guard := none }) rfl (fun K hK => ?_) AllReadyH.nil
          refine step_app2 rfl (.tmp 32) (.tmp 35) elStr rfl 0 (v := .slice ha hl.length hcap) (by simp [Act.eval]) HA.out.own0.1 HA.out.own0.2 (u := .slice (some ⟨wd.heap.size, 0, none⟩) 1 1) (by simp [Act.eval]) HSL.out (by have := HHL.out; unfold maxLen; omega) (by have := HHL.out; omega) (Nat.zero_le _) ?_
          intro v' w5 ho hkk hvv
          have hc5 := HA.out.append (B := 0) ho (hkk.mono fun k h => by simpa using h) (fun k h => by simpa using hvv k h)
          obtain ⟨va5, vc5, hvf5, _⟩ := ho.sl.form
          subst hvf5
          have HC5 := hI hc5
          have HPE : Hid (w5.cell? ⟨pe, 2, none⟩ = some (.string vt)) := hI (HC5.out.tail.tail.blk0.cell 2)
          clear ho hkk hvv hc5
          refine hK _ _ HPE.out ?_
          clear hK K
          try simp only [Act.put, zq1, zq2, zq3]
          refine tkH 14 39 none (.pointer (some ⟨p, 7, none⟩)) rfl (by kernel_rfl) (fun _ _ _ h => h) (by rfl) (by intro W hW; go_simp) HPE.out ?_
          simp only [Act.put, zq1, zq2, zq3]
          refine anyH_ready (rs := [15]) (by decide +kernel) (by simp) ?_
          refine AllReadyH.cons (o := { dst := none, op := .store 31 (.tmp 39) (.tmp 36), type := _, pos := _, after := _, guard := none }) rfl (fun K hK => ?_) AllReadyH.nil
          have hch := HC5.out.tail.blk0.cell 7
          have hcf := HC5.out.tail.blk0.frozen 7
          simp only [pairC, List.getElem?_cons_zero, List.getElem?_cons_succ] at hch
          go_simp
          clear hch hcf
          have HC6 := hI (HC5.out.swap.set 7 (.slice va5 (hl.length + 1) vc5))
          have HPE : Hid ((w5.setCell ⟨p, 7, none⟩ (.slice va5 (hl.length + 1) vc5)).cell? ⟨pe, 2, none⟩ = some (.string vt)) := hI (HC6.out.tail.tail.blk0.cell 2)
          refine hK _ _ HPE.out ?_
          clear hK K
          try simp only [Act.put, zq1, zq2, zq3]
          refine wpAnyH_done (by decide +kernel) ?_ _
          have h7 := Hold.front (m := [_, _, _, _, _, _, _, _, _, _, _, _, _, _, _]) (l := l) HC6.out.swap [1, 3, 4, 5, 6, 7, 0, 8, 9, 10, 11, 12, 2, 13, 14] 15 (by decide)
          have e7 : strsR (.slice va5 (hl.length + 1) vc5) (hl ++ [vt]) = .own 9 1 (.slice va5 (hl.length + 1) vc5) (hl.length + 1) (hl.map strC ++ [.string vt]) := by simp [strsR, strC]
          have h8 : Hold _ (restR p ⟨ue, uP, us, uh, uf, uo⟩ ⟨ze, zP, zs, .slice va5 (hl.length + 1) vc5, zf, zo⟩ y ⟨X.app, X.said, hl ++ [vt], X.file, X.over⟩ :: appR ze q zP X.app.app :: appR ue q uP y.app.app :: tabR q (.slice none 0 0) (.slice none 0 0) mp t :: .blk pe [.int .i64 0, .int .i64 vi, .string vt, .slice da vd.length dc] 54 :: .own 54 4 (.slice (some ⟨bl, ol, none⟩) es.length lc) es.length (logCells es ds) :: sumsR ds (es.map (·.data)) :: l) := restR_iff.2 (by rw [e7]; exact h7)
          have h9 := pairR_backS (x := { X with hear := hl ++ [vt] }) (y := y) (E := X.app) (G := y.app) (z := ⟨ze, zP, zs, .slice va5 (hl.length + 1) vc5, zf, zo⟩) (u := ⟨ue, uP, us, uh, uf, uo⟩) (P1 := zP) (P2 := uP) h8.push4
          have HC9 := hI h9.swap.tail
          clear h7 e7 h8 h9 HC6 HPE HCH HA HSL HR HC5
          go_wp2_with fail
          go_roundw
          case rel =>
            refine ⟨j + 1, by omega, by go_num, ?_⟩
            have e : lookE X ⟨0, vi, vt, vd⟩ = { X with hear := hl ++ [vt] } := by rw [lookE, if_pos rfl, HLE.out]
            rw [HSTEP.out, e]
            exact HC9.out
          case measure => simp [intOf]; omega
      · have hk0' : (vk == 0) = false := by simpa using hk0
        clear hXh
        -- over, blk p, blk pe, the other's files and over, the rest
        have h4 : Hold _ (mapV Try.prog 2 kI zo (overM X.over) :: .blk p (pairC ⟨ue, uP, us, uh, uf, uo⟩ ⟨ze, zP, zs, zh, zf, zo⟩) 38 :: .blk pe [.int .i64 vk, .int .i64 vi, .string vt, .slice da vd.length dc] 54 :: filesR uf y.file :: mapV Try.prog 2 kI uo (overM y.over) :: sumsR ds (es.map (·.data)) :: _) := Hold.front (m := [_, _, _, _, _, _, _, _, _, _, _, _, _, _, _]) (l := l) h3 [8, 0, 12, 3, 4, 14, 1, 2, 5, 6, 7, 9, 10, 11, 13] 15 (by decide)
        obtain ⟨fvs, h5⟩ := Hold.ex.1 h4.pull4
        have h6 := Hold.app.1 h5
        have hfl : fvs.length = y.file.length := by simpa using sumsR_len h6.tail
        obtain ⟨L, hc6, hL⟩ := abs_list h6
        have HL := hI hL
        have HOP : Hid (∀ W, Hold W L → W.cell? ⟨p, 11, none⟩ = some (.map (some zo))) := hI (fun W h => by rw [hL] at h; exact h.tail.tail.tail.blk0.cell 11)
        have HUP : Hid (∀ W, Hold W L → W.cell? ⟨p, 10, none⟩ = some (.map (some uo))) := hI (fun W h => by rw [hL] at h; exact h.tail.tail.tail.blk0.cell 10)
        have HFP : Hid (∀ W, Hold W L → W.cell? ⟨p, 8, none⟩ = some (.map (some uf))) := hI (fun W h => by rw [hL] at h; exact h.tail.tail.tail.blk0.cell 8)
        have HE1 : Hid (∀ W, Hold W L → W.cell? ⟨pe, 1, none⟩ = some (.int .i64 vi)) := hI (fun W h => by rw [hL] at h; exact h.tail.tail.tail.tail.blk0.cell 1)
        have HE3 : Hid (∀ W, Hold W L → W.cell? ⟨pe, 3, none⟩ = some (.slice da vd.length dc)) := hI (fun W h => by rw [hL] at h; exact h.tail.tail.tail.tail.blk0.cell 3)
        have HMF : Hid (∀ W, Hold W L → MapAt Try.prog 2 kI W uf (rowM fvs y.file)) := hI (fun W h => by rw [hL] at h; exact h.mapVOf List.mem_cons_self)
        have HMO : Hid (∀ W, Hold W L → MapAt Try.prog 2 kI W zo (overM X.over)) := hI (fun W h => by rw [hL] at h; exact h.tail.tail.mapVOf List.mem_cons_self)
        have HMU : Hid (∀ W, Hold W L → MapAt Try.prog 2 kI W uo (overM y.over)) := hI (fun W h => by rw [hL] at h; exact h.tail.tail.tail.tail.tail.mapVOf List.mem_cons_self)
        have HRS : Hid (∀ W, Hold W L → ∀ z k, hasV y.file k = true → Bs W (getV (rowM fvs y.file) k z) (getV y.file k [])) := hI (fun W h z k hk => by rw [hL] at h; exact rowM_get h.tail k hk)
        have HVB : Hid (∀ W, Hold W L → Bs W (.slice da vd.length dc) vd) := hI (fun W h => by rw [hL] at h; exact sumsR_at h.tail.tail.tail.tail.tail.tail j HDV.out.1 HDV.out.2)
        have HC : Hid (Hold _ L) := hI hc6
        have HFL := hI hfl
        clear h3 h4 h5 h6 hc6 hL hfl
        by_cases hk5 : vk = 5
        · subst hk5
          obtain ⟨g1, g2, g3⟩ := HLO.out.1 rfl
          simp only at g1 g2 g3
          have gk := (hasV_ids HOK.out.both.b.fkeys vi).1 g1
          have gi := HOK.out.bY.id
          have HK := hI (kI_key (n := vi) (by have := HNL.out; omega))
          have HFH : Hid (hasV (rowM fvs y.file) vi = true) := hI (by rw [rowM_has HFL.out]; exact g1)
          obtain ⟨fv, hfv⟩ : ∃ fv, fv = getV (rowM fvs y.file) vi (.slice none 0 0) := ⟨_, rfl⟩
          have HFV : Hid (getV (rowM fvs y.file) vi (.slice none 0 0) = fv) := hI hfv.symm
          have HFB : Hid (∀ W, Hold W L → Bs W fv vd) := hI (fun W h => by rw [hfv, ← g2]; exact HRS.out W h _ vi g1)
          have HOV : Hid (getV (overM X.over) vi (.int .i64 0) = .int .i64 0) := hI (by rw [overM_get, g3]; rfl)
          clear g1 g2 g3 gk gi hfv hk0
          go_wp2_with fail
          rw [← hpe]
          clear hpe
          refine wp_region_held (S := fun W : World => Hold W L) (by kernel_rfl) ?_
          change wpAnyH _ _ _ _ _ _ _ _ (World.drew _)
          have HC := hI HC.out.drew
          refine tkH 0 43 none (.pointer (some ⟨p, 0, none⟩)) rfl (by kernel_rfl) (fun _ _ _ h => h) (by rfl) (by intro W hW; go_simp) HC.out ?_
          simp only [Act.put, zq1, zq2, zq3]
          refine tkH 1 44 none (.int .i64 1) rfl (by kernel_rfl) (fun _ _ _ h => h) (by rfl) (by intro W hW; go_simp) HC.out ?_
          simp only [Act.put, zq1, zq2, zq3]
          refine tkH 2 45 none (.int .i64 0) rfl (by kernel_rfl) (fun _ _ _ h => h) (by rfl) (by intro W hW; go_simp; try rfl) HC.out ?_
          simp only [Act.put, zq1, zq2, zq3]
          refine tkH 3 46 none (.pointer (some ⟨p, 0, none⟩)) rfl (by kernel_rfl) (fun _ _ _ h => h) (by rfl) (by intro W hW; go_simp) HC.out ?_
          simp only [Act.put, zq1, zq2, zq3]
          refine tkH 4 47 none (.pointer (some ⟨p, 8, none⟩)) rfl (by kernel_rfl) (fun _ _ _ h => h) (by rfl) (by intro W hW; go_simp) HC.out ?_
          simp only [Act.put, zq1, zq2, zq3]
          refine tkH 5 48 none (.pointer (some ⟨p, 8, none⟩)) rfl (by kernel_rfl) (fun _ _ _ h => h) (by rfl) (by intro W hW; go_simp) HC.out ?_
          simp only [Act.put, zq1, zq2, zq3]
          refine tkH 6 49 none (.map (some uf)) rfl (by kernel_rfl) (fun _ _ _ h => h) (by rfl) (by intro W hW; have hce : W.cell? ⟨p, 8, none⟩ = some (.map (some uf)) := HFP.out W hW; go_simp) HC.out ?_
          simp only [Act.put, zq1, zq2, zq3]
          refine tkH 7 50 none (.pointer (some ⟨pe, 1, none⟩)) rfl (by kernel_rfl) (fun _ _ _ h => h) (by rfl) (by intro W hW; go_simp) HC.out ?_
          simp only [Act.put, zq1, zq2, zq3]
          refine tkH 8 51 none (.int .i64 vi) rfl (by kernel_rfl) (fun _ _ _ h => h) (by rfl) (by intro W hW; have hce : W.cell? ⟨pe, 1, none⟩ = some (.int .i64 vi) := HE1.out W hW; go_simp) HC.out ?_
          simp only [Act.put, zq1, zq2, zq3]
          refine tkH 9 52 none (.tuple #[fv, .bool true]) rfl (by kernel_rfl) (fun _ _ _ h => h) (by rfl) (by intro W hW; refine (exec_lookupV_ok (.tmp 49) (.tmp 51) rfl 2 40 intK kI_inj Try.underlying33 (zBs W) uf _ (by rfl) (HMF.out W hW) vi (by exact HK.out)).trans ?_; rw [HFV.out, HFH.out]) HC.out ?_
          simp only [Act.put, zq1, zq2, zq3]
          refine tkH 10 42 none (.tuple #[fv, .bool true]) rfl (by kernel_rfl) (fun _ _ _ h => h) (by rfl) (by intro W hW; go_simp) HC.out ?_
          simp only [Act.put, zq1, zq2, zq3]
          refine tkH 11 53 none fv rfl (by kernel_rfl) (fun _ _ _ h => h) (by rfl) (by intro W hW; go_simp) HC.out ?_
          simp only [Act.put, zq1, zq2, zq3]
          refine tkH 12 54 none (.bool true) rfl (by kernel_rfl) (fun _ _ _ h => h) (by rfl) (by intro W hW; go_simp) HC.out ?_
          simp only [Act.put, zq1, zq2, zq3]
          refine tkH 13 7 none fv rfl (by kernel_rfl) (fun _ _ _ h => h) (by rfl) (by intro W hW; go_simp) HC.out ?_
          simp only [Act.put, zq1, zq2, zq3]
          refine tkH 14 8 none (.bool true) rfl (by kernel_rfl) (fun _ _ _ h => h) (by rfl) (by intro W hW; go_simp) HC.out ?_
          simp only [Act.put, zq1, zq2, zq3]
          refine wpAnyH_done (by decide +kernel) ?_ _
          go_wp2_with fail
          refine wp_region_held (S := fun W : World => Hold W L) (by kernel_rfl) ?_
          change wpAnyH _ _ _ _ _ _ _ _ (World.drew _)
          have HC := hI HC.out.drew
          refine tkH 0 55 none (.bool true) rfl (by kernel_rfl) (fun _ _ _ h => h) (by rfl) (by intro W hW; go_simp) HC.out ?_
          simp only [Act.put, zq1, zq2, zq3]
          refine tkH 1 56 none (.bool false) rfl (by kernel_rfl) (fun _ _ _ h => h) (by rfl) (by intro W hW; go_simp) HC.out ?_
          simp only [Act.put, zq1, zq2, zq3]
          refine tkH 2 57 none (.bool false) rfl (by kernel_rfl) (fun _ _ _ h => h) (by rfl) (by intro W hW; go_simp) HC.out ?_
          simp only [Act.put, zq1, zq2, zq3]
          refine tkH 3 58 (some (2, false)) fv rfl (by kernel_rfl) (fun _ _ _ h => h) (by rfl) (by intro W hW; go_simp) HC.out ?_
          simp only [Act.put, zq1, zq2, zq3]
          refine tkH 4 59 (some (2, false)) (.pointer (some ⟨pe, 3, none⟩)) rfl (by kernel_rfl) (fun _ _ _ h => h) (by rfl) (by intro W hW; go_simp) HC.out ?_
          simp only [Act.put, zq1, zq2, zq3]
          refine tkH 5 60 (some (2, false)) (.slice da vd.length dc) rfl (by kernel_rfl) (fun _ _ _ h => h) (by rfl) (by intro W hW; have hce : W.cell? ⟨pe, 3, none⟩ = some (.slice da vd.length dc) := HE3.out W hW; go_simp) HC.out ?_
          simp only [Act.put, zq1, zq2, zq3]
          refine anyH_ready (rs := [6]) (by decide +kernel) (by simp) ?_
          refine AllReadyH.cons (o := { dst := some 61, op := .call { callee := .value (.func 37), args := #[.tmp 58, .tmp 60], argTypes := #[40, 40] }, type := _, pos := _, after := _, guard := some (2, false) }) rfl (fun K hK => ?_) AllReadyH.nil
          rw [if_pos (by rfl)]
          go_simp
          refine (same_b fv (.slice da vd.length dc) vd vd _ (HFB.out _ HC.out) (HVB.out _ HC.out)).mono ?_
          rintro e ws ⟨rfl, hbs⟩
          have HC := hI (HC.out.step hbs)
          clear hbs
          rw [decide_eq_true (rfl : vd = vd)]
          go_simp
          refine hK _ _ HC.out ?_
          clear hK K
          try simp only [Act.put, zq1, zq2, zq3]
          refine tkH 7 62 (some (2, false)) (.bool false) rfl (by kernel_rfl) (fun _ _ _ h => h) (by rfl) (by intro W hW; go_simp) HC.out ?_
          simp only [Act.put, zq1, zq2, zq3]
          refine tkH 8 63 none (.bool false) rfl (by kernel_rfl) (fun _ _ _ h => h) (by rfl) (by intro W hW; go_simp) HC.out ?_
          simp only [Act.put, zq1, zq2, zq3]
          refine tkH 9 64 none (.bool false) rfl (by kernel_rfl) (fun _ _ _ h => h) (by rfl) (by intro W hW; go_simp) HC.out ?_
          simp only [Act.put, zq1, zq2, zq3]
          refine tkH 10 65 (some (9, false)) (.pointer (some ⟨p, 0, none⟩)) rfl (by kernel_rfl) (fun _ _ _ h => h) (by rfl) (by intro W hW; go_simp) HC.out ?_
          simp only [Act.put, zq1, zq2, zq3]
          refine tkH 11 66 (some (9, false)) (.int .i64 1) rfl (by kernel_rfl) (fun _ _ _ h => h) (by rfl) (by intro W hW; go_simp) HC.out ?_
          simp only [Act.put, zq1, zq2, zq3]
          refine tkH 12 67 (some (9, false)) (.pointer (some ⟨p, 0, none⟩)) rfl (by kernel_rfl) (fun _ _ _ h => h) (by rfl) (by intro W hW; go_simp) HC.out ?_
          simp only [Act.put, zq1, zq2, zq3]
          refine tkH 13 68 (some (9, false)) (.pointer (some ⟨p, 10, none⟩)) rfl (by kernel_rfl) (fun _ _ _ h => h) (by rfl) (by intro W hW; go_simp) HC.out ?_
          simp only [Act.put, zq1, zq2, zq3]
          refine tkH 14 69 (some (9, false)) (.pointer (some ⟨p, 11, none⟩)) rfl (by kernel_rfl) (fun _ _ _ h => h) (by rfl) (by intro W hW; go_simp) HC.out ?_
          simp only [Act.put, zq1, zq2, zq3]
          refine tkH 15 70 (some (9, false)) (.map (some zo)) rfl (by kernel_rfl) (fun _ _ _ h => h) (by rfl) (by intro W hW; have hce : W.cell? ⟨p, 11, none⟩ = some (.map (some zo)) := HOP.out W hW; go_simp) HC.out ?_
          simp only [Act.put, zq1, zq2, zq3]
          refine tkH 16 71 (some (9, false)) (.pointer (some ⟨pe, 1, none⟩)) rfl (by kernel_rfl) (fun _ _ _ h => h) (by rfl) (by intro W hW; go_simp) HC.out ?_
          simp only [Act.put, zq1, zq2, zq3]
          refine tkH 17 72 (some (9, false)) (.int .i64 vi) rfl (by kernel_rfl) (fun _ _ _ h => h) (by rfl) (by intro W hW; have hce : W.cell? ⟨pe, 1, none⟩ = some (.int .i64 vi) := HE1.out W hW; go_simp) HC.out ?_
          simp only [Act.put, zq1, zq2, zq3]
          refine tkH 18 73 (some (9, false)) (.int .i64 0) rfl (by kernel_rfl) (fun _ _ _ h => h) (by rfl) (by intro W hW; refine (exec_lookupV (.tmp 70) (.tmp 72) rfl 2 3 intK kI_inj Try.underlying35 (zNm W) zo _ (by rfl) (HMO.out W hW) vi (by exact HK.out)).trans ?_; rw [HOV.out]) HC.out ?_
          simp only [Act.put, zq1, zq2, zq3]
          refine tkH 19 74 (some (9, false)) (.bool false) rfl (by kernel_rfl) (fun _ _ _ h => h) (by rfl) (by intro W hW; go_simp) HC.out ?_
          simp only [Act.put, zq1, zq2, zq3]
          refine tkH 20 75 none (.bool false) rfl (by kernel_rfl) (fun _ _ _ h => h) (by rfl) (by intro W hW; go_simp) HC.out ?_
          simp only [Act.put, zq1, zq2, zq3]
          refine wpAnyH_done (by decide +kernel) ?_ _
          go_wp2_with fail
          have HS : Hid ((World.drew _).cell? ⟨p, 11, none⟩ = some (.map (some zo)) ∧ (World.drew _).cell? ⟨pe, 1, none⟩ = some (.int .i64 vi)) := hI ⟨HOP.out _ HC.out.drew, HE1.out _ HC.out.drew⟩
          refine wp_region_held (S := fun W : World => W.cell? ⟨p, 11, none⟩ = some (.map (some zo)) ∧ W.cell? ⟨pe, 1, none⟩ = some (.int .i64 vi)) (by kernel_rfl) ?_
          change wpAnyH _ _ _ _ _ _ _ _ (World.drew _)
          have HC := hI HC.out.drew
          refine tkH 0 76 none (.pointer (some ⟨p, 0, none⟩)) rfl (by kernel_rfl) (fun _ _ _ h => h) (by rfl) (by intro W hW; go_simp) HS.out ?_
          simp only [Act.put, zq1, zq2, zq3]
          refine tkH 1 77 none (.int .i64 1) rfl (by kernel_rfl) (fun _ _ _ h => h) (by rfl) (by intro W hW; go_simp) HS.out ?_
          simp only [Act.put, zq1, zq2, zq3]
          refine tkH 2 78 none (.pointer (some ⟨p, 0, none⟩)) rfl (by kernel_rfl) (fun _ _ _ h => h) (by rfl) (by intro W hW; go_simp) HS.out ?_
          simp only [Act.put, zq1, zq2, zq3]
          refine tkH 3 79 none (.pointer (some ⟨p, 10, none⟩)) rfl (by kernel_rfl) (fun _ _ _ h => h) (by rfl) (by intro W hW; go_simp) HS.out ?_
          simp only [Act.put, zq1, zq2, zq3]
          refine tkH 4 80 none (.pointer (some ⟨p, 11, none⟩)) rfl (by kernel_rfl) (fun _ _ _ h => h) (by rfl) (by intro W hW; go_simp) HS.out ?_
          simp only [Act.put, zq1, zq2, zq3]
          refine tkH 5 81 none (.map (some zo)) rfl (by kernel_rfl) (fun _ _ _ h => h) (by rfl) (by intro W hW; have hce : W.cell? ⟨p, 11, none⟩ = some (.map (some zo)) := hW.1; go_simp) HS.out ?_
          simp only [Act.put, zq1, zq2, zq3]
          refine tkH 6 82 none (.pointer (some ⟨pe, 1, none⟩)) rfl (by kernel_rfl) (fun _ _ _ h => h) (by rfl) (by intro W hW; go_simp) HS.out ?_
          simp only [Act.put, zq1, zq2, zq3]
          refine tkH 7 83 none (.int .i64 vi) rfl (by kernel_rfl) (fun _ _ _ h => h) (by rfl) (by intro W hW; have hce : W.cell? ⟨pe, 1, none⟩ = some (.int .i64 vi) := hW.2; go_simp) HS.out ?_
          simp only [Act.put, zq1, zq2, zq3]
          refine anyH_ready (rs := [8]) (by decide +kernel) (by simp) ?_
          refine AllReadyH.cons (o := { dst := some 84, op := .lookup 35 (.tmp 81) (.tmp 83) false, type := _, pos := _, after := _, guard := none }) rfl (fun K hK => ?_) AllReadyH.nil
          refine step_lookupV rfl (.tmp 81) (.tmp 83) rfl 2 3 intK kI_inj Try.underlying35 (zNm _) zo _ (by rfl) (HMO.out _ HC.out) vi (by exact HK.out) ?_
          rw [HOV.out]
          refine hK _ _ HS.out ?_
          clear hK K
          try simp only [Act.put, zq1, zq2, zq3]
          refine tkH 9 85 none (.int .i64 1) rfl (by kernel_rfl) (fun _ _ _ h => h) (by rfl) (by intro W hW; go_simp; try rfl) HS.out ?_
          simp only [Act.put, zq1, zq2, zq3]
          refine anyH_ready (rs := [10]) (by decide +kernel) (by simp) ?_
          refine AllReadyH.cons (o := { dst := none, op := .mapUpdate 35 (.tmp 81) (.tmp 83) (.tmp 85), type := _, pos := _, after := _, guard := none }) rfl (fun K hK => ?_) AllReadyH.nil
          refine step_updateV rfl (.tmp 81) (.tmp 83) (.tmp 85) rfl 2 3 intK kI_inj Try.underlying35 zo _ (by rfl) (HMO.out _ HC.out) HOL.out vi (by exact HK.out) ?_
          intro w9 hm9 hk9 hz9
          have hc9 := HC.out
          rw [HL.out] at hc9
          have HC9 := hI (Hold.mapVTurn (M' := putV (overM X.over) vi (.int .i64 ((1 : Nat) : Int))) hc9.pull3 hm9 hk9)
          have HS : Hid (w9.cell? ⟨p, 11, none⟩ = some (.map (some zo)) ∧ w9.cell? ⟨pe, 1, none⟩ = some (.int .i64 vi)) := hI ⟨HC9.out.tail.tail.tail.blk0.cell 11, HC9.out.tail.tail.tail.tail.blk0.cell 1⟩
          clear hm9 hk9 hz9 hc9
          refine hK _ _ HS.out ?_
          clear hK K
          try simp only [Act.put, zq1, zq2, zq3]
          refine wpAnyH_done (by decide +kernel) ?_ _
          have e9 := HC9.out
          rw [overM_put] at e9
          have h5 : Hold _ (filesR uf y.file :: mapV Try.prog 2 kI zo (overM (putV X.over vi 1)) :: _) := Hold.ex.2 ⟨fvs, Hold.app.2 e9.push3⟩
          have h7 := Hold.front (m := [_, _, _, _, _, _, _, _, _, _, _, _, _, _, _]) (l := l) h5.push4 [1, 6, 7, 3, 4, 8, 9, 10, 0, 11, 12, 13, 2, 14, 5] 15 (by decide)
          have h8 : Hold _ (restR p ⟨ue, uP, us, uh, uf, uo⟩ ⟨ze, zP, zs, zh, zf, zo⟩ y ⟨X.app, X.said, X.hear, X.file, putV X.over vi 1⟩ :: appR ze q zP X.app.app :: appR ue q uP y.app.app :: tabR q (.slice none 0 0) (.slice none 0 0) mp t :: .blk pe [.int .i64 5, .int .i64 vi, .string vt, .slice da vd.length dc] 54 :: .own 54 4 (.slice (some ⟨bl, ol, none⟩) es.length lc) es.length (logCells es ds) :: sumsR ds (es.map (·.data)) :: l) := restR_iff.2 h7
          have h9 := pairR_backS (x := { X with over := putV X.over vi 1 }) (y := y) (E := X.app) (G := y.app) (z := ⟨ze, zP, zs, zh, zf, zo⟩) (u := ⟨ue, uP, us, uh, uf, uo⟩) (P1 := zP) (P2 := uP) h8.push4
          have HC10 := hI h9.swap.tail
          clear e9 h5 h7 h8 h9 HC9 HC HS
          go_wp2_with fail
          go_roundw
          case rel =>
            refine ⟨j + 1, by omega, by go_num, ?_⟩
            have e : lookE X ⟨5, vi, vt, vd⟩ = { X with over := putV X.over vi 1 } := by rw [lookE, if_neg (by simp), if_pos rfl]
            rw [HSTEP.out, e]
            exact HC10.out
          case measure => simp [intOf]; omega
        · by_cases hk4 : vk = 4
          · subst hk4
            have g1 := HLO.out.2 rfl
            simp only at g1
            have ho := HOK.out.both.a
            have gk : 1 ≤ vi ∧ vi ≤ x.app.id := by
              have h1 := ho.ovr vi
              rw [g1] at h1
              by_cases hc : hasV y.app.ins vi = true ∧ (getV y.app.ins vi InF.nil).st = 2
              · exact ho.ikeys vi hc.1
              · rw [if_neg hc] at h1
                omega
            have gi := HOK.out.bx.id
            have HK := hI (kI_key (n := vi) (by have := HNL.out; omega))
            have HOV : Hid (getV (overM y.over) vi (.int .i64 0) = .int .i64 1) := hI (by rw [overM_get, g1]; rfl)
            have hk5' : ((4 : Int) == 5) = false := by decide
            clear g1 gk gi hk0 hk5 ho
            go_wp2_with fail
            rw [← hpe]
            clear hpe
            refine wp_region_held (S := fun W : World => Hold W L) (by kernel_rfl) ?_
            change wpAnyH _ _ _ _ _ _ _ _ (World.drew _)
            have HC := hI HC.out.drew
            refine tkH 0 88 none (.pointer (some ⟨p, 0, none⟩)) rfl (by kernel_rfl) (fun _ _ _ h => h) (by rfl) (by intro W hW; go_simp) HC.out ?_
            simp only [Act.put, zq1, zq2, zq3]
            refine tkH 1 89 none (.int .i64 1) rfl (by kernel_rfl) (fun _ _ _ h => h) (by rfl) (by intro W hW; go_simp) HC.out ?_
            simp only [Act.put, zq1, zq2, zq3]
            refine tkH 2 90 none (.int .i64 0) rfl (by kernel_rfl) (fun _ _ _ h => h) (by rfl) (by intro W hW; go_simp; try rfl) HC.out ?_
            simp only [Act.put, zq1, zq2, zq3]
            refine tkH 3 91 none (.pointer (some ⟨p, 0, none⟩)) rfl (by kernel_rfl) (fun _ _ _ h => h) (by rfl) (by intro W hW; go_simp) HC.out ?_
            simp only [Act.put, zq1, zq2, zq3]
            refine tkH 4 92 none (.pointer (some ⟨p, 10, none⟩)) rfl (by kernel_rfl) (fun _ _ _ h => h) (by rfl) (by intro W hW; go_simp) HC.out ?_
            simp only [Act.put, zq1, zq2, zq3]
            refine tkH 5 93 none (.pointer (some ⟨p, 10, none⟩)) rfl (by kernel_rfl) (fun _ _ _ h => h) (by rfl) (by intro W hW; go_simp) HC.out ?_
            simp only [Act.put, zq1, zq2, zq3]
            refine tkH 6 94 none (.map (some uo)) rfl (by kernel_rfl) (fun _ _ _ h => h) (by rfl) (by intro W hW; have hce : W.cell? ⟨p, 10, none⟩ = some (.map (some uo)) := HUP.out W hW; go_simp) HC.out ?_
            simp only [Act.put, zq1, zq2, zq3]
            refine tkH 7 95 none (.pointer (some ⟨pe, 1, none⟩)) rfl (by kernel_rfl) (fun _ _ _ h => h) (by rfl) (by intro W hW; go_simp) HC.out ?_
            simp only [Act.put, zq1, zq2, zq3]
            refine tkH 8 96 none (.int .i64 vi) rfl (by kernel_rfl) (fun _ _ _ h => h) (by rfl) (by intro W hW; have hce : W.cell? ⟨pe, 1, none⟩ = some (.int .i64 vi) := HE1.out W hW; go_simp) HC.out ?_
            simp only [Act.put, zq1, zq2, zq3]
            refine tkH 9 97 none (.int .i64 1) rfl (by kernel_rfl) (fun _ _ _ h => h) (by rfl) (by intro W hW; refine (exec_lookupV (.tmp 94) (.tmp 96) rfl 2 3 intK kI_inj Try.underlying35 (zNm W) uo _ (by rfl) (HMU.out W hW) vi (by exact HK.out)).trans ?_; rw [HOV.out]) HC.out ?_
            simp only [Act.put, zq1, zq2, zq3]
            refine tkH 10 98 none (.bool false) rfl (by kernel_rfl) (fun _ _ _ h => h) (by rfl) (by intro W hW; go_simp) HC.out ?_
            simp only [Act.put, zq1, zq2, zq3]
            refine wpAnyH_done (by decide +kernel) ?_ _
            have e9 := HC.out
            rw [HL.out] at e9
            have h5 : Hold _ (filesR uf y.file :: _) := Hold.ex.2 ⟨fvs, Hold.app.2 e9⟩
            have h7 := Hold.front (m := [_, _, _, _, _, _, _, _, _, _, _, _, _, _, _]) (l := l) h5.push4 [1, 6, 7, 3, 4, 8, 9, 10, 0, 11, 12, 13, 2, 14, 5] 15 (by decide)
            have h8 : Hold _ (restR p ⟨ue, uP, us, uh, uf, uo⟩ ⟨ze, zP, zs, zh, zf, zo⟩ y X :: appR ze q zP X.app.app :: appR ue q uP y.app.app :: tabR q (.slice none 0 0) (.slice none 0 0) mp t :: .blk pe [.int .i64 4, .int .i64 vi, .string vt, .slice da vd.length dc] 54 :: .own 54 4 (.slice (some ⟨bl, ol, none⟩) es.length lc) es.length (logCells es ds) :: sumsR ds (es.map (·.data)) :: l) := restR_iff.2 h7
            have h9 := pairR_backS (x := X) (y := y) (E := X.app) (G := y.app) (z := ⟨ze, zP, zs, zh, zf, zo⟩) (u := ⟨ue, uP, us, uh, uf, uo⟩) (P1 := zP) (P2 := uP) h8.push4
            have HC10 := hI h9.swap.tail
            clear e9 h5 h7 h8 h9 HC
            go_wp2_with fail
            go_roundw
            case rel =>
              refine ⟨j + 1, by omega, by go_num, ?_⟩
              rw [HSTEP.out, show lookE X ⟨4, vi, vt, vd⟩ = X from by rw [lookE, if_neg (by simp), if_neg (by simp)]]
              exact HC10.out
            case measure => simp [intOf]; omega
          · have hk5' : (vk == 5) = false := by simpa using hk5
            have hk4' : (vk == 4) = false := by simpa using hk4
            have HE := hI (show lookE X ⟨vk, vi, vt, vd⟩ = X by rw [lookE, if_neg hk0, if_neg hk5])
            clear hk0 hk5 hk4
            have e9 := HC.out
            rw [HL.out] at e9
            have h5 : Hold _ (filesR uf y.file :: _) := Hold.ex.2 ⟨fvs, Hold.app.2 e9⟩
            have h7 := Hold.front (m := [_, _, _, _, _, _, _, _, _, _, _, _, _, _, _]) (l := l) h5.push4 [1, 6, 7, 3, 4, 8, 9, 10, 0, 11, 12, 13, 2, 14, 5] 15 (by decide)
            have h8 : Hold _ (restR p ⟨ue, uP, us, uh, uf, uo⟩ ⟨ze, zP, zs, zh, zf, zo⟩ y X :: appR ze q zP X.app.app :: appR ue q uP y.app.app :: tabR q (.slice none 0 0) (.slice none 0 0) mp t :: .blk pe [.int .i64 vk, .int .i64 vi, .string vt, .slice da vd.length dc] 54 :: .own 54 4 (.slice (some ⟨bl, ol, none⟩) es.length lc) es.length (logCells es ds) :: sumsR ds (es.map (·.data)) :: l) := restR_iff.2 h7
            have h9 := pairR_backS (x := X) (y := y) (E := X.app) (G := y.app) (z := ⟨ze, zP, zs, zh, zf, zo⟩) (u := ⟨ue, uP, us, uh, uf, uo⟩) (P1 := zP) (P2 := uP) h8.push4
            have HC10 := hI h9.swap.tail
            clear e9 h5 h7 h8 h9 HC
            go_wp2_with fail
            go_roundw
            case rel =>
              refine ⟨j + 1, by omega, by go_num, ?_⟩
              rw [HSTEP.out, HE.out]
              exact HC10.out
            case measure => simp [intOf]; omega
    · obtain rfl : j = es.length := by omega
      go_wp2_with fail
      go_ret
      refine ⟨rfl, ?_⟩
      have := HC.out
      rw [List.take_length] at this
      have e : lookL (bare x) es = lookW x := by rw [HES.out]; rfl
      rw [e] at this
      exact this.swap.tail.swap.tail
end Go.Proofs.Ytiplepdmkbiehaa
