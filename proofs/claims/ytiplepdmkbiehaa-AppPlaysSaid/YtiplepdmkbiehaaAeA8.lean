/- Texts of this proof, one behind the other: AppDir, SymNew, AppActs, AppActs2, AppBoth, AppMove, AppT, AppLook, AppNew, AppWk. -/
import Derived.Test.YtiplepdmkbiehaaAeA7
namespace Go.Proofs.Ytiplepdmkbiehaa
set_option linter.unusedSimpArgs false
set_option linter.unusedVariables false
open Go.RowKit
section
def isAns (k : Nat) : Wd → Bool
  | .answer m y => decide (m = k) && decide (y = 1)
  | _ => false
def isCame (k : Nat) : Wd → Bool
  | .came m => decide (m = k)
  | _ => false
def isStop (k : Nat) : Wd → Bool
  | .stop m f => decide (m = k) && decide (f ≠ 0)
  | _ => false
def chatOf : Wd → Option ByteArray
  | .chat s => some (tx s)
  | _ => none
def chatsOf (ws : List Wd) : List ByteArray := ws.filterMap chatOf
def saidOf (v : EvF) : Option ByteArray := if v.kind = 0 then some v.text else none
def saids (log : List EvF) : List ByteArray := log.filterMap saidOf
def isGot (k : Int) (v : EvF) : Bool := decide (v.kind = 5) && decide (v.id = k)
def gots (log : List EvF) (k : Int) : Nat := log.countP (isGot k)
def optV (L : List (Int × InF)) (k : Int) : Option InF := if hasV L k = true then some (getV L k InF.nil) else none
def idKeys (n : Nat) : List Int := (List.range n).map fun i => ((i + 1 : Nat) : Int)
/-- A word that says nothing of one's own files. -/
def Neu (w : Wd) : Prop := w.ok ∧ match w with
  | .answer _ _ => True
  | .came _ => True
  | .stop _ f => f ≠ 0
  | _ => False
structure DirF (t : Sums) (id : Nat) (outs : List (Int × OutF)) (names : List (Int × ByteArray)) (file : List (Int × List UInt8)) (said : List ByteArray) (slog : List EvF) (sw : List Wd)
    (ins : List (Int × InF)) (over : List (Int × Nat)) (hear : List ByteArray) (rlog : List EvF) (rw : List Wd) : Prop where
  okeys : outs.map (·.1) = idKeys id
  nkeys : names.map (·.1) = idKeys id
  fkeys : file.map (·.1) = idKeys id
  ikeys : ∀ j : Int, hasV ins j = true → 1 ≤ j ∧ j ≤ id
  fil : ∀ k : Nat, 1 ≤ k → k ≤ id → FileR t (getV file k []) (getV outs k OutF.nil) (optV ins k) (rw.countP (isAns k)) (rw.countP (isCame k)) (rw.countP (isStop k))
  back : ∀ k : Nat, 0 < rw.countP (isAns k) + rw.countP (isCame k) → 1 ≤ k ∧ k ≤ id
  offers : ∀ m ti sz sm, Wd.offer m ti sz sm ∈ sw → 1 ≤ m ∧ m ≤ id ∧ sz = (getV file m []).length ∧ sm = digM t (getV file m [])
  stops : ∀ k, Wd.stop k 0 ∈ sw → 1 ≤ k ∧ k ≤ id ∧ (getV outs k OutF.nil).st = 4
  chats : ∀ s, Wd.chat s ∈ sw → textB (tx s) 200 = true
  nochunk : ∀ m a b, Wd.chunk m a b ∉ sw
  ovr : ∀ k : Int, getV over k 0 + gots rlog k = if hasV ins k = true ∧ (getV ins k InF.nil).st = 2 then 1 else 0
  got : ∀ v ∈ rlog, v.kind = 5 → hasV file v.id = true ∧ getV file v.id [] = v.data
  sent : ∀ v ∈ slog, v.kind = 4 → getV over v.id 0 + gots rlog v.id = 1
  texts : said = hear ++ saids rlog ++ chatsOf sw
  wok : ∀ w ∈ sw, w.ok
theorem hasV_mem {β : Type} (k : Int) : ∀ {L : List (Int × β)}, hasV L k = true ↔ k ∈ L.map (·.1)
  | [] => by simp [hasV]
  | y :: L => by
    rw [hasV_cons, Bool.or_eq_true, hasV_mem k (L := L), List.map_cons, List.mem_cons, decide_eq_true_eq]
    exact or_congr_left eq_comm
theorem mem_idKeys {n : Nat} {k : Int} : k ∈ idKeys n ↔ 1 ≤ k ∧ k ≤ n := by
  unfold idKeys
  rw [List.mem_map]
  constructor
  · rintro ⟨i, hi, rfl⟩
    rw [List.mem_range] at hi
    omega
  · rintro ⟨h1, h2⟩
    exact ⟨(k - 1).toNat, by rw [List.mem_range]; omega, by omega⟩
theorem hasV_ids {β : Type} {L : List (Int × β)} {n : Nat} (h : L.map (·.1) = idKeys n) (k : Int) : hasV L k = true ↔ 1 ≤ k ∧ k ≤ n := by rw [hasV_mem, h, mem_idKeys]
theorem hasV_idsN {β : Type} {L : List (Int × β)} {n : Nat} (h : L.map (·.1) = idKeys n) (k : Nat) (h1 : 1 ≤ k) (h2 : k ≤ n) : hasV L k = true := (hasV_ids h k).2 (by omega)
theorem hasV_idsNext {β : Type} {L : List (Int × β)} {n : Nat} (h : L.map (·.1) = idKeys n) : hasV L ((n + 1 : Nat) : Int) = false := by
  rw [Bool.eq_false_iff]
  intro e
  have := ((hasV_ids h _).1 e).2
  omega
theorem idKeys_succ (n : Nat) : idKeys (n + 1) = idKeys n ++ [((n + 1 : Nat) : Int)] := by
  unfold idKeys
  rw [List.range_succ, List.map_append]
  rfl
theorem getV_snoc {β : Type} (k : Int) (x : β) (j : Int) (z : β) : ∀ {L : List (Int × β)}, hasV L k = false → getV (L ++ [(k, x)]) j z = if j = k then x else getV L j z
  | [], _ => by
    rw [List.nil_append, getV_cons]
    by_cases h : j = k
    · simp [h]
    · simp [h, Ne.symm h]
  | y :: L, h => by
    rw [hasV_cons, Bool.or_eq_false_iff] at h
    rw [List.cons_append, getV_cons, getV_cons, getV_snoc k x j z h.2]
    by_cases h1 : y.1 = j
    · have : ¬ j = k := fun e => by have := h.1; simp [h1, e] at this
      simp [h1, this]
    · simp [h1]
theorem hasV_snoc {β : Type} (k : Int) (x : β) (j : Int) (L : List (Int × β)) : hasV (L ++ [(k, x)]) j = (hasV L j || decide (k = j)) := by
  unfold hasV
  rw [List.any_append]
  simp
theorem optV_some {L : List (Int × InF)} {k : Int} (h : hasV L k = true) : optV L k = some (getV L k InF.nil) := by rw [optV, if_pos h]
theorem optV_none {L : List (Int × InF)} {k : Int} (h : hasV L k = false) : optV L k = none := by rw [optV, if_neg (by simp [h])]
theorem optV_set {L : List (Int × InF)} {k : Int} (x : InF) (j : Int) (h : hasV L k = true) : optV (setV L k x) j = if j = k then some x else optV L j := by
  unfold optV
  rw [hasV_set, getV_set]
  by_cases e : j = k
  · subst e
    simp [h]
  · simp [e]
theorem optV_snoc {L : List (Int × InF)} {k : Int} (x : InF) (j : Int) (h : hasV L k = false) : optV (L ++ [(k, x)]) j = if j = k then some x else optV L j := by
  unfold optV
  rw [hasV_snoc, getV_snoc k x j _ h]
  by_cases e : j = k
  · subst e
    simp [h]
  · simp [e, Ne.symm e]
theorem getV_setS {β : Type} {L : List (Int × β)} {k : Int} (x : β) (j : Int) (z : β) (h : hasV L k = true) : getV (setV L k x) j z = if j = k then x else getV L j z := by
  rw [getV_set]
  simp [h]
theorem gots_nil (k : Int) : gots [] k = 0 := rfl
theorem gots_app (l m : List EvF) (k : Int) : gots (l ++ m) k = gots l k + gots m k := List.countP_append
theorem saids_app (l m : List EvF) : saids (l ++ m) = saids l ++ saids m := List.filterMap_append
theorem chatsOf_app (l m : List Wd) : chatsOf (l ++ m) = chatsOf l ++ chatsOf m := List.filterMap_append
theorem gots_no {l : List EvF} (h : ∀ v ∈ l, v.kind ≠ 5) (k : Int) : gots l k = 0 := by
  unfold gots
  rw [List.countP_eq_zero]
  intro v hv
  simp [isGot, h v hv]
theorem saids_no {l : List EvF} (h : ∀ v ∈ l, v.kind ≠ 0) : saids l = [] := by
  unfold saids
  rw [List.filterMap_eq_nil_iff]
  intro v hv
  simp [saidOf, h v hv]
variable {t : Sums} {id : Nat} {outs : List (Int × OutF)} {names : List (Int × ByteArray)} {file : List (Int × List UInt8)} {said : List ByteArray} {slog : List EvF} {sw : List Wd} {ins : List (Int × InF)} {over : List (Int × Nat)} {hear : List ByteArray} {rlog : List EvF} {rw : List Wd}
theorem DirF.mem (D : DirF t id outs names file said slog sw ins over hear rlog rw) {k : Nat} (h1 : 1 ≤ k) (h2 : k ≤ id) : getV file k [] ∈ t := (D.fil k h1 h2).mem
theorem DirF.table (D : DirF t id outs names file said slog sw ins over hear rlog rw) (d : List UInt8) : DirF (digT t d) id outs names file said slog sw ins over hear rlog rw :=
  ⟨D.okeys, D.nkeys, D.fkeys, D.ikeys, fun k h1 h2 => (D.fil k h1 h2).table d, D.back, fun m ti sz sm h => by
    obtain ⟨h1, h2, h3, h4⟩ := D.offers m ti sz sm h
    exact ⟨h1, h2, h3, by rw [h4, digM_digT (D.mem h1 h2)]⟩, D.stops, D.chats, D.nochunk, D.ovr, D.got, D.sent, D.texts, D.wok⟩
/-- The sender's words turn; those that are new say nothing of its files. -/
theorem DirF.sendW {sw' : List Wd} (D : DirF t id outs names file said slog sw ins over hear rlog rw) (h : ∀ w ∈ sw', w ∈ sw ∨ Neu w) (hc : chatsOf sw' = chatsOf sw) : DirF t id outs names file said slog sw' ins over hear rlog rw := by
  refine ⟨D.okeys, D.nkeys, D.fkeys, D.ikeys, D.fil, D.back, ?_, ?_, ?_, ?_, D.ovr, D.got, D.sent, by rw [hc]; exact D.texts, ?_⟩
  · intro m ti sz sm hm
    rcases h _ hm with h | h
    · exact D.offers _ _ _ _ h
    · exact h.2.elim
  · intro k hm
    rcases h _ hm with h | h
    · exact D.stops _ h
    · exact absurd rfl h.2
  · intro s hm
    rcases h _ hm with h | h
    · exact D.chats _ h
    · exact h.2.elim
  · intro m a b hm
    rcases h _ hm with h | h
    · exact D.nochunk _ _ _ h
    · exact h.2
  · intro w hm
    rcases h _ hm with h | h
    · exact D.wok _ h
    · exact h.1
theorem DirF.sendPush {x : Wd} (D : DirF t id outs names file said slog sw ins over hear rlog rw) (h : Neu x) : DirF t id outs names file said slog (sw ++ [x]) ins over hear rlog rw := by
  refine D.sendW (fun w hw => ?_) ?_
  · rcases List.mem_append.1 hw with h | h2
    · exact .inl h
    · rw [List.mem_singleton] at h2
      subst h2
      exact .inr h
  · rw [chatsOf_app]
    cases x <;> first | exact List.append_nil _ | exact h.2.elim
theorem DirF.sendPop {x : Wd} {ws : List Wd} (D : DirF t id outs names file said slog (x :: ws) ins over hear rlog rw) (h : ∀ s, x ≠ .chat s) : DirF t id outs names file said slog ws ins over hear rlog rw := by
  refine D.sendW (fun w hw => .inl (List.mem_cons_of_mem _ hw)) ?_
  cases x <;> first | rfl | exact absurd rfl (h _)
theorem DirF.recvW {rw' : List Wd} (D : DirF t id outs names file said slog sw ins over hear rlog rw) (h : ∀ k, rw'.countP (isAns k) = rw.countP (isAns k) ∧ rw'.countP (isCame k) = rw.countP (isCame k) ∧ rw'.countP (isStop k) = rw.countP (isStop k)) : DirF t id outs names file said slog sw ins over hear rlog rw' := by
  refine ⟨D.okeys, D.nkeys, D.fkeys, D.ikeys, ?_, ?_, D.offers, D.stops, D.chats, D.nochunk, D.ovr, D.got, D.sent, D.texts, D.wok⟩
  · intro k h1 h2
    obtain ⟨e1, e2, e3⟩ := h k
    rw [e1, e2, e3]
    exact D.fil k h1 h2
  · intro k hk
    obtain ⟨e1, e2, e3⟩ := h k
    rw [e1, e2] at hk
    exact D.back k hk
/-- A word that says nothing of the other's files. -/
def NeuR (x : Wd) : Prop := ∀ k, isAns k x = false ∧ isCame k x = false ∧ isStop k x = false
theorem DirF.recvPush {x : Wd} (D : DirF t id outs names file said slog sw ins over hear rlog rw) (h : NeuR x) : DirF t id outs names file said slog sw ins over hear rlog (rw ++ [x]) := by
  refine D.recvW fun k => ?_
  obtain ⟨e1, e2, e3⟩ := h k
  simp [List.countP_append, List.countP_cons, e1, e2, e3]
theorem DirF.recvPop {x : Wd} {ws : List Wd} (D : DirF t id outs names file said slog sw ins over hear rlog (x :: ws)) (h : NeuR x) : DirF t id outs names file said slog sw ins over hear rlog ws := by
  refine D.recvW fun k => ?_
  obtain ⟨e1, e2, e3⟩ := h k
  simp [List.countP_append, List.countP_cons, e1, e2, e3]
theorem DirF.sendLog {vs : List EvF} (D : DirF t id outs names file said slog sw ins over hear rlog rw) (h : ∀ v ∈ vs, v.kind = 4 → getV over v.id 0 + gots rlog v.id = 1) : DirF t id outs names file said (slog ++ vs) sw ins over hear rlog rw := by
  refine ⟨D.okeys, D.nkeys, D.fkeys, D.ikeys, D.fil, D.back, D.offers, D.stops, D.chats, D.nochunk, D.ovr, D.got, ?_, D.texts, D.wok⟩
  intro v hv
  rcases List.mem_append.1 hv with h1 | h1
  · exact D.sent v h1
  · exact h v h1
theorem DirF.recvLog {vs : List EvF} (D : DirF t id outs names file said slog sw ins over hear rlog rw) (h0 : ∀ v ∈ vs, v.kind ≠ 0) (h5 : ∀ v ∈ vs, v.kind ≠ 5) : DirF t id outs names file said slog sw ins over hear (rlog ++ vs) rw := by
  refine ⟨D.okeys, D.nkeys, D.fkeys, D.ikeys, D.fil, D.back, D.offers, D.stops, D.chats, D.nochunk, ?_, ?_, ?_, ?_, D.wok⟩
  · intro k
    rw [gots_app, gots_no h5]
    exact D.ovr k
  · intro v hv
    rcases List.mem_append.1 hv with h1 | h1
    · exact D.got v h1
    · exact fun e => absurd e (h5 v h1)
  · intro v hv
    rw [gots_app, gots_no h5]
    exact D.sent v hv
  · rw [saids_app, saids_no h0, List.append_nil]
    exact D.texts
/-- One file turns. -/
theorem DirF.turn {k : Nat} {t' : Sums} {outs' : List (Int × OutF)} {ins' : List (Int × InF)} {rlog' : List EvF} {rw' : List Wd} (D : DirF t id outs names file said slog sw ins over hear rlog rw) (h1 : 1 ≤ k) (h2 : k ≤ id) (ht : ∃ d, t' = digT t d)
    (ho : outs'.map (·.1) = outs.map (·.1)) (hi : ∀ j, hasV ins' j = true → hasV ins j = true)
    (hk : FileR t' (getV file k []) (getV outs' k OutF.nil) (optV ins' k) (rw'.countP (isAns k)) (rw'.countP (isCame k)) (rw'.countP (isStop k)))
    (hne : ∀ j : Nat, j ≠ k → getV outs' j OutF.nil = getV outs j OutF.nil ∧ optV ins' j = optV ins j ∧ rw'.countP (isAns j) = rw.countP (isAns j) ∧ rw'.countP (isCame j) = rw.countP (isCame j) ∧ rw'.countP (isStop j) = rw.countP (isStop j))
    (hst : (getV outs k OutF.nil).st = 4 → (getV outs' k OutF.nil).st = 4)
    (hov : ∀ j : Int, getV over j 0 + gots rlog' j = if hasV ins' j = true ∧ (getV ins' j InF.nil).st = 2 then 1 else 0)
    (hgot : ∀ v ∈ rlog', v.kind = 5 → hasV file v.id = true ∧ getV file v.id [] = v.data) (hsent : ∀ v ∈ slog, v.kind = 4 → getV over v.id 0 + gots rlog' v.id = 1) (hsaid : saids rlog' = saids rlog) :
    DirF t' id outs' names file said slog sw ins' over hear rlog' rw' := by
  obtain ⟨d, rfl⟩ := ht
  refine ⟨by rw [ho]; exact D.okeys, D.nkeys, D.fkeys, fun j hj => D.ikeys j (hi j hj), ?_, ?_, (D.table d).offers, ?_, D.chats, D.nochunk, hov, hgot, hsent, by rw [hsaid]; exact D.texts, D.wok⟩
  · intro j g1 g2
    by_cases hj : j = k
    · subst hj
      exact hk
    · obtain ⟨e1, e2, e3, e4, e5⟩ := hne j hj
      rw [e1, e2, e3, e4, e5]
      exact (D.table d).fil j g1 g2
  · intro j hj
    by_cases hj2 : j = k
    · subst hj2
      exact ⟨h1, h2⟩
    · obtain ⟨e1, e2, e3, e4, e5⟩ := hne j hj2
      rw [e3, e4] at hj
      exact D.back j hj
  · intro j hj
    obtain ⟨g1, g2, g3⟩ := D.stops j hj
    refine ⟨g1, g2, ?_⟩
    by_cases hj2 : j = k
    · subst hj2
      exact hst g3
    · rw [(hne j hj2).1]
      exact g3
end
def NewRes (l : List Res) (e : Ending) (w' : World) : Prop := ∃ q mp, e = .returned (.pointer (some ⟨q, 0, none⟩)) ∧ Hold w' (tabR q (.slice none 0 0) (.slice none 0 0) mp [] :: l)
set_option maxRecDepth 100000 in
theorem symNew_any (l : List Res) (w : World) (h : Hold w l) : Calls Try.prog 19 #[] w (NewRes l) := by
  have HC := hI h
  clear h
  have hmm := @run_makeMap Try.prog
  go_enter Try.func19, Try.ntmps19
  go_wp2_with fail
  go_ret
  exact ⟨w.heap.size + 1, .map (some w.heap.size), rfl, tabR_shut (sv := .slice none 0 0) (vs := []) (sums := []) (((((HC.out.alloc (.map #[] 0)).addBlkAt [.slice none 0 0, .slice none 0 0, .slice none 0 0, .map (some w.heap.size)] 99 (by simp)).addNil 40 1).swap.addEmp).push3)⟩
theorem digT_again (s : List (List UInt8)) (b : List UInt8) : digT (digT s b) b = digT s b := by
  by_cases h : b ∈ s
  · simp [digT, h]
  · simp [digT, h]
theorem digM_again (s : List (List UInt8)) (b : List UInt8) : digM (digT s b) b = digM s b := by
  unfold digM
  rw [digT_again]
section
variable {t : Sums} {id : Nat} {outs : List (Int × OutF)} {names : List (Int × ByteArray)} {file : List (Int × List UInt8)} {said : List ByteArray} {slog : List EvF} {sw : List Wd} {ins : List (Int × InF)} {over : List (Int × Nat)} {hear : List ByteArray} {rlog : List EvF} {rw : List Wd}
theorem DirF.key (D : DirF t id outs names file said slog sw ins over hear rlog rw) {k : Int} (h : hasV ins k = true) : ∃ n : Nat, k = n ∧ 1 ≤ n ∧ n ≤ id := by
  have := D.ikeys k h
  exact ⟨k.toNat, by omega, by omega, by omega⟩
theorem DirF.keyO (D : DirF t id outs names file said slog sw ins over hear rlog rw) {k : Int} (h : hasV outs k = true) : ∃ n : Nat, k = n ∧ 1 ≤ n ∧ n ≤ id := by
  have := (hasV_ids D.okeys k).1 h
  exact ⟨k.toNat, by omega, by omega, by omega⟩
theorem DirF.has (D : DirF t id outs names file said slog sw ins over hear rlog rw) {k : Nat} (h1 : 1 ≤ k) (h2 : k ≤ id) : hasV outs (k : Int) = true := hasV_idsN D.okeys k h1 h2
theorem DirF.hasF (D : DirF t id outs names file said slog sw ins over hear rlog rw) {k : Nat} (h1 : 1 ≤ k) (h2 : k ≤ id) : hasV file (k : Int) = true := hasV_idsN D.fkeys k h1 h2
/-- A text is said. -/
theorem DirF.chat {s : List UInt8} (D : DirF t id outs names file said slog sw ins over hear rlog rw) (h : textB (tx s) 200 = true) (hs : s.length ≤ 900) : DirF t id outs names file (said ++ [tx s]) slog (sw ++ [.chat s]) ins over hear rlog rw := by
  refine ⟨D.okeys, D.nkeys, D.fkeys, D.ikeys, D.fil, D.back, ?_, ?_, ?_, ?_, D.ovr, D.got, D.sent, ?_, ?_⟩
  · intro m ti sz sm hm
    exact D.offers m ti sz sm (by simpa using hm)
  · intro k hm
    exact D.stops k (by simpa using hm)
  · intro z hm
    rcases List.mem_append.1 hm with g | g
    · exact D.chats z g
    · simp at g
      subst g
      exact h
  · intro m a b hm
    exact D.nochunk m a b (by simpa using hm)
  · rw [chatsOf_app, D.texts, ← List.append_assoc]
    rfl
  · intro z hm
    rcases List.mem_append.1 hm with g | g
    · exact D.wok z g
    · simp at g
      subst g
      exact hs
/-- A file is offered. -/
theorem DirF.offer {title : ByteArray} {b : List UInt8} (D : DirF t id outs names file said slog sw ins over hear rlog rw) (hb : b.length ≤ 2048) (ht : title.data.toList.length ≤ 900) (hi : id + 1 ≤ 1099511627776) :
    DirF (digT t b) (id + 1) (outs ++ [(((id + 1 : Nat) : Int), (⟨0, b, 0, 0⟩ : OutF))]) (names ++ [(((id + 1 : Nat) : Int), title)]) (putV file ((id + 1 : Nat) : Int) b) said slog (sw ++ [.offer (id + 1) title.data.toList b.length (digM t b)]) ins over hear rlog rw := by
  have no := hasV_idsNext D.okeys
  have nf := hasV_idsNext D.fkeys
  have D2 := D.table b
  have ni : hasV ins ((id + 1 : Nat) : Int) = false := by
    rw [Bool.eq_false_iff]
    intro e
    have := (D.ikeys _ e).2
    omega
  have nr : ∀ k : Nat, ¬ k ≤ id → rw.countP (isAns k) = 0 ∧ rw.countP (isCame k) = 0 := fun k hk => by
    have := D.back k
    constructor
    · rcases Nat.eq_zero_or_pos (rw.countP (isAns k)) with h | h
      · exact h
      · exact absurd (this (by omega)).2 hk
    · rcases Nat.eq_zero_or_pos (rw.countP (isCame k)) with h | h
      · exact h
      · exact absurd (this (by omega)).2 hk
  rw [putV_hasnt nf]
  have gf : ∀ k : Nat, k ≤ id → getV (file ++ [(((id + 1 : Nat) : Int), b)]) (k : Int) [] = getV file (k : Int) [] := fun k hk => by
    rw [getV_snoc _ _ _ _ nf, if_neg (by omega)]
  have go : ∀ k : Nat, k ≤ id → getV (outs ++ [(((id + 1 : Nat) : Int), (⟨0, b, 0, 0⟩ : OutF))]) (k : Int) OutF.nil = getV outs (k : Int) OutF.nil := fun k hk => by
    rw [getV_snoc _ _ _ _ no, if_neg (by omega)]
  refine ⟨?_, ?_, ?_, fun j hj => ?_, ?_, ?_, ?_, ?_, ?_, ?_, D.ovr, ?_, D.sent, ?_, ?_⟩
  · rw [List.map_append, D.okeys, idKeys_succ]; rfl
  · rw [List.map_append, D.nkeys, idKeys_succ]; rfl
  · rw [List.map_append, D.fkeys, idKeys_succ]; rfl
  · have := D.ikeys j hj
    omega
  · intro k h1 h2
    by_cases hk : k ≤ id
    · rw [gf k hk, go k hk]
      exact D2.fil k h1 hk
    · obtain rfl : k = id + 1 := by omega
      rw [getV_snoc _ _ _ _ nf, getV_snoc _ _ _ _ no, if_pos rfl, if_pos rfl, optV_none ni, (nr _ hk).1, (nr _ hk).2]
      exact FileR.new hb
  · intro k hk
    have := D.back k hk
    omega
  · intro m ti sz sm hm
    rcases List.mem_append.1 hm with g | g
    · obtain ⟨h1, h2, h3, h4⟩ := D2.offers m ti sz sm g
      rw [gf m h2]
      exact ⟨h1, by omega, h3, h4⟩
    · simp only [List.mem_singleton, Wd.offer.injEq] at g
      obtain ⟨rfl, rfl, rfl, rfl⟩ := g
      rw [getV_snoc _ _ _ _ nf, if_pos rfl, digM_again]
      exact ⟨by omega, Nat.le_refl _, rfl, rfl⟩
  · intro k hm
    obtain ⟨h1, h2, h3⟩ := D.stops k (by simpa using hm)
    rw [go k h2]
    exact ⟨h1, by omega, h3⟩
  · intro z hm
    exact D.chats z (by simpa using hm)
  · intro m a c hm
    exact D.nochunk m a c (by simpa using hm)
  · intro v hv h5
    obtain ⟨h1, h2⟩ := D.got v hv h5
    have h3 := (hasV_ids D.fkeys _).1 h1
    rw [hasV_snoc, h1, getV_snoc _ _ _ _ nf, if_neg (by omega)]
    exact ⟨rfl, h2⟩
  · rw [chatsOf_app, D.texts]
    exact (List.append_nil _).symm ▸ rfl
  · intro z hm
    rcases List.mem_append.1 hm with g | g
    · exact D.wok z g
    · simp at g
      subst g
      refine ⟨hi, ht, hb, ?_⟩
      rw [digM, markB_length]
      decide
theorem hasV_setImp {β : Type} {L : List (Int × β)} {k : Int} {x : β} : ∀ j, hasV (setV L k x) j = true → hasV L j = true := fun j h => by rwa [hasV_set] at h
/-- Of what has come nothing turns. -/
theorem DirF.ovrSame {k : Int} {x : InF} (D : DirF t id outs names file said slog sw ins over hear rlog rw) (hk : hasV ins k = true) (h : x.st = 2 ↔ (getV ins k InF.nil).st = 2) (j : Int) : getV over j 0 + gots rlog j = if hasV (setV ins k x) j = true ∧ (getV (setV ins k x) j InF.nil).st = 2 then 1 else 0 := by
  rw [D.ovr j, hasV_set, getV_setS _ _ _ hk]
  by_cases e : j = k
  · subst e
    simp only [if_true, h]
  · simp only [if_neg e]
/-- A file has come. -/
theorem DirF.ovrCame {k : Int} {x : InF} {d : List UInt8} (D : DirF t id outs names file said slog sw ins over hear rlog rw) (hk : hasV ins k = true) (h : x.st = 2) (h2 : (getV ins k InF.nil).st ≠ 2) (j : Int) : getV over j 0 + (gots (rlog ++ [⟨5, k, ⟨#[]⟩, d⟩]) j : Nat) = if hasV (setV ins k x) j = true ∧ (getV (setV ins k x) j InF.nil).st = 2 then 1 else 0 := by
  have hd := D.ovr j
  rw [gots_app, hasV_set, getV_setS _ _ _ hk]
  by_cases e : j = k
  · subst e
    rw [if_neg (fun z => h2 z.2)] at hd
    rw [if_pos (by simp [hk, h])]
    have : gots [⟨5, j, ⟨#[]⟩, d⟩] j = 1 := by simp [gots, isGot]
    rw [this]
    omega
  · have : gots [⟨5, k, ⟨#[]⟩, d⟩] j = 0 := by simp [gots, isGot, Ne.symm e]
    rw [this]
    simp only [if_neg e]
    exact hd
theorem DirF.gotCame {k : Nat} {d : List UInt8} (D : DirF t id outs names file said slog sw ins over hear rlog rw) (h1 : 1 ≤ k) (h2 : k ≤ id) (hd : d = getV file k []) : ∀ v ∈ rlog ++ [(⟨5, (k : Int), ⟨#[]⟩, d⟩ : EvF)], v.kind = 5 → hasV file v.id = true ∧ getV file v.id [] = v.data := by
  intro v hv h5
  rcases List.mem_append.1 hv with g | g
  · exact D.got v g h5
  · rw [List.mem_singleton] at g
    subst g
    exact ⟨D.hasF h1 h2, hd.symm⟩
theorem DirF.sentCame {k : Int} {d : List UInt8} (D : DirF t id outs names file said slog sw ins over hear rlog rw) (h2 : ¬ (hasV ins k = true ∧ (getV ins k InF.nil).st = 2)) : ∀ v ∈ slog, v.kind = 4 → getV over v.id 0 + (gots (rlog ++ [⟨5, k, ⟨#[]⟩, d⟩]) v.id : Nat) = 1 := by
  intro v hv h4
  have h := D.sent v hv h4
  have ho := D.ovr k
  rw [if_neg h2] at ho
  rw [gots_app]
  have : ¬ v.id = k := fun e => by
    rw [e] at h
    omega
  have e : gots [⟨5, k, ⟨#[]⟩, d⟩] v.id = 0 := by simp [gots, isGot, Ne.symm this]
  rw [e]
  exact h
theorem saids_came (k : Int) (d : List UInt8) : saids (rlog ++ [⟨5, k, ⟨#[]⟩, d⟩]) = saids rlog := by
  rw [saids_app]
  simp [saids, saidOf]
/-- No. -/
theorem DirF.refuse {k : Int} (D : DirF t id outs names file said slog sw ins over hear rlog rw) (hk : hasV ins k = true) (h0 : (getV ins k InF.nil).st = 0) :
    DirF t id outs names file said slog sw (setV ins k (inRefuse (getV ins k InF.nil)).1) over hear rlog (rw ++ [.answer k.toNat 0]) := by
  obtain ⟨n, rfl, h1, h2⟩ := D.key hk
  have hf := D.fil n h1 h2
  rw [optV_some hk] at hf
  refine DirF.recvPush ?_ (fun k => ⟨by simp [isAns], rfl, rfl⟩)
  refine D.turn h1 h2 ⟨_, (digT_mem (D.mem h1 h2)).symm⟩ rfl hasV_setImp ?_ (fun j hj => ⟨rfl, ?_, rfl, rfl, rfl⟩) (fun h => h) (D.ovrSame hk ?_) D.got D.sent rfl
  · rw [optV_set _ _ hk, if_pos rfl]
    exact hf.refuse h0
  · rw [optV_set _ _ hk, if_neg (by omega)]
  · rw [inRefuse, if_neg (by simpa using h0)]
    simp [h0]
/-- Yes. -/
theorem DirF.accept {k : Int} (D : DirF t id outs names file said slog sw ins over hear rlog rw) (hk : hasV ins k = true) (h0 : (getV ins k InF.nil).st = 0) :
    (inAccept t (getV ins k InF.nil)).2.2 = 0 ∧ (∃ d, (inAccept t (getV ins k InF.nil)).1 = digT t d) ∧
    DirF (inAccept t (getV ins k InF.nil)).1 id outs names file said slog sw (setV ins k (inAccept t (getV ins k InF.nil)).2.1) over hear (if (inAccept t (getV ins k InF.nil)).2.1.st = 2 then rlog ++ [⟨5, k, ⟨#[]⟩, (inAccept t (getV ins k InF.nil)).2.1.data⟩] else rlog) (rw ++ [.answer k.toNat 1]) := by
  obtain ⟨n, rfl, h1, h2⟩ := D.key hk
  have hf := D.fil n h1 h2
  rw [optV_some hk] at hf
  obtain ⟨d, e1, e2, e3, e4⟩ := hf.accept h0
  refine ⟨e2, ⟨d, e1⟩, ?_⟩
  have hc : ∀ j, (rw ++ [Wd.answer (n : Int).toNat 1]).countP (isAns j) = rw.countP (isAns j) + (if n = j then 1 else 0) ∧ (rw ++ [Wd.answer (n : Int).toNat 1]).countP (isCame j) = rw.countP (isCame j) ∧ (rw ++ [Wd.answer (n : Int).toNat 1]).countP (isStop j) = rw.countP (isStop j) := fun j => by
    simp [List.countP_append, List.countP_cons, isAns, isCame, isStop]
  refine D.turn h1 h2 ⟨_, e1⟩ rfl hasV_setImp ?_ (fun j hj => ⟨rfl, ?_, ?_, (hc j).2.1, (hc j).2.2⟩) (fun h => h) ?_ ?_ ?_ ?_
  · rw [optV_set _ _ hk, if_pos rfl, (hc n).1, (hc n).2.1, (hc n).2.2, if_pos rfl]
    exact e4
  · rw [optV_set _ _ hk, if_neg (by omega)]
  · rw [(hc j).1, if_neg (Ne.symm hj)]; rfl
  all_goals rcases e3 with e3 | ⟨e3, e5⟩
  · rw [if_neg (by omega)]
    exact D.ovrSame hk (by omega)
  · rw [if_pos e3]
    exact D.ovrCame hk e3 (by omega)
  · rw [if_neg (by omega)]
    exact D.got
  · rw [if_pos e3]
    exact D.gotCame h1 h2 e5
  · rw [if_neg (by omega)]
    exact D.sent
  · rw [if_pos e3]
    exact D.sentCame (fun z => by omega)
  · rw [if_neg (by omega)]
  · rw [if_pos e3]
    exact saids_came _ _
end
section
variable {t : Sums} {id : Nat} {outs : List (Int × OutF)} {names : List (Int × ByteArray)} {file : List (Int × List UInt8)} {said : List ByteArray} {slog : List EvF} {sw : List Wd} {ins : List (Int × InF)} {over : List (Int × Nat)} {hear : List ByteArray} {rlog : List EvF} {rw : List Wd}
/-- A file of one's own turns; nothing else does. -/
theorem DirF.outTo {n : Nat} {o' : OutF} {rw' : List Wd} (D : DirF t id outs names file said slog sw ins over hear rlog rw) (h1 : 1 ≤ n) (h2 : n ≤ id)
    (hf : FileR t (getV file n []) o' (optV ins n) (rw'.countP (isAns n)) (rw'.countP (isCame n)) (rw'.countP (isStop n)))
    (hne : ∀ j : Nat, j ≠ n → rw'.countP (isAns j) = rw.countP (isAns j) ∧ rw'.countP (isCame j) = rw.countP (isCame j) ∧ rw'.countP (isStop j) = rw.countP (isStop j))
    (hst : (getV outs n OutF.nil).st = 4 → o'.st = 4) : DirF t id (setV outs n o') names file said slog sw ins over hear rlog rw' := by
  have hk := D.has h1 h2
  refine D.turn h1 h2 ⟨_, (digT_mem (D.mem h1 h2)).symm⟩ (setV_keys _ _ _) (fun _ h => h) ?_ (fun j hj => ⟨?_, rfl, hne j hj⟩) ?_ D.ovr D.got D.sent rfl
  · rw [getV_setS _ _ _ hk, if_pos rfl]
    exact hf
  · rw [getV_setS _ _ _ hk, if_neg (by omega)]
  · rw [getV_setS _ _ _ hk, if_pos rfl]
    exact hst
/-- A file that comes turns; it was not done, and is not. -/
theorem DirF.inTo {n : Nat} {x : InF} {rw' : List Wd} (D : DirF t id outs names file said slog sw ins over hear rlog rw) (h1 : 1 ≤ n) (h2 : n ≤ id) (hk : hasV ins n = true)
    (hf : FileR t (getV file n []) (getV outs n OutF.nil) (some x) (rw'.countP (isAns n)) (rw'.countP (isCame n)) (rw'.countP (isStop n)))
    (hne : ∀ j : Nat, j ≠ n → rw'.countP (isAns j) = rw.countP (isAns j) ∧ rw'.countP (isCame j) = rw.countP (isCame j) ∧ rw'.countP (isStop j) = rw.countP (isStop j))
    (hst : x.st = 2 ↔ (getV ins n InF.nil).st = 2) : DirF t id outs names file said slog sw (setV ins n x) over hear rlog rw' := by
  refine D.turn h1 h2 ⟨_, (digT_mem (D.mem h1 h2)).symm⟩ rfl hasV_setImp ?_ (fun j hj => ⟨rfl, ?_, hne j hj⟩) (fun h => h) (D.ovrSame hk hst) D.got D.sent rfl
  · rw [optV_set _ _ hk, if_pos rfl]
    exact hf
  · rw [optV_set _ _ hk, if_neg (by omega)]
theorem cnt_same {rw : List Wd} (n : Nat) : ∀ j : Nat, j ≠ n → rw.countP (isAns j) = rw.countP (isAns j) ∧ rw.countP (isCame j) = rw.countP (isCame j) ∧ rw.countP (isStop j) = rw.countP (isStop j) := fun _ _ => ⟨rfl, rfl, rfl⟩
/-- A file of one's own is broken off. -/
theorem DirF.cancelOut {k : Int} (D : DirF t id outs names file said slog sw ins over hear rlog rw) (hk : hasV outs k = true) (h0 : (outBreak (getV outs k OutF.nil)).2 = 0) (hi : id ≤ 1099511627776) :
    DirF t id (setV outs k (outBreak (getV outs k OutF.nil)).1) names file said slog (sw ++ [.stop k.toNat 0]) ins over hear rlog rw := by
  obtain ⟨n, rfl, h1, h2⟩ := D.keyO hk
  have hf := (D.fil n h1 h2).outBreak (sp2 := rw.countP (isStop n))
  have D2 := D.outTo h1 h2 hf.1 (cnt_same n) (fun _ => hf.2 h0)
  rw [show (n : Int).toNat = n from by omega]
  refine ⟨D2.okeys, D2.nkeys, D2.fkeys, D2.ikeys, D2.fil, D2.back, ?_, ?_, ?_, ?_, D2.ovr, D2.got, D2.sent, ?_, ?_⟩
  · intro m ti sz sm hm
    exact D2.offers m ti sz sm (by simpa using hm)
  · intro m hm
    rcases List.mem_append.1 hm with g | g
    · exact D2.stops m g
    · simp at g
      subst g
      rw [getV_setS _ _ _ hk, if_pos rfl]
      exact ⟨h1, h2, hf.2 h0⟩
  · intro z hm
    exact D2.chats z (by simpa using hm)
  · intro m a b hm
    exact D2.nochunk m a b (by simpa using hm)
  · rw [chatsOf_app, D2.texts]
    exact (List.append_nil _).symm ▸ rfl
  · intro z hm
    rcases List.mem_append.1 hm with g | g
    · exact D2.wok z g
    · simp at g
      subst g
      exact ⟨by omega, by omega⟩
theorem outBreak_no {o : OutF} (h : (outBreak o).2 ≠ 0) : (outBreak o).1 = o := by
  unfold outBreak at h ⊢
  split
  · rfl
  · rename_i h2
    rw [if_neg h2] at h
    exact absurd rfl h
theorem inBreak_no {i : InF} (h : (inBreak i).2 ≠ 0) : (inBreak i).1 = i := by
  unfold inBreak at h ⊢
  split
  · rfl
  · rename_i h2
    rw [if_neg h2] at h
    exact absurd rfl h
/-- A file that comes is broken off. -/
theorem DirF.cancelIn {k : Int} (D : DirF t id outs names file said slog sw ins over hear rlog rw) (hk : hasV ins k = true) :
    DirF t id outs names file said slog sw (setV ins k (inBreak (getV ins k InF.nil)).1) over hear rlog (rw ++ [.stop k.toNat 1]) := by
  obtain ⟨n, rfl, h1, h2⟩ := D.key hk
  have hf := D.fil n h1 h2
  rw [optV_some hk] at hf
  have hb := hf.inBreak
  rw [show (n : Int).toNat = n from by omega]
  have hc : ∀ j, (rw ++ [Wd.stop n 1]).countP (isAns j) = rw.countP (isAns j) ∧ (rw ++ [Wd.stop n 1]).countP (isCame j) = rw.countP (isCame j) ∧ (rw ++ [Wd.stop n 1]).countP (isStop j) = rw.countP (isStop j) + if n = j then 1 else 0 := fun j => by
    simp [List.countP_append, List.countP_cons, isAns, isCame, isStop]
  refine D.inTo h1 h2 hk ?_ (fun j hj => ?_) ⟨hb.2.2, hb.2.1⟩
  · rw [(hc n).1, (hc n).2.1, (hc n).2.2, if_pos rfl]
    exact hb.1
  · rw [(hc j).1, (hc j).2.1, (hc j).2.2, if_neg (Ne.symm hj)]
    exact ⟨rfl, rfl, rfl⟩
/-- It is heard that a file that comes was broken off. -/
theorem DirF.stoppedIn {n : Nat} {ws : List Wd} (D : DirF t id outs names file said slog (.stop n 0 :: ws) ins over hear rlog rw) (hk : hasV ins n = true) :
    DirF t id outs names file said slog ws (setV ins n (inBreak (getV ins n InF.nil)).1) over hear rlog rw := by
  obtain ⟨h1, h2, h3⟩ := D.stops n List.mem_cons_self
  have hf := D.fil n h1 h2
  rw [optV_some hk] at hf
  have hb := hf.inBreak
  exact (D.inTo h1 h2 hk (hf.stopped h3) (cnt_same n) ⟨hb.2.2, hb.2.1⟩).sendPop (fun s => by simp)
/-- It is heard that a file of one's own was broken off. -/
theorem DirF.stoppedOut {n f : Nat} {ws : List Wd} (D : DirF t id outs names file said slog sw ins over hear rlog (.stop n f :: ws)) (hk : hasV outs n = true) (h0 : (outBreak (getV outs n OutF.nil)).2 = 0) :
    DirF t id (setV outs n (outBreak (getV outs n OutF.nil)).1) names file said slog sw ins over hear rlog ws := by
  obtain ⟨m, e, h1, h2⟩ := D.keyO hk
  obtain rfl : n = m := by omega
  have hf := (D.fil n h1 h2).outBreak (sp2 := ws.countP (isStop n))
  have hc : ∀ j, (Wd.stop n f :: ws).countP (isAns j) = ws.countP (isAns j) ∧ (Wd.stop n f :: ws).countP (isCame j) = ws.countP (isCame j) ∧ (j ≠ n → (Wd.stop n f :: ws).countP (isStop j) = ws.countP (isStop j)) := fun j => by
    refine ⟨by simp [List.countP_cons, isAns], by simp [List.countP_cons, isCame], fun hj => ?_⟩
    simp [List.countP_cons, isStop, Ne.symm hj]
  refine D.outTo h1 h2 ?_ (fun j hj => ⟨(hc j).1.symm, (hc j).2.1.symm, ((hc j).2.2 hj).symm⟩) (fun _ => hf.2 h0)
  rw [← (hc n).1, ← (hc n).2.1]
  exact hf.1
/-- A word that can't turn anything is heard. -/
theorem DirF.deaf {n f : Nat} {ws : List Wd} (D : DirF t id outs names file said slog sw ins over hear rlog (.stop n f :: ws)) (hn : (getV outs n OutF.nil).st ≠ 0 ∧ (getV outs n OutF.nil).st ≠ 1 ∨ ¬ (1 ≤ n ∧ n ≤ id)) : DirF t id outs names file said slog sw ins over hear rlog ws := by
  have hc : ∀ j, (Wd.stop n f :: ws).countP (isAns j) = ws.countP (isAns j) ∧ (Wd.stop n f :: ws).countP (isCame j) = ws.countP (isCame j) ∧ (j ≠ n → (Wd.stop n f :: ws).countP (isStop j) = ws.countP (isStop j)) := fun j => by
    refine ⟨by simp [List.countP_cons, isAns], by simp [List.countP_cons, isCame], fun hj => ?_⟩
    simp [List.countP_cons, isStop, Ne.symm hj]
  refine ⟨D.okeys, D.nkeys, D.fkeys, D.ikeys, fun k h1 h2 => ?_, fun k hk => ?_, D.offers, D.stops, D.chats, D.nochunk, D.ovr, D.got, D.sent, D.texts, D.wok⟩
  · have hf := D.fil k h1 h2
    rw [(hc k).1, (hc k).2.1] at hf
    by_cases e : k = n
    · subst e
      rcases hn with hn | hn
      · exact hf.dead rfl rfl rfl hn.1 hn.2
      · exact absurd ⟨h1, h2⟩ hn
    · rw [(hc k).2.2 e] at hf
      exact hf
  · have hb := D.back k
    rw [(hc k).1, (hc k).2.1] at hb
    exact hb hk
/-- A text is heard. -/
theorem DirF.heard {s : List UInt8} {ws : List Wd} (D : DirF t id outs names file said slog (.chat s :: ws) ins over hear rlog rw) : DirF t id outs names file said slog ws ins over hear (rlog ++ [⟨0, 0, tx s, []⟩]) rw := by
  refine ⟨D.okeys, D.nkeys, D.fkeys, D.ikeys, D.fil, D.back, fun m ti sz sm h => D.offers m ti sz sm (List.mem_cons_of_mem _ h), fun k h => D.stops k (List.mem_cons_of_mem _ h), fun z h => D.chats z (List.mem_cons_of_mem _ h), fun m a b h => D.nochunk m a b (List.mem_cons_of_mem _ h), ?_, ?_, ?_, ?_, fun z h => D.wok z (List.mem_cons_of_mem _ h)⟩
  · intro k
    rw [gots_app, gots_no (l := [_]) (by simp)]
    exact D.ovr k
  · intro v hv h5
    rcases List.mem_append.1 hv with g | g
    · exact D.got v g h5
    · simp at g
      subst g
      simp at h5
  · intro v hv
    rw [gots_app, gots_no (l := [_]) (by simp)]
    exact D.sent v hv
  · rw [D.texts, saids_app]
    simp [saids, saidOf, chatsOf, chatOf]
/-- A file is heard of. -/
theorem DirF.offered {m sz : Nat} {ti sm : List UInt8} {ws : List Wd} (D : DirF t id outs names file said slog (.offer m ti sz sm :: ws) ins over hear rlog rw) (hk : hasV ins m = false) : DirF t id outs names file said slog ws (ins ++ [((m : Int), (⟨0, (sz : Int), sm, []⟩ : InF))]) over hear rlog rw := by
  obtain ⟨h1, h2, h3, h4⟩ := D.offers m ti sz sm List.mem_cons_self
  have D1 := D.sendPop (fun s => by simp)
  have hf := D.fil m h1 h2
  rw [optV_none hk] at hf
  refine ⟨D1.okeys, D1.nkeys, D1.fkeys, fun j hj => ?_, fun k g1 g2 => ?_, D1.back, D1.offers, D1.stops, D1.chats, D1.nochunk, fun k => ?_, D1.got, D1.sent, D1.texts, D1.wok⟩
  · rw [hasV_snoc, Bool.or_eq_true, decide_eq_true_eq] at hj
    rcases hj with hj | hj
    · exact D.ikeys j hj
    · omega
  · rw [optV_snoc _ _ hk]
    by_cases e : k = m
    · subst e
      rw [if_pos rfl, h3, h4]
      exact hf.offered
    · rw [if_neg (by omega)]
      exact D.fil k g1 g2
  · rw [D.ovr k, hasV_snoc, getV_snoc _ _ _ _ hk]
    by_cases e : k = m
    · subst e
      simp [hk]
    · simp [e, Ne.symm e]
/-- It is heard that a chunk has come. -/
theorem DirF.came {n : Nat} {ws : List Wd} (D : DirF t id outs names file said slog sw ins over hear rlog (.came n :: ws)) : hasV outs n = true ∧ ((outCame (getV outs n OutF.nil)).2 = 0 → (outCame (getV outs n OutF.nil)).1.st = 2 → getV over n 0 + gots rlog n = 1) ∧
    DirF t id (setV outs n (outCame (getV outs n OutF.nil)).1) names file said slog sw ins over hear rlog ws := by
  have hc : ∀ j, (Wd.came n :: ws).countP (isAns j) = ws.countP (isAns j) ∧ (Wd.came n :: ws).countP (isCame j) = ws.countP (isCame j) + (if n = j then 1 else 0) ∧ (Wd.came n :: ws).countP (isStop j) = ws.countP (isStop j) := fun j => by
    simp [List.countP_cons, isAns, isCame, isStop]
  obtain ⟨h1, h2⟩ := D.back n (by rw [(hc n).2.1, if_pos rfl]; omega)
  have hf := D.fil n h1 h2
  rw [(hc n).1, (hc n).2.1, (hc n).2.2, if_pos rfl] at hf
  obtain ⟨g1, g2⟩ := hf.came
  refine ⟨D.has h1 h2, fun e0 e1 => ?_, D.outTo h1 h2 g1 (fun j hj => by rw [(hc j).1, (hc j).2.1, (hc j).2.2, if_neg (Ne.symm hj)]; exact ⟨rfl, rfl, rfl⟩) (fun e => ?_)⟩
  · obtain ⟨j, ej, e2⟩ := g2 e0 e1
    rw [D.ovr n]
    unfold optV at ej
    split at ej
    · rename_i hh
      simp only [Option.some.injEq] at ej
      rw [if_pos ⟨hh, by rw [ej]; exact e2⟩]
    · simp at ej
  · unfold outCame
    rw [if_pos (by omega)]
    exact e
/-- It is heard that a file is taken. -/
theorem DirF.answered {n : Nat} {ws : List Wd} (D : DirF t id outs names file said slog sw ins over hear rlog (.answer n 1 :: ws)) : hasV outs n = true ∧ ((outTurn (getV outs n OutF.nil) 1).2 = 0 → (outTurn (getV outs n OutF.nil) 1).1.st = 2 → getV over n 0 + gots rlog n = 1) ∧
    DirF t id (setV outs n (outTurn (getV outs n OutF.nil) 1).1) names file said slog sw ins over hear rlog ws := by
  have hc : ∀ j, (Wd.answer n 1 :: ws).countP (isAns j) = ws.countP (isAns j) + (if n = j then 1 else 0) ∧ (Wd.answer n 1 :: ws).countP (isCame j) = ws.countP (isCame j) ∧ (Wd.answer n 1 :: ws).countP (isStop j) = ws.countP (isStop j) := fun j => by
    simp [List.countP_cons, isAns, isCame, isStop]
  obtain ⟨h1, h2⟩ := D.back n (by rw [(hc n).1, if_pos rfl]; omega)
  have hf := D.fil n h1 h2
  rw [(hc n).1, (hc n).2.1, (hc n).2.2, if_pos rfl] at hf
  obtain ⟨g1, g2⟩ := hf.answered
  refine ⟨D.has h1 h2, fun e0 e1 => ?_, D.outTo h1 h2 g1 (fun j hj => by rw [(hc j).1, (hc j).2.1, (hc j).2.2, if_neg (Ne.symm hj)]; exact ⟨rfl, rfl, rfl⟩) (fun e => ?_)⟩
  · obtain ⟨j, ej, e2⟩ := g2 e0 e1
    rw [D.ovr n]
    unfold optV at ej
    split at ej
    · rename_i hh
      simp only [Option.some.injEq] at ej
      rw [if_pos ⟨hh, by rw [ej]; exact e2⟩]
    · simp at ej
  · unfold outTurn
    rw [if_pos (by rw [e]; decide)]
    exact e
theorem neuR_no (n y : Nat) (h : y ≠ 1) : NeuR (.answer n y) := fun k => ⟨by simp [isAns, h], rfl, rfl⟩
/-- It is heard that a file isn't taken. -/
theorem DirF.answeredNo {n y : Nat} {ws : List Wd} (D : DirF t id outs names file said slog sw ins over hear rlog (.answer n y :: ws)) (hy : y ≠ 1) (hk : hasV outs n = true) :
    DirF t id (setV outs n (outTurn (getV outs n OutF.nil) 3).1) names file said slog sw ins over hear rlog ws := by
  obtain ⟨m, e, h1, h2⟩ := D.keyO hk
  obtain rfl : n = m := by omega
  have D1 := D.recvPop (neuR_no n y hy)
  refine D1.outTo h1 h2 ((D1.fil n h1 h2).answeredNo.elim (·.1) (·.1)) (cnt_same n) (fun e => ?_)
  unfold outTurn
  rw [if_pos (by rw [e]; decide)]
  exact e
/-- A chunk goes over. -/
theorem DirF.chunk {n : Nat} (D : DirF t id outs names file said slog sw ins over hear rlog rw) (h1 : 1 ≤ n) (h2 : n ≤ id) (ho : ¬ outStop (getV outs n OutF.nil)) (ht : t.length < 1099511627776) :
    let o := getV outs n OutF.nil
    let r := inTake t (getV ins n InF.nil) o.sent (chunkB o)
    hasV ins n = true ∧ (∃ d, r.1 = digT t d) ∧ (r.2.2 = 0 ∧ DirF r.1 id (setV outs n (goO o)) names file said slog sw (setV ins n r.2.1) over hear (if r.2.1.st = 2 then rlog ++ [⟨5, n, ⟨#[]⟩, r.2.1.data⟩] else rlog) (rw ++ [.came n]) ∨
      r.2.2 = 16 ∧ DirF r.1 id (setV outs n (goO o)) names file said slog sw (setV ins n r.2.1) over hear rlog rw) := by
  intro o r
  have hk := D.has h1 h2
  obtain ⟨j, d, ej, e1, e2⟩ := (D.fil n h1 h2).chunk ho ht
  have hh : hasV ins n = true ∧ getV ins n InF.nil = j := by
    unfold optV at ej
    split at ej
    · rename_i hh
      simp only [Option.some.injEq] at ej
      exact ⟨hh, ej⟩
    · simp at ej
  obtain ⟨hh, rfl⟩ := hh
  refine ⟨hh, ⟨d, e1⟩, ?_⟩
  have hst : (getV outs n OutF.nil).st = 4 → (goO (getV outs n OutF.nil)).st = 4 := fun e => e
  rcases e2 with ⟨g1, g2, g3, g4⟩ | ⟨g1, g2, g4⟩
  · refine .inl ⟨g1, ?_⟩
    have hc : ∀ j, (rw ++ [Wd.came n]).countP (isAns j) = rw.countP (isAns j) ∧ (rw ++ [Wd.came n]).countP (isCame j) = rw.countP (isCame j) + (if n = j then 1 else 0) ∧ (rw ++ [Wd.came n]).countP (isStop j) = rw.countP (isStop j) := fun j => by
      simp [List.countP_append, List.countP_cons, isAns, isCame, isStop]
    refine D.turn h1 h2 ⟨_, e1⟩ (setV_keys _ _ _) hasV_setImp ?_ (fun j hj => ⟨?_, ?_, (hc j).1, ?_, (hc j).2.2⟩) ?_ ?_ ?_ ?_ ?_
    · rw [getV_setS _ _ _ hk, optV_set _ _ hh, if_pos rfl, if_pos rfl, (hc n).1, (hc n).2.1, (hc n).2.2, if_pos rfl]
      exact g4
    · rw [getV_setS _ _ _ hk, if_neg (by omega)]
    · rw [optV_set _ _ hh, if_neg (by omega)]
    · rw [(hc j).2.1, if_neg (Ne.symm hj)]; rfl
    · rw [getV_setS _ _ _ hk, if_pos rfl]
      exact hst
    all_goals rcases g2 with g2 | ⟨g2, g5⟩
    · rw [if_neg (fun e => absurd (g2.symm.trans e) (by decide))]
      exact D.ovrSame hh ⟨fun e => absurd (g2.symm.trans e) (by decide), fun e => absurd e g3⟩
    · rw [if_pos g2]
      exact D.ovrCame hh g2 g3
    · rw [if_neg (fun e => absurd (g2.symm.trans e) (by decide))]
      exact D.got
    · rw [if_pos g2]
      exact D.gotCame h1 h2 g5
    · rw [if_neg (fun e => absurd (g2.symm.trans e) (by decide))]
      exact D.sent
    · rw [if_pos g2]
      exact D.sentCame (fun z => g3 z.2)
    · rw [if_neg (fun e => absurd (g2.symm.trans e) (by decide))]
    · rw [if_pos g2]
      exact saids_came _ _
  · refine .inr ⟨g1, ?_⟩
    refine D.turn h1 h2 ⟨_, e1⟩ (setV_keys _ _ _) hasV_setImp ?_ (fun j hj => ⟨?_, ?_, rfl, rfl, rfl⟩) ?_ ?_ D.got D.sent rfl
    · rw [getV_setS _ _ _ hk, optV_set _ _ hh, if_pos rfl, if_pos rfl, g2]
      exact g4
    · rw [getV_setS _ _ _ hk, if_neg (by omega)]
    · rw [optV_set _ _ hh, if_neg (by omega)]
    · rw [getV_setS _ _ _ hk, if_pos rfl]
      exact hst
    · exact D.ovrSame hh (by rw [show r.2.1 = getV ins n InF.nil from g2])
end
section
def Dir (t : Sums) (x y : SideF) : Prop := DirF t x.app.id x.app.outs x.app.names x.file x.said x.app.log x.app.waits y.app.ins y.over y.hear y.app.log y.app.waits
structure Both (t : Sums) (x y : SideF) : Prop where
  a : Dir t x y
  b : Dir t y x
theorem Both.symm {t : Sums} {x y : SideF} (B : Both t x y) : Both t y x := ⟨B.b, B.a⟩
/-- How many chunks of a file are to be sent yet. -/
def leftO (o : OutF) : Nat := if o.st = 0 ∨ o.st = 1 then (o.data.length - o.sent + 63) / 64 else 0
def potO (L : List (Int × OutF)) : Nat := (L.map fun p => 2 * leftO p.2).sum
def potS (x y : SideF) : Nat := x.app.waits.length + y.app.waits.length + potO x.app.outs + potO y.app.outs
theorem potO_set {k : Int} {o' : OutF} : ∀ {L : List (Int × OutF)}, hasV L k = true → potO (setV L k o') + 2 * leftO (getV L k OutF.nil) = potO L + 2 * leftO o'
  | [], h => by simp [hasV] at h
  | y :: L, h => by
    unfold setV
    rw [getV_cons]
    by_cases e : y.1 = k
    · simp only [e, if_true]
      simp only [potO, List.map_cons, List.sum_cons]
      omega
    · simp only [e, if_false]
      rw [hasV_cons] at h
      have := potO_set (o' := o') (L := L) (k := k) (by simpa [e] using h)
      simp only [potO, List.map_cons, List.sum_cons] at this ⊢
      omega
theorem potO_le {k : Int} {o' : OutF} {L : List (Int × OutF)} (h : hasV L k = true) (hl : leftO o' ≤ leftO (getV L k OutF.nil)) : potO (setV L k o') ≤ potO L := by
  have := potO_set (o' := o') h
  omega
theorem potO_snoc (L : List (Int × OutF)) (p : Int × OutF) : potO (L ++ [p]) = potO L + 2 * leftO p.2 := by simp [potO]
theorem ite_le (c : Prop) [Decidable c] (m : Nat) : (if c then m else 0) ≤ m := by
  split
  · exact Nat.le_refl _
  · exact Nat.zero_le _
theorem left_turn (o : OutF) (s : Int) (h : s = 1 ∨ s = 3) : leftO (outTurn o s).1 ≤ leftO o := by
  unfold outTurn
  split
  · exact Nat.le_refl _
  · rename_i h0
    have h0 : o.st = 0 := by simpa using h0
    unfold leftO
    rw [if_pos (c := o.st = 0 ∨ o.st = 1) (.inl h0)]
    simp only
    exact ite_le _ _
theorem left_came (o : OutF) : leftO (outCame o).1 ≤ leftO o := by
  unfold outCame
  split
  · exact Nat.le_refl _
  · rename_i h0
    unfold leftO
    rw [if_pos (c := o.st = 0 ∨ o.st = 1) (.inr (by omega))]
    simp only
    exact ite_le _ _
theorem left_break (o : OutF) : leftO (outBreak o).1 ≤ leftO o := by
  unfold outBreak
  split
  · exact Nat.le_refl _
  · simp [leftO]
theorem left_go (o : OutF) (h : ¬ outStop o) (hs : o.sent ≤ o.data.length) : leftO (goO o) + 1 ≤ leftO o := by
  unfold outStop at h
  unfold leftO goO
  simp only
  rw [if_pos (.inr (by omega)), if_pos (.inr (by omega))]
  omega
structure Bd (n : Nat) (x : SideF) : Prop where
  id : x.app.id ≤ n
  waits : x.app.waits.length ≤ n
  log : x.app.log.length ≤ n
  ins : x.app.ins.length ≤ n
  names : x.app.names.length ≤ n
structure Ok (n p : Nat) (t : Sums) (x y : SideF) : Prop where
  both : Both t x y
  bx : Bd n x
  bY : Bd n y
  tl : t.length ≤ n
  pot : potS x y ≤ p
theorem Bd.mono {n m : Nat} {x : SideF} (h : Bd n x) (hm : n ≤ m) : Bd m x := ⟨Nat.le_trans h.id hm, Nat.le_trans h.waits hm, Nat.le_trans h.log hm, Nat.le_trans h.ins hm, Nat.le_trans h.names hm⟩
theorem Ok.mono {n m p q : Nat} {t : Sums} {x y : SideF} (h : Ok n p t x y) (hm : n ≤ m) (hq : p ≤ q) : Ok m q t x y := ⟨h.both, h.bx.mono hm, h.bY.mono hm, Nat.le_trans h.tl hm, Nat.le_trans h.pot hq⟩
theorem Ok.symm {n p : Nat} {t : Sums} {x y : SideF} (h : Ok n p t x y) : Ok n p t y x := ⟨h.both.symm, h.bY, h.bx, h.tl, by have := h.pot; unfold potS at this ⊢; omega⟩
theorem Ok.outs {n p : Nat} {t : Sums} {x y : SideF} (h : Ok n p t x y) : x.app.outs.length = x.app.id := by
  have := congrArg List.length h.both.a.okeys
  simpa [idKeys] using this
theorem Ok.outOk {n p : Nat} {t : Sums} {x y : SideF} (h : Ok n p t x y) {k : Int} (hk : hasV x.app.outs k = true) : OutOk (getV x.app.outs k OutF.nil) := by
  obtain ⟨m, rfl, h1, h2⟩ := h.both.a.keyO hk
  have hf := h.both.a.fil m h1 h2
  exact ⟨by rw [hf.data]; exact hf.len, by rw [hf.data]; exact hf.sent, hf.ahead⟩
theorem Ok.inOk {n p : Nat} {t : Sums} {x y : SideF} (h : Ok n p t x y) {k : Int} (hk : hasV x.app.ins k = true) : InOk (getV x.app.ins k InF.nil) := by
  obtain ⟨m, rfl, h1, h2⟩ := h.both.b.key hk
  have hf := h.both.b.fil m h1 h2
  have hi := hf.inn _ (optV_some hk)
  have hl := hf.len
  have hd := hi.dl
  refine ⟨by rw [hi.size]; omega, by rw [hi.size]; omega, by rw [hi.size]; omega, ?_⟩
  rw [hi.sum, digM, markB_length]
  decide
theorem Ok.appOk {n p : Nat} {t : Sums} {x y : SideF} (h : Ok n p t x y) (hn : n ≤ 1000000) : AppOk x.app.app :=
  ⟨fun k hk => h.outOk hk, fun k hk => h.inOk hk, by have := h.bx.waits; simp [EndW.app]; omega, Nat.le_trans h.bx.log hn, Nat.le_trans h.bx.ins hn, by have := h.outs; have := h.bx.id; show x.app.outs.length ≤ _; omega, Nat.le_trans h.bx.names hn⟩
theorem tx_back (s : ByteArray) : tx s.data.toList = s := by
  cases s
  simp [tx]
theorem Both.nil : Both [] SideF.nil SideF.nil := by
  have h : Dir [] SideF.nil SideF.nil := by
    refine ⟨rfl, rfl, rfl, ?_, ?_, ?_, ?_, ?_, ?_, ?_, ?_, ?_, ?_, rfl, ?_⟩
    · intro j h; simp [SideF.nil, EndW.nil, hasV] at h
    · intro k h1 h2; simp [SideF.nil, EndW.nil] at h2; omega
    · intro k h; simp [SideF.nil, EndW.nil] at h
    all_goals simp [SideF.nil, EndW.nil, hasV, gots, getV]
  exact ⟨h, h⟩
theorem Ok.nil : Ok 0 0 [] SideF.nil SideF.nil := ⟨Both.nil, by constructor <;> exact Nat.le_refl _, by constructor <;> exact Nat.le_refl _, Nat.le_refl _, Nat.le_refl _⟩
variable {n p : Nat} {t : Sums} {x y : SideF}
/-- A text is said, or isn't. -/
theorem chatS_cases (x : SideF) (s : ByteArray) : chatS x s = x ∨ textB s 200 = true ∧ chatS x s = { x with app := { x.app with waits := x.app.waits ++ [.chat s.data.toList] }, said := x.said ++ [s] } := by
  unfold chatS chatW
  by_cases h1 : textB s 200 = false
  · left
    simp [h1]
  · by_cases h2 : 16 ≤ x.app.waits.length
    · left
      simp [h1, h2]
    · right
      rw [if_neg h1, if_neg h2]
      exact ⟨by simpa using h1, rfl⟩
theorem neuR_chat (s : List UInt8) : NeuR (.chat s) := fun _ => ⟨rfl, rfl, rfl⟩
theorem Ok.chat (h : Ok n p t x y) {s : ByteArray} (hs : s.size ≤ 900) : Ok (n + 2) (p + 65) t (chatS x s) y := by
  rcases chatS_cases x s with e | ⟨e1, e⟩
  · rw [e]
    exact h.mono (by omega) (by omega)
  · rw [e]
    have hp := h.pot
    refine ⟨⟨?_, h.both.b.recvPush (neuR_chat _)⟩, ⟨?_, ?_, ?_, ?_, ?_⟩, h.bY.mono (by omega), Nat.le_trans h.tl (by omega), ?_⟩
    · have := h.both.a.chat (s := s.data.toList) (by rw [tx_back]; exact e1) (by rw [Array.length_toList]; exact hs)
      rw [tx_back] at this
      exact this
    · exact Nat.le_trans h.bx.id (by omega)
    · have := h.bx.waits
      simp
      omega
    · exact Nat.le_trans h.bx.log (by omega)
    · exact Nat.le_trans h.bx.ins (by omega)
    · exact Nat.le_trans h.bx.names (by omega)
    · unfold potS at hp ⊢
      simp
      omega
/-- A file is offered, or isn't. -/
theorem offerS_cases (t : Sums) (x : SideF) (s : ByteArray) (b : List UInt8) : offerS t x s b = (t, x) ∨ b.length ≤ 2048 ∧ offerS t x s b = (digT t b, { x with app := ⟨x.app.id + 1, x.app.outs ++ [(((x.app.id + 1 : Nat) : Int), (⟨0, b, 0, 0⟩ : OutF))], x.app.ins, x.app.names ++ [(((x.app.id + 1 : Nat) : Int), s)], x.app.waits ++ [.offer (x.app.id + 1) s.data.toList b.length (digM t b)], x.app.log⟩, file := putV x.file ((x.app.id + 1 : Nat) : Int) b }) := by
  unfold offerS offerW
  by_cases h1 : rightB s = false
  · left; simp [h1]
  · by_cases h2 : 2048 < b.length
    · left; simp [h1, h2]
    · by_cases h3 : liveN (x.app.outs.map fun x => x.2.st) = 4
      · left; simp [h1, h2, h3]
      · by_cases h4 : 16 ≤ x.app.waits.length
        · left; simp [h1, h2, h3, h4]
        · right
          refine ⟨by omega, ?_⟩
          rw [if_neg h1, if_neg h2, if_neg h3, if_neg h4]
          rfl
theorem neuR_offer (m sz : Nat) (a b : List UInt8) : NeuR (.offer m a sz b) := fun _ => ⟨rfl, rfl, rfl⟩
theorem Ok.offer (h : Ok n p t x y) {s : ByteArray} {b : List UInt8} (hs : s.size ≤ 900) (hn : n ≤ 1000000) : Ok (n + 2) (p + 65) (offerS t x s b).1 (offerS t x s b).2 y := by
  rcases offerS_cases t x s b with e | ⟨e1, e⟩
  · rw [e]
    exact h.mono (by omega) (by omega)
  · rw [e]
    have hp := h.pot
    have hid := h.bx.id
    have htl := h.tl
    refine ⟨⟨h.both.a.offer e1 (by rw [Array.length_toList]; exact hs) (by omega), (h.both.b.table b).recvPush (neuR_offer _ _ _ _)⟩, ⟨?_, ?_, ?_, ?_, ?_⟩, h.bY.mono (by omega), ?_, ?_⟩
    · show x.app.id + 1 ≤ _
      omega
    · have := h.bx.waits
      simp
      omega
    · exact Nat.le_trans h.bx.log (by omega)
    · exact Nat.le_trans h.bx.ins (by omega)
    · have := h.bx.names
      simp
      omega
    · have := digT_len t b
      show (digT t b).length ≤ _
      omega
    · unfold potS at hp ⊢
      simp only [potO_snoc, List.length_append, List.length_singleton]
      have : leftO ⟨0, b, 0, 0⟩ = (b.length + 63) / 64 := by simp [leftO]
      rw [this]
      omega
/-- A file is answered, or isn't. -/
theorem answerS_cases (t : Sums) (x : SideF) (k : Int) (yes : Bool) : answerS t x k yes = (t, x) ∨ hasV x.app.ins k = true ∧ (getV x.app.ins k InF.nil).st = 0 ∧
    (answerS t x k yes = (t, { x with app := { x.app with ins := setV x.app.ins k (inRefuse (getV x.app.ins k InF.nil)).1, waits := x.app.waits ++ [.answer k.toNat 0] } }) ∨
     answerS t x k yes = ((inAccept t (getV x.app.ins k InF.nil)).1, { x with app := endedW { x.app with waits := x.app.waits ++ [.answer k.toNat 1], ins := setV x.app.ins k (inAccept t (getV x.app.ins k InF.nil)).2.1 } k (inAccept t (getV x.app.ins k InF.nil)).2.1 (inAccept t (getV x.app.ins k InF.nil)).2.2 })) := by
  unfold answerS answerW
  by_cases h1 : hasV x.app.ins k = false
  · left; simp [h1]
  · by_cases h2 : (getV x.app.ins k InF.nil).st ≠ 0
    · left; rw [if_neg h1, if_pos h2]
    · by_cases h3 : 16 ≤ x.app.waits.length
      · left; rw [if_neg h1, if_neg h2, if_pos h3]
      · right
        refine ⟨by simpa using h1, by simpa using h2, ?_⟩
        rw [if_neg h1, if_neg h2, if_neg h3]
        cases yes with
        | false => left; rfl
        | true => right; rfl
theorem Ok.answer (h : Ok n p t x y) (k : Int) (yes : Bool) (hn : n ≤ 1000000) : Ok (n + 2) (p + 65) (answerS t x k yes).1 (answerS t x k yes).2 y ∧ ((answerS t x k yes).2.app.outs = x.app.outs) := by
  have hp := h.pot
  have hid := h.bx.id
  have hidy := h.bY.id
  have htl := h.tl
  rcases answerS_cases t x k yes with e | ⟨hk, h0, e | e⟩
  · rw [e]
    exact ⟨h.mono (by omega) (by omega), rfl⟩
  · rw [e]
    have hkey := h.both.b.ikeys k hk
    refine ⟨⟨⟨h.both.a.sendPush ⟨⟨by omega, by omega⟩, trivial⟩, h.both.b.refuse hk h0⟩, ⟨?_, ?_, ?_, ?_, ?_⟩, h.bY.mono (by omega), Nat.le_trans h.tl (by omega), ?_⟩, rfl⟩
    · exact Nat.le_trans h.bx.id (by omega)
    · have := h.bx.waits
      simp
      omega
    · exact Nat.le_trans h.bx.log (by omega)
    · have := h.bx.ins
      simp [setV_length]
      omega
    · exact Nat.le_trans h.bx.names (by omega)
    · unfold potS at hp ⊢
      simp
      omega
  · rw [e]
    have hkey := h.both.b.ikeys k hk
    obtain ⟨a1, ⟨d, a2⟩, a3⟩ := h.both.b.accept hk h0
    have hA : Dir (inAccept t (getV x.app.ins k InF.nil)).1 { x with app := { x.app with waits := x.app.waits ++ [.answer k.toNat 1], ins := setV x.app.ins k (inAccept t (getV x.app.ins k InF.nil)).2.1 } } y := by
      rw [a2]
      exact (h.both.a.table d).sendPush ⟨⟨by omega, by omega⟩, trivial⟩
    have hT : (inAccept t (getV x.app.ins k InF.nil)).1.length ≤ n + 2 := by
      rw [a2]
      have := digT_len t d
      omega
    have hp2 : potS { x with app := { x.app with waits := x.app.waits ++ [.answer k.toNat 1], ins := setV x.app.ins k (inAccept t (getV x.app.ins k InF.nil)).2.1 } } y ≤ p + 65 := by
      unfold potS at hp ⊢
      simp
      omega
    have hB : Bd (n + 1) { x with app := { x.app with waits := x.app.waits ++ [.answer k.toNat 1], ins := setV x.app.ins k (inAccept t (getV x.app.ins k InF.nil)).2.1 } } := by
      refine ⟨?_, ?_, ?_, ?_, ?_⟩
      · exact Nat.le_trans h.bx.id (by omega)
      · have := h.bx.waits
        simp
        omega
      · exact Nat.le_trans h.bx.log (by omega)
      · have := h.bx.ins
        simp [setV_length]
        omega
      · exact Nat.le_trans h.bx.names (by omega)
    by_cases hs : (inAccept t (getV x.app.ins k InF.nil)).2.1.st = 2
    · rw [if_pos hs] at a3
      unfold endedW
      rw [if_pos ⟨a1, hs⟩]
      refine ⟨⟨⟨hA.sendLog (vs := [_]) ?_, a3⟩, ⟨?_, ?_, ?_, ?_, ?_⟩, h.bY.mono (by omega), hT, hp2⟩, rfl⟩
      · intro v hv h4
        simp at hv
        subst hv
        simp at h4
      · exact Nat.le_trans hB.id (by omega)
      · exact Nat.le_trans hB.waits (by omega)
      · have := hB.log
        simp [EndW.hap]
        simp at this
        omega
      · exact Nat.le_trans hB.ins (by omega)
      · exact Nat.le_trans hB.names (by omega)
    · rw [if_neg hs] at a3
      unfold endedW
      rw [if_neg (fun z => hs z.2), if_neg (by rw [a1]; decide)]
      exact ⟨⟨⟨hA, a3⟩, hB.mono (by omega), h.bY.mono (by omega), hT, hp2⟩, rfl⟩
/-- A file is broken off, or isn't. -/
theorem cancelS_cases (x : SideF) (k : Int) (inn : Bool) : cancelS x k inn = x ∨
    hasV x.app.ins k = true ∧ cancelS x k inn = { x with app := { x.app with ins := setV x.app.ins k (inBreak (getV x.app.ins k InF.nil)).1, waits := x.app.waits ++ [.stop k.toNat 1] } } ∨
    hasV x.app.outs k = true ∧ (outBreak (getV x.app.outs k OutF.nil)).2 = 0 ∧ cancelS x k inn = { x with app := { x.app with outs := setV x.app.outs k (outBreak (getV x.app.outs k OutF.nil)).1, waits := x.app.waits ++ [.stop k.toNat 0] } } := by
  unfold cancelS cancelW breakW
  cases inn with
  | true =>
    simp only [if_true]
    by_cases h1 : hasV x.app.ins k = false
    · left; simp [h1]
    · by_cases h2 : (inBreak (getV x.app.ins k InF.nil)).2 = 0
      · right; left
        refine ⟨by simpa using h1, ?_⟩
        rw [if_neg h1, if_pos h2]
        rfl
      · left
        rw [if_neg h1, if_neg h2, inBreak_no h2, setV_get _ _ _ (by simpa using h1)]
  | false =>
    simp only [Bool.false_eq_true, if_false]
    by_cases h1 : hasV x.app.outs k = false
    · left; simp [h1]
    · by_cases h2 : (outBreak (getV x.app.outs k OutF.nil)).2 = 0
      · right; right
        refine ⟨by simpa using h1, h2, ?_⟩
        rw [if_neg h1, if_pos h2]
        rfl
      · left
        rw [if_neg h1, if_neg h2, outBreak_no h2, setV_get _ _ _ (by simpa using h1)]
theorem neuR_stop0 (k : Nat) : NeuR (.stop k 0) := fun _ => ⟨rfl, rfl, by simp [isStop]⟩
theorem Ok.cancel (h : Ok n p t x y) (k : Int) (inn : Bool) (hn : n ≤ 1000000) : Ok (n + 2) (p + 65) t (cancelS x k inn) y := by
  have hp := h.pot
  have hid := h.bx.id
  have hidy := h.bY.id
  rcases cancelS_cases x k inn with e | ⟨hk, e⟩ | ⟨hk, h0, e⟩
  · rw [e]
    exact h.mono (by omega) (by omega)
  · rw [e]
    have hkey := h.both.b.ikeys k hk
    refine ⟨⟨h.both.a.sendPush ⟨⟨by omega, by omega⟩, Nat.one_ne_zero⟩, h.both.b.cancelIn hk⟩, ⟨?_, ?_, ?_, ?_, ?_⟩, h.bY.mono (by omega), Nat.le_trans h.tl (by omega), ?_⟩
    · exact Nat.le_trans h.bx.id (by omega)
    · have := h.bx.waits
      simp
      omega
    · exact Nat.le_trans h.bx.log (by omega)
    · have := h.bx.ins
      simp [setV_length]
      omega
    · exact Nat.le_trans h.bx.names (by omega)
    · unfold potS at hp ⊢
      simp
      omega
  · rw [e]
    refine ⟨⟨h.both.a.cancelOut hk h0 (by omega), h.both.b.recvPush (neuR_stop0 _)⟩, ⟨?_, ?_, ?_, ?_, ?_⟩, h.bY.mono (by omega), Nat.le_trans h.tl (by omega), ?_⟩
    · exact Nat.le_trans h.bx.id (by omega)
    · have := h.bx.waits
      simp
      omega
    · exact Nat.le_trans h.bx.log (by omega)
    · exact Nat.le_trans h.bx.ins (by omega)
    · exact Nat.le_trans h.bx.names (by omega)
    · have := potO_le hk (left_break (getV x.app.outs k OutF.nil))
      unfold potS at hp ⊢
      simp
      omega
end
section
variable {n p : Nat} {t : Sums} {x y : SideF} {wd : Wd} {ws : List Wd}
/-- The end that has said its first word. -/
def popS (x : SideF) (ws : List Wd) : SideF := { x with app := { x.app with waits := ws } }
/-- The end that has taken it. -/
def gotS (y : SideF) (O : List (Int × OutF)) (I : List (Int × InF)) (L : List EvF) : SideF := { y with app := ⟨y.app.id, O, I, y.app.names, y.app.waits, L⟩ }
theorem Ok.popped {O : List (Int × OutF)} {I : List (Int × InF)} {L : List EvF} (h : Ok n p t x y) (hw : x.app.waits = wd :: ws) (h1 : Dir t (popS x ws) (gotS y O I L)) (h2 : Dir t (gotS y O I L) (popS x ws))
    (hi : I.length ≤ y.app.ins.length + 2) (hl : L.length ≤ y.app.log.length + 2) (hp : potO O ≤ potO y.app.outs) : 1 ≤ p ∧ Ok (n + 2) (p - 1) t (popS x ws) (gotS y O I L) := by
  have e1 := h.pot
  have e2 := h.bx.waits
  have e3 := h.bY.log
  have e4 := h.bY.ins
  unfold potS at e1
  rw [hw, List.length_cons] at e1 e2
  refine ⟨by omega, ⟨h1, h2⟩, ⟨Nat.le_trans h.bx.id (by omega), ?_, Nat.le_trans h.bx.log (by omega), Nat.le_trans h.bx.ins (by omega), Nat.le_trans h.bx.names (by omega)⟩, ⟨Nat.le_trans h.bY.id (by omega), Nat.le_trans h.bY.waits (by omega), ?_, ?_, Nat.le_trans h.bY.names (by omega)⟩, Nat.le_trans h.tl (by omega), ?_⟩
  · show ws.length ≤ _
    omega
  · show L.length ≤ _
    omega
  · show I.length ≤ _
    omega
  · show ws.length + y.app.waits.length + potO x.app.outs + potO O ≤ _
    omega
theorem Ok.popSame (h : Ok n p t x y) (hw : x.app.waits = wd :: ws) (h1 : Dir t (popS x ws) y) (h2 : Dir t y (popS x ws)) : 1 ≤ p ∧ Ok (n + 2) (p - 1) t (popS x ws) y :=
  h.popped (O := y.app.outs) (I := y.app.ins) (L := y.app.log) hw h1 h2 (by omega) (by omega) (Nat.le_refl _)
theorem breakW_in {E : EndW} {k : Int} (h : hasV E.ins k = true) : breakW E k true = ({ E with ins := setV E.ins k (inBreak (getV E.ins k InF.nil)).1 }, (inBreak (getV E.ins k InF.nil)).2) := by rw [breakW, if_pos rfl, if_neg (by simp [h])]
theorem breakW_noIn {E : EndW} {k : Int} (h : ¬ hasV E.ins k = true) : breakW E k true = (E, 9) := by rw [breakW, if_pos rfl, if_pos (by simpa using h)]
theorem breakW_out {E : EndW} {k : Int} (h : hasV E.outs k = true) : breakW E k false = ({ E with outs := setV E.outs k (outBreak (getV E.outs k OutF.nil)).1 }, (outBreak (getV E.outs k OutF.nil)).2) := by rw [breakW, if_neg (by simp), if_neg (by simp [h])]
theorem breakW_noOut {E : EndW} {k : Int} (h : ¬ hasV E.outs k = true) : breakW E k false = (E, 9) := by rw [breakW, if_neg (by simp), if_pos (by simpa using h)]
theorem takeW_chat (t : Sums) (E : EndW) (s : List UInt8) : takeW t E (.chat s) = (t, heardW E (tx s)) := rfl
theorem takeW_offer (t : Sums) (E : EndW) (m sz : Nat) (ti sm : List UInt8) : takeW t E (.offer m ti sz sm) = (t, offeredW E m (tx ti) sz sm) := rfl
theorem Ok.takeChat {s : List UInt8} (h : Ok n p t x y) (hw : x.app.waits = .chat s :: ws) : 1 ≤ p ∧ Ok (n + 2) (p - 1) t (popS x ws) { y with app := (takeW t y.app (.chat s)).2 } := by
  have D := h.both.a
  have E := h.both.b
  unfold Dir at D E
  rw [hw] at D E
  have e : takeW t y.app (.chat s) = (t, y.app.hap ⟨0, 0, tx s, []⟩) := by
    rw [takeW_chat, heardW, if_neg (by rw [D.chats s List.mem_cons_self]; decide)]
  rw [e]
  refine h.popped (O := y.app.outs) (I := y.app.ins) (L := y.app.log ++ [(⟨0, 0, tx s, []⟩ : EvF)]) hw D.heard ((E.recvPop (neuR_chat s)).sendLog (vs := [_]) ?_) (by omega) (by simp) (Nat.le_refl _)
  intro v hv h4
  simp at hv
  subst hv
  simp at h4
theorem Ok.takeOffer {m sz : Nat} {ti sm : List UInt8} (h : Ok n p t x y) (hw : x.app.waits = .offer m ti sz sm :: ws) : 1 ≤ p ∧ Ok (n + 2) (p - 1) t (popS x ws) { y with app := (takeW t y.app (.offer m ti sz sm)).2 } := by
  have D := h.both.a
  have E := h.both.b
  unfold Dir at D E
  rw [hw] at D E
  have e : takeW t y.app (.offer m ti sz sm) = (t, y.app) ∨ hasV y.app.ins m = false ∧ takeW t y.app (.offer m ti sz sm) = (t, { y.app with ins := y.app.ins ++ [((m : Int), (⟨0, (sz : Int), sm, []⟩ : InF))], log := y.app.log ++ [⟨1, m, tx ti, []⟩] }) := by
    rw [takeW_offer, offeredW]
    by_cases h1 : rightB (tx ti) = false
    · left; rw [if_pos h1]
    · by_cases h2 : hasV y.app.ins m = true
      · left; rw [if_neg h1, if_pos h2]
      · by_cases h3 : liveN (y.app.ins.map fun x => x.2.st) = 4
        · left; rw [if_neg h1, if_neg h2, if_pos h3]
        · right
          refine ⟨by simpa using h2, ?_⟩
          rw [if_neg h1, if_neg h2, if_neg h3]
  rcases e with e | ⟨hk, e⟩
  · rw [e]
    exact h.popSame hw (D.sendPop (fun s => by simp)) (E.recvPop (neuR_offer _ _ _ _))
  · rw [e]
    refine h.popped (O := y.app.outs) (I := y.app.ins ++ [((m : Int), (⟨0, (sz : Int), sm, []⟩ : InF))]) (L := y.app.log ++ [(⟨1, m, tx ti, []⟩ : EvF)]) hw ((D.offered hk).recvLog (vs := [_]) (by simp) (by simp)) ((E.recvPop (neuR_offer _ _ _ _)).sendLog (vs := [_]) ?_) (by simp) (by simp) (Nat.le_refl _)
    intro v hv h4
    simp at hv
    subst hv
    simp at h4
/-- A word of one's own files: the other one's state is said to turn by the sender's. -/
theorem Ok.takeAnswer {m yy : Nat} (h : Ok n p t x y) (hw : x.app.waits = .answer m yy :: ws) : 1 ≤ p ∧ Ok (n + 2) (p - 1) t (popS x ws) { y with app := (takeW t y.app (.answer m yy)).2 } := by
  have D := h.both.a
  have E := h.both.b
  unfold Dir at D E
  rw [hw] at D E
  have D1 := D.sendPop (fun s => by simp)
  by_cases hy : yy = 1
  · subst hy
    obtain ⟨hk, g1, g2⟩ := E.answered
    have hpot := potO_le hk (left_turn (getV y.app.outs m OutF.nil) 1 (.inl rfl))
    by_cases h0 : (outTurn (getV y.app.outs m OutF.nil) 1).2 = 0
    · by_cases h2 : (outTurn (getV y.app.outs m OutF.nil) 1).1.st = 2
      · have e : (takeW t y.app (.answer m 1)).2 = ⟨y.app.id, setV y.app.outs m (outTurn (getV y.app.outs m OutF.nil) 1).1, y.app.ins, y.app.names, y.app.waits, (y.app.log ++ [⟨2, m, getV y.app.names m ⟨#[]⟩, []⟩]) ++ [⟨4, m, getV y.app.names m ⟨#[]⟩, []⟩]⟩ := by
          show answeredW y.app m true = _
          unfold answeredW
          rw [if_neg (by simp [hk]), if_neg (by decide), if_pos h0]
          unfold overW tookW
          rw [if_pos h2, if_pos h0]
          rfl
        rw [e]
        refine h.popped (O := setV y.app.outs m (outTurn (getV y.app.outs m OutF.nil) 1).1) (I := y.app.ins) (L := (y.app.log ++ [⟨2, m, getV y.app.names m ⟨#[]⟩, []⟩]) ++ [⟨4, m, getV y.app.names m ⟨#[]⟩, []⟩]) hw ((D1.recvLog (vs := [_]) (by simp) (by simp)).recvLog (vs := [_]) (by simp) (by simp)) ((g2.sendLog (vs := [_]) ?_).sendLog (vs := [_]) ?_) (by omega) (by simp) hpot
        · intro v hv h4
          simp at hv
          subst hv
          simp at h4
        · intro v hv h4
          simp at hv
          subst hv
          exact g1 h0 h2
      · have e : (takeW t y.app (.answer m 1)).2 = ⟨y.app.id, setV y.app.outs m (outTurn (getV y.app.outs m OutF.nil) 1).1, y.app.ins, y.app.names, y.app.waits, y.app.log ++ [⟨2, m, getV y.app.names m ⟨#[]⟩, []⟩]⟩ := by
          show answeredW y.app m true = _
          unfold answeredW
          rw [if_neg (by simp [hk]), if_neg (by decide), if_pos h0]
          unfold overW tookW
          rw [if_neg h2, if_pos h0]
          rfl
        rw [e]
        refine h.popped (O := setV y.app.outs m (outTurn (getV y.app.outs m OutF.nil) 1).1) (I := y.app.ins) (L := y.app.log ++ [⟨2, m, getV y.app.names m ⟨#[]⟩, []⟩]) hw (D1.recvLog (vs := [_]) (by simp) (by simp)) (g2.sendLog (vs := [_]) ?_) (by omega) (by simp) hpot
        intro v hv h4
        simp at hv
        subst hv
        simp at h4
    · have e : (takeW t y.app (.answer m 1)).2 = ⟨y.app.id, setV y.app.outs m (outTurn (getV y.app.outs m OutF.nil) 1).1, y.app.ins, y.app.names, y.app.waits, y.app.log⟩ := by
        show answeredW y.app m true = _
        unfold answeredW
        rw [if_neg (by simp [hk]), if_neg (by decide), if_neg h0]
        unfold tookW
        rw [if_neg h0]
      rw [e]
      exact h.popped (O := setV y.app.outs m (outTurn (getV y.app.outs m OutF.nil) 1).1) (I := y.app.ins) (L := y.app.log) hw D1 g2 (by omega) (by omega) hpot
  · have hd : decide (yy = 1) = false := by simpa using hy
    by_cases hk : hasV y.app.outs m = true
    · have g2 := E.answeredNo hy hk
      have hpot := potO_le hk (left_turn (getV y.app.outs m OutF.nil) 3 (.inr rfl))
      by_cases h0 : (outTurn (getV y.app.outs m OutF.nil) 3).2 = 0
      · have e : (takeW t y.app (.answer m yy)).2 = ⟨y.app.id, setV y.app.outs m (outTurn (getV y.app.outs m OutF.nil) 3).1, y.app.ins, y.app.names, y.app.waits, y.app.log ++ [⟨3, m, getV y.app.names m ⟨#[]⟩, []⟩]⟩ := by
          show answeredW y.app m (decide (yy = 1)) = _
          rw [hd]
          unfold answeredW
          rw [if_neg (by simp [hk]), if_pos rfl]
          unfold tookW
          rw [if_pos h0]
          rfl
        rw [e]
        refine h.popped (O := setV y.app.outs m (outTurn (getV y.app.outs m OutF.nil) 3).1) (I := y.app.ins) (L := y.app.log ++ [⟨3, m, getV y.app.names m ⟨#[]⟩, []⟩]) hw (D1.recvLog (vs := [_]) (by simp) (by simp)) (g2.sendLog (vs := [_]) ?_) (by omega) (by simp) hpot
        intro v hv h4
        simp at hv
        subst hv
        simp at h4
      · have e : (takeW t y.app (.answer m yy)).2 = ⟨y.app.id, setV y.app.outs m (outTurn (getV y.app.outs m OutF.nil) 3).1, y.app.ins, y.app.names, y.app.waits, y.app.log⟩ := by
          show answeredW y.app m (decide (yy = 1)) = _
          rw [hd]
          unfold answeredW
          rw [if_neg (by simp [hk]), if_pos rfl]
          unfold tookW
          rw [if_neg h0]
        rw [e]
        exact h.popped (O := setV y.app.outs m (outTurn (getV y.app.outs m OutF.nil) 3).1) (I := y.app.ins) (L := y.app.log) hw D1 g2 (by omega) (by omega) hpot
    · have e : (takeW t y.app (.answer m yy)).2 = y.app := by
        show answeredW y.app m (decide (yy = 1)) = _
        unfold answeredW
        rw [if_pos (by simpa using hk)]
      rw [e]
      exact h.popSame hw D1 (E.recvPop (neuR_no m yy hy))
theorem Ok.takeCame {m : Nat} (h : Ok n p t x y) (hw : x.app.waits = .came m :: ws) : 1 ≤ p ∧ Ok (n + 2) (p - 1) t (popS x ws) { y with app := (takeW t y.app (.came m)).2 } := by
  have D := h.both.a
  have E := h.both.b
  unfold Dir at D E
  rw [hw] at D E
  have D1 := D.sendPop (fun s => by simp)
  obtain ⟨hk, g1, g2⟩ := E.came
  have hpot := potO_le hk (left_came (getV y.app.outs m OutF.nil))
  by_cases h0 : (outCame (getV y.app.outs m OutF.nil)).2 = 0 ∧ (outCame (getV y.app.outs m OutF.nil)).1.st = 2
  · have e : (takeW t y.app (.came m)).2 = ⟨y.app.id, setV y.app.outs m (outCame (getV y.app.outs m OutF.nil)).1, y.app.ins, y.app.names, y.app.waits, y.app.log ++ [⟨4, m, getV y.app.names m ⟨#[]⟩, []⟩]⟩ := by
      show cameW y.app m = _
      unfold cameW
      rw [if_neg (by simp [hk]), if_pos h0.1]
      unfold overW
      rw [if_pos h0.2]
      rfl
    rw [e]
    refine h.popped (O := setV y.app.outs m (outCame (getV y.app.outs m OutF.nil)).1) (I := y.app.ins) (L := y.app.log ++ [⟨4, m, getV y.app.names m ⟨#[]⟩, []⟩]) hw (D1.recvLog (vs := [_]) (by simp) (by simp)) (g2.sendLog (vs := [_]) ?_) (by omega) (by simp) hpot
    intro v hv h4
    simp at hv
    subst hv
    exact g1 h0.1 h0.2
  · have e : (takeW t y.app (.came m)).2 = ⟨y.app.id, setV y.app.outs m (outCame (getV y.app.outs m OutF.nil)).1, y.app.ins, y.app.names, y.app.waits, y.app.log⟩ := by
      show cameW y.app m = _
      unfold cameW
      rw [if_neg (by simp [hk])]
      by_cases h1 : (outCame (getV y.app.outs m OutF.nil)).2 = 0
      · rw [if_pos h1]
        unfold overW
        rw [if_neg (fun e => h0 ⟨h1, e⟩)]
      · rw [if_neg h1]
    rw [e]
    exact h.popped (O := setV y.app.outs m (outCame (getV y.app.outs m OutF.nil)).1) (I := y.app.ins) (L := y.app.log) hw D1 g2 (by omega) (by omega) hpot
theorem Ok.takeStop {m f : Nat} (h : Ok n p t x y) (hw : x.app.waits = .stop m f :: ws) : 1 ≤ p ∧ Ok (n + 2) (p - 1) t (popS x ws) { y with app := (takeW t y.app (.stop m f)).2 } := by
  have D := h.both.a
  have E := h.both.b
  unfold Dir at D E
  rw [hw] at D E
  have D1 := D.sendPop (fun s => by simp)
  have hlog : ∀ v ∈ [(⟨6, (m : Int), ⟨#[]⟩, []⟩ : EvF)], v.kind = 4 → getV x.over v.id 0 + gots x.app.log v.id = 1 := by
    intro v hv h4
    simp at hv
    subst hv
    simp at h4
  by_cases hf : f = 0
  · subst hf
    have E1 := E.recvPop (neuR_stop0 m)
    by_cases hk : hasV y.app.ins m = true
    · by_cases h0 : (inBreak (getV y.app.ins m InF.nil)).2 = 0
      · have e : (takeW t y.app (.stop m 0)).2 = ⟨y.app.id, y.app.outs, setV y.app.ins m (inBreak (getV y.app.ins m InF.nil)).1, y.app.names, y.app.waits, y.app.log ++ [⟨6, m, ⟨#[]⟩, []⟩]⟩ := by
          show (stoppedW y.app m true).1 = _
          rw [stoppedW, breakW_in hk, if_pos h0]
          rfl
        rw [e]
        exact h.popped (O := y.app.outs) (I := setV y.app.ins m (inBreak (getV y.app.ins m InF.nil)).1) (L := y.app.log ++ [⟨6, m, ⟨#[]⟩, []⟩]) hw ((D.stoppedIn hk).recvLog (vs := [_]) (by simp) (by simp)) (E1.sendLog hlog) (by simp [setV_length]) (by simp) (Nat.le_refl _)
      · have e : (takeW t y.app (.stop m 0)).2 = y.app := by
          show (stoppedW y.app m true).1 = _
          rw [stoppedW, breakW_in hk, if_neg h0]
          rw [inBreak_no h0]
          show EndW.mk _ _ _ _ _ _ = _
          rw [setV_get _ _ _ hk]
        rw [e]
        exact h.popSame hw D1 E1
    · have e : (takeW t y.app (.stop m 0)).2 = y.app := by
        show (stoppedW y.app m true).1 = _
        rw [stoppedW, breakW_noIn hk, if_neg (by simp)]
      rw [e]
      exact h.popSame hw D1 E1
  · have hd : decide (f = 0) = false := by simpa using hf
    by_cases hk : hasV y.app.outs m = true
    · have hpot := potO_le hk (left_break (getV y.app.outs m OutF.nil))
      by_cases h0 : (outBreak (getV y.app.outs m OutF.nil)).2 = 0
      · have e : (takeW t y.app (.stop m f)).2 = ⟨y.app.id, setV y.app.outs m (outBreak (getV y.app.outs m OutF.nil)).1, y.app.ins, y.app.names, y.app.waits, y.app.log ++ [⟨6, m, ⟨#[]⟩, []⟩]⟩ := by
          show (stoppedW y.app m (decide (f = 0))).1 = _
          rw [hd]
          rw [stoppedW, breakW_out hk, if_pos h0]
          rfl
        rw [e]
        exact h.popped (O := setV y.app.outs m (outBreak (getV y.app.outs m OutF.nil)).1) (I := y.app.ins) (L := y.app.log ++ [⟨6, m, ⟨#[]⟩, []⟩]) hw (D1.recvLog (vs := [_]) (by simp) (by simp)) ((E.stoppedOut hk h0).sendLog hlog) (by omega) (by simp) hpot
      · have e : (takeW t y.app (.stop m f)).2 = y.app := by
          show (stoppedW y.app m (decide (f = 0))).1 = _
          rw [hd]
          rw [stoppedW, breakW_out hk, if_neg h0]
          rw [outBreak_no h0]
          show EndW.mk _ _ _ _ _ _ = _
          rw [setV_get _ _ _ hk]
        rw [e]
        refine h.popSame hw D1 (E.deaf (.inl ?_))
        unfold outBreak at h0
        by_cases hh : (getV y.app.outs m OutF.nil).st ≠ 0 ∧ (getV y.app.outs m OutF.nil).st ≠ 1
        · exact hh
        · rw [if_neg hh] at h0
          exact absurd rfl h0
    · have e : (takeW t y.app (.stop m f)).2 = y.app := by
        show (stoppedW y.app m (decide (f = 0))).1 = _
        rw [hd]
        rw [stoppedW, breakW_noOut hk, if_neg (by simp)]
      rw [e]
      refine h.popSame hw D1 (E.deaf (.inr fun g => hk ?_))
      exact (hasV_ids E.okeys _).2 (by omega)
theorem takeW_table (A : EndW) : ∀ wd : Wd, (∀ a b c, wd ≠ .chunk a b c) → (takeW t A wd).1 = t
  | .chat _, _ => rfl
  | .offer _ _ _ _, _ => rfl
  | .answer _ _, _ => rfl
  | .chunk _ _ _, h => absurd rfl (h _ _ _)
  | .came _, _ => rfl
  | .stop _ _, _ => rfl
/-- A word that waits is said. -/
theorem Ok.take (h : Ok n p t x y) (hw : x.app.waits = wd :: ws) : wd.ok ∧ (takeW t y.app wd).1 = t ∧ 1 ≤ p ∧ Ok (n + 2) (p - 1) t (popS x ws) { y with app := (takeW t y.app wd).2 } := by
  have hm : wd ∈ x.app.waits := by rw [hw]; exact List.mem_cons_self
  have hok := h.both.a.wok wd hm
  have hno := h.both.a.nochunk
  refine ⟨hok, takeW_table _ _ (fun a b c e => hno a b c (e ▸ hm)), ?_⟩
  cases wd with
  | chat s => exact h.takeChat hw
  | offer m ti sz sm => exact h.takeOffer hw
  | answer m yy => exact h.takeAnswer hw
  | chunk a b c => exact absurd hm (hno a b c)
  | came m => exact h.takeCame hw
  | stop m f => exact h.takeStop hw
/-- A chunk is said. -/
theorem Ok.takeChunk {i : Nat} (h : Ok n p t x y) (hn : n ≤ 1000000) (h1 : 1 ≤ i) (h2 : i ≤ x.app.id) (ho : ¬ outStop (getV x.app.outs i OutF.nil)) :
    (chunkX x.app i).ok ∧ 1 ≤ p ∧ Ok (n + 2) (p - 1) (takeW t y.app (chunkX x.app i)).1 { x with app := goW x.app i } { y with app := (takeW t y.app (chunkX x.app i)).2 } := by
  have e1 := h.pot
  have e3 := h.bY.log
  have e4 := h.bY.ins
  have e5 := h.bY.waits
  have e6 := h.bx.id
  have e7 := h.tl
  have hk := h.both.a.has h1 h2
  obtain ⟨hh, ⟨d, hd⟩, g⟩ := h.both.a.chunk h1 h2 ho (by omega)
  have hf := h.both.a.fil i h1 h2
  have hlen := hf.len
  have hsent := hf.sent
  have hdat := hf.data
  have hgo := left_go _ ho (by rw [hdat]; exact hsent)
  have hpo := potO_set (o' := goO (getV x.app.outs i OutF.nil)) hk
  have hcl : (chunkB (getV x.app.outs i OutF.nil)).length ≤ 64 := by
    rw [chunkB]
    simp
    omega
  have htl : (digT t d).length ≤ n + 2 := by
    have := digT_len t d
    omega
  refine ⟨⟨by omega, by omega, by omega⟩, ?_⟩
  unfold potS at e1
  rcases g with ⟨g1, g2⟩ | ⟨g1, g2⟩
  · have e : takeW t y.app (chunkX x.app i) = ((inTake t (getV y.app.ins i InF.nil) (getV x.app.outs i OutF.nil).sent (chunkB (getV x.app.outs i OutF.nil))).1, ⟨y.app.id, y.app.outs, setV y.app.ins i (inTake t (getV y.app.ins i InF.nil) (getV x.app.outs i OutF.nil).sent (chunkB (getV x.app.outs i OutF.nil))).2.1, y.app.names, y.app.waits ++ [.came i], if (inTake t (getV y.app.ins i InF.nil) (getV x.app.outs i OutF.nil).sent (chunkB (getV x.app.outs i OutF.nil))).2.1.st = 2 then y.app.log ++ [⟨5, i, ⟨#[]⟩, (inTake t (getV y.app.ins i InF.nil) (getV x.app.outs i OutF.nil).sent (chunkB (getV x.app.outs i OutF.nil))).2.1.data⟩] else y.app.log⟩) := by
      show pieceW t y.app i (getV x.app.outs i OutF.nil).sent (chunkB (getV x.app.outs i OutF.nil)) = _
      unfold pieceW
      rw [if_neg (by simp [hh])]
      unfold endedW gotW
      rw [if_pos g1]
      by_cases hs : (inTake t (getV y.app.ins i InF.nil) (getV x.app.outs i OutF.nil).sent (chunkB (getV x.app.outs i OutF.nil))).2.1.st = 2
      · rw [if_pos ⟨g1, hs⟩, if_pos hs]
        rfl
      · rw [if_neg (fun z => hs z.2), if_neg (by rw [g1]; decide), if_neg hs]
        rfl
    rw [e]
    refine ⟨by omega, ⟨g2, ?_⟩, ⟨Nat.le_trans h.bx.id (by omega), Nat.le_trans h.bx.waits (by omega), Nat.le_trans h.bx.log (by omega), Nat.le_trans h.bx.ins (by omega), Nat.le_trans h.bx.names (by omega)⟩, ⟨Nat.le_trans h.bY.id (by omega), ?_, ?_, ?_, Nat.le_trans h.bY.names (by omega)⟩, ?_, ?_⟩
    · simp only
      rw [hd]
      have E := (h.both.b.table d).sendPush (x := .came i) ⟨by show i ≤ _; omega, trivial⟩
      by_cases hs : (inTake t (getV y.app.ins i InF.nil) (getV x.app.outs i OutF.nil).sent (chunkB (getV x.app.outs i OutF.nil))).2.1.st = 2
      · rw [if_pos hs]
        refine E.sendLog (vs := [_]) ?_
        intro v hv h4
        simp at hv
        subst hv
        simp at h4
      · rw [if_neg hs]
        exact E
    · simp
      omega
    · show List.length (ite _ _ _) ≤ _
      split
      · simp
        omega
      · omega
    · simp only [setV_length]
      omega
    · rw [hd]
      exact htl
    · show x.app.waits.length + (y.app.waits ++ [Wd.came i]).length + potO (setV x.app.outs i (goO (getV x.app.outs i OutF.nil))) + potO y.app.outs ≤ _
      simp
      omega
  · have e : takeW t y.app (chunkX x.app i) = ((inTake t (getV y.app.ins i InF.nil) (getV x.app.outs i OutF.nil).sent (chunkB (getV x.app.outs i OutF.nil))).1, { y.app with ins := setV y.app.ins i (inTake t (getV y.app.ins i InF.nil) (getV x.app.outs i OutF.nil).sent (chunkB (getV x.app.outs i OutF.nil))).2.1 }) := by
      show pieceW t y.app i (getV x.app.outs i OutF.nil).sent (chunkB (getV x.app.outs i OutF.nil)) = _
      unfold pieceW
      rw [if_neg (by simp [hh])]
      unfold endedW gotW
      rw [g1, if_neg (fun z => absurd z.1 (by decide)), if_neg (by decide), if_neg (by decide)]
    rw [e]
    refine ⟨by omega, ⟨g2, ?_⟩, ⟨Nat.le_trans h.bx.id (by omega), Nat.le_trans h.bx.waits (by omega), Nat.le_trans h.bx.log (by omega), Nat.le_trans h.bx.ins (by omega), Nat.le_trans h.bx.names (by omega)⟩, ⟨Nat.le_trans h.bY.id (by omega), Nat.le_trans h.bY.waits (by omega), Nat.le_trans h.bY.log (by omega), ?_, Nat.le_trans h.bY.names (by omega)⟩, ?_, ?_⟩
    · simp only
      rw [hd]
      exact h.both.b.table d
    · simp only [setV_length]
      omega
    · rw [hd]
      exact htl
    · show x.app.waits.length + y.app.waits.length + potO (setV x.app.outs i (goO (getV x.app.outs i OutF.nil))) + potO y.app.outs ≤ _
      omega
theorem firstW_some {A : EndW} {i : Nat} (h : firstW A = some i) : 1 ≤ i ∧ i ≤ A.id ∧ ¬ outStop (getV A.outs i OutF.nil) := by
  unfold firstW at h
  have h1 := List.mem_of_find?_eq_some h
  have h2 := List.find?_some h
  rw [List.mem_range'] at h1
  obtain ⟨j, h3, h4⟩ := h1
  exact ⟨by omega, by omega, by simpa using h2⟩
/-- What an end says next: that is a word within bounds, if any; what always holds, holds then. -/
theorem Ok.move (h : Ok n p t x y) (hn : n ≤ 1000000) : (∀ wd, (nextW x.app).2 = some wd → wd.ok) ∧
    ((moveW t x y).2.2.2 = true ∧ 1 ≤ p ∧ Ok (n + 2) (p - 1) (moveW t x y).1 (moveW t x y).2.1 (moveW t x y).2.2.1 ∨ moveW t x y = (t, x, y, false) ∧ x.app.waits = [] ∧ firstW x.app = none) ∧
    (moveW t x y).2.1.app.log = x.app.log ∧ (moveW t x y).2.1.over = x.over ∧ (moveW t x y).2.2.1.over = y.over := by
  cases hw : x.app.waits with
  | cons wd ws =>
    have hx : nextW x.app = ({ x.app with waits := ws }, some wd) := by
      unfold nextW
      rw [hw]
    obtain ⟨h1, h2, h3, h4⟩ := h.take hw
    unfold moveW
    rw [hx]
    refine ⟨fun w e => ?_, .inl ⟨rfl, h3, ?_⟩, rfl, rfl, rfl⟩
    · simp only [Option.some.injEq] at e
      subst e
      exact h1
    · simp only
      rw [h2]
      exact h4
  | nil =>
    cases hf : firstW x.app with
    | some i =>
      have hx : nextW x.app = (goW x.app i, some (chunkX x.app i)) := by
        unfold nextW
        rw [hw]
        simp only
        rw [hf]
      obtain ⟨g1, g2, g3⟩ := firstW_some hf
      obtain ⟨h1, h3, h4⟩ := h.takeChunk hn g1 g2 g3
      unfold moveW
      rw [hx]
      refine ⟨fun w e => ?_, .inl ⟨rfl, h3, h4⟩, rfl, rfl, rfl⟩
      simp only [Option.some.injEq] at e
      subst e
      exact h1
    | none =>
      have hx : nextW x.app = (x.app, none) := by
        unfold nextW
        rw [hw]
        simp only
        rw [hf]
      unfold moveW
      rw [hx]
      exact ⟨fun w e => by simp at e, .inr ⟨rfl, rfl, rfl⟩, rfl, rfl, rfl⟩
end
end Go.Proofs.Ytiplepdmkbiehaa
namespace Go.Proofs.Ytiplepdmkbiehaa
set_option linter.unusedSimpArgs false
set_option linter.unusedVariables false
open Go.RowKit Go.Maps Go.MapKept Go.WideMaps
def waitsB (A : AppF) : Bool := decide (0 < A.waits.length) || A.outs.any fun x => decide (x.2.st = 1)
set_option maxRecDepth 100000 in
set_option maxHeartbeats 4000000 in
theorem appWaits_any (a q : Nat) (P : List Nat × List Nat) (A : AppF) (l : List Res) (w : World) (h : Hold w (appR a q P A :: l)) :
    Calls Try.prog 16 #[.pointer (some ⟨a, 0, none⟩)] w fun e w' => e = .returned (.bool (waitsB A)) ∧ Hold w' (appR a q P A :: l) := by
  obtain ⟨ia, outs, ins, names, waits, log⟩ := A
  have HC0 := hI h
  obtain ⟨ob, ib, nb, wv, lv, h⟩ := appR_open h
  obtain ⟨wa, wc, rfl, hw1, hw2⟩ := waitsR_form (v := wv) (ws := waits) h (by simp)
  have c5 : w.cell? ⟨a, 5, none⟩ = some (.slice wa waits.length wc) := h.blk0.cell 5
  have c2 : w.cell? ⟨a, 2, none⟩ = some (.map (some ob)) := h.blk0.cell 2
  unfold maxLen at hw2
  by_cases hw : 0 < waits.length
  · have hw' : (0 : Int) < waits.length := by omega
    have HR : Hid (waitsB ⟨ia, outs, ins, names, waits, log⟩ = true) := hI (by simp [waitsB, hw])
    clear h hw
    go_enter Try.func16, Try.ntmps16
    go_wp2_with fail
    go_ret
    rw [HR.out]
    exact ⟨rfl, HC0.out⟩
  · have hw0 : waits.length = 0 := by omega
    have HR : Hid (waitsB ⟨ia, outs, ins, names, waits, log⟩ = outs.any fun x => decide (x.2.st = 1)) := hI (by simp [waitsB, hw0])
    have HBACK : Hid (∀ W : World, Hold W (mapV Try.prog 2 kI ob (ptrM P.1 outs) :: ptrsR outR P.1 outs :: Res.all [.blk a [provV q, .int .i64 ia, .map (some ob), .map (some ib), .map (some nb), .slice wa waits.length wc, lv] 65, insR ib P.2 ins, mapV Try.prog 2 kI nb (namV names), waitsR (.slice wa waits.length wc) waits, logR lv log] :: l) → Hold W (appR a q P ⟨ia, outs, ins, names, waits, log⟩ :: l)) := hI (fun W hW => appR_shut (Hold.app.1 (outsR_iff.2 hW).swap).pull6.swap)
    have h1 := outsR_iff.1 h.swap
    have HM := hI (h1.mapVOf List.mem_cons_self)
    have HC : Hid (Hold w (mapV Try.prog 2 kI ob (ptrM P.1 outs) :: ptrsR outR P.1 outs :: Res.all [.blk a [provV q, .int .i64 ia, .map (some ob), .map (some ib), .map (some nb), .slice wa waits.length wc, lv] 65, insR ib P.2 ins, mapV Try.prog 2 kI nb (namV names), waitsR (.slice wa waits.length wc) waits, logR lv log] :: l)) := hI (outsR_iff.1 (Hold.app.2 h.swap.push6).swap)
    obtain ⟨R, hR⟩ : ∃ R, R = Res.all [.blk a [provV q, .int .i64 ia, .map (some ob), .map (some ib), .map (some nb), .slice wa waits.length wc, lv] 65, insR ib P.2 ins, mapV Try.prog 2 kI nb (namV names), waitsR (.slice wa waits.length wc) waits, logR lv log] := ⟨_, rfl⟩
    rw [← hR] at HBACK HC
    have hw0' : (0 : Int) < waits.length ↔ False := ⟨fun h => by omega, False.elim⟩
    clear h h1 hR hw
    go_enter Try.func16, Try.ntmps16
    go_wp2_with (at_range; refine wpList_rangeV _ rfl _ 61 rfl 2 66 intK kI_inj Try.underlying61 ob _ rfl HM.out ?_)
    intro w2 left0 hleft hrg hbel
    have HC2 := hI (HC.out.rngVStart hrg hbel)
    obtain ⟨r, hr⟩ : ∃ r, r = w.heap.size := ⟨_, rfl⟩
    rw [← hr] at HC2
    rw [← hr]
    have HL0 : Hid (∀ x ∈ outs, left0 (kI x.1) = true ∨ ¬ x.2.st = 1) := hI (fun x hx => .inl (by
      rw [hleft]
      rw [hasV_keys x.1 (ptrM_keys (ptrsR_len HC.out.swap))]
      exact List.any_eq_true.2 ⟨x, hx, by simp⟩))
    clear hrg hbel hleft HM HC hr
    go_wp2_with fail
    go_loopw [] (fun wr => ∃ (left : Lit → Bool) (cnt : Nat), (∀ x ∈ outs, left (kI x.1) = true ∨ ¬ x.2.st = 1) ∧ Hold wr (rngV Try.prog 2 kI ob r (ptrM P.1 outs) left cnt :: ptrsR outR P.1 outs :: R :: l)) (fun wr => wr.rangeLeft ob r)
    case atStart => exact ⟨left0, _, HL0.out, HC2.out⟩
    case round =>
      obtain ⟨left, cnt, hlf, hr⟩ := hrel
      have HLF := hI hlf
      have HCR := hI hr
      have HRG := hI hr.rngVOf
      clear hlf hr HC2 HL0
      go_wp2_with (at_next; refine wpList_nextV _ rfl _ rfl 2 intK kI_inj (Value.int .i64) (fun _ _ h => kI_inv h) ob r _ left cnt rfl HRG.out ?_ ?_)
      · intro hc0 hl0
        have HE := hI (HBACK.out _ HCR.out.rngVEnd)
        have HF : Hid ((outs.any fun x => decide (x.2.st = 1)) = false) := hI (List.any_eq_false.2 fun x hx => by
          rcases HLF.out x hx with h | h
          · rw [hl0] at h; cases h
          · simpa using h)
        clear hc0 hl0 HCR HRG HLF
        go_wp2_with fail
        go_ret
        rw [HR.out, HF.out]
        exact ⟨rfl, HE.out⟩
      · intro s v w3 cnt3 hmem hls hrg3 hlt3 hk3 hz3 hen
        have hc3 := HCR.out.rngVTurn hrg3 hk3
        obtain ⟨_, _, hml, _⟩ := HRG.out
        obtain ⟨hhas, rfl⟩ := ptrs_entry hml.1 hmem hc3.tail
        obtain ⟨p, R0, hp, hf, -⟩ := ptrsR_focus s OutF.nil hc3.tail hhas
        have hmo := getV_mem hhas OutF.nil
        obtain ⟨o, ho⟩ : ∃ o, o = getV outs s OutF.nil := ⟨_, rfl⟩
        rw [← ho] at hf hmo
        rw [hp] at hen ⊢
        obtain ⟨st, data, sent, ahead⟩ := o
        obtain ⟨_, _, -, -, hf⟩ := outR_open hf
        have cp : w3.cell? ⟨p, 0, none⟩ = some (.int .i64 st) := hf.blk0.cell 0
        have hle := hrg3.left_eq
        have hkeys := ptrs_keys (ptrsR_len hc3.tail) hml.1
        by_cases hst : st = 1
        · subst hst
          have HF : Hid ((outs.any fun x => decide (x.2.st = 1)) = true) := hI (List.any_eq_true.2 ⟨_, hmo, by simp⟩)
          have HE := hI (HBACK.out _ hc3.rngVEnd)
          clear hf hrg3 hlt3 hk3 hz3 hls hmem hmo ho hml hc3 hkeys HCR HRG HLF
          go_wp2_with fail
          go_ret
          rw [HR.out, HF.out]
          exact ⟨rfl, HE.out⟩
        · have hst' : (st == 1) = false := by simpa using hst
          have HC3 := hI hc3
          have HLF3 : Hid (∀ x ∈ outs, (left (kI x.1) && !(kI x.1).sameKey (kI s)) = true ∨ ¬ x.2.st = 1) := hI (fun x hx => by
            rcases HLF.out x hx with h | h
            · by_cases hxs : x.1 = s
              · have := keyV_inj hkeys hx hmo hxs
                exact .inr (by rw [this]; exact hst)
              · refine .inl ?_
                rw [h, kI_inj]
                simp [hxs]
            · exact .inr h)
          have HLE : Hid (w3.rangeLeft ob r < wr.rangeLeft ob r) := hI (by rw [hle, HRG.out.left_eq]; exact hlt3)
          clear hf hrg3 hlt3 hk3 hz3 hls hmem hmo ho hml hc3 hkeys hst HCR HRG HLF hle
          go_wp2_with fail
          go_roundw
          case rel => exact ⟨_, cnt3, HLF3.out, HC3.out⟩
          case measure => exact HLE.out
end Go.Proofs.Ytiplepdmkbiehaa
namespace Go.Proofs.Ytiplepdmkbiehaa
set_option linter.unusedSimpArgs false
set_option linter.unusedVariables false
open Go.RowKit
section
variable {n p : Nat} {t : Sums} {x y : SideF}
/-- What is told to be sent has come, and that was seen. -/
def Seen (y x : SideF) : Prop := ∀ v ∈ y.app.log, v.kind = 4 → getV x.over v.id 0 = 1
def bare (y : SideF) : SideF := { y with app := { y.app with log := [] } }
def logS (y : SideF) (vs : List EvF) : SideF := { y with app := { y.app with log := vs } }
theorem lookE_app (y : SideF) (v : EvF) : (lookE y v).app = y.app := by
  unfold lookE
  split
  · rfl
  · split <;> rfl
theorem lookE_log (y : SideF) (v : EvF) (vs : List EvF) : lookE (logS y vs) v = logS (lookE y v) vs := by
  unfold lookE logS
  split
  · rfl
  · split <;> rfl
/-- One thing that has happened is looked at. -/
theorem look_one {v : EvF} {vs : List EvF} (hl : y.app.log = v :: vs) (B : Both t x y) (S : Seen y x) : lookOk y x v ∧ Both t x (logS (lookE y v) vs) ∧ Seen (logS (lookE y v) vs) x := by
  have D := B.a
  have E := B.b
  unfold Dir at D E
  rw [hl] at D E
  have hS : Seen (logS (lookE y v) vs) x := fun w hw h4 => S w (by rw [hl]; exact List.mem_cons_of_mem _ hw) h4
  have hs4 := S v (by rw [hl]; exact List.mem_cons_self)
  have E1 : ∀ z : SideF, z.app = y.app → z.said = y.said → z.file = y.file → Dir t (logS z vs) x := by
    intro z h1 h2 h3
    unfold Dir logS
    simp only
    rw [h1, h2, h3]
    exact ⟨E.okeys, E.nkeys, E.fkeys, E.ikeys, E.fil, E.back, E.offers, E.stops, E.chats, E.nochunk, E.ovr, E.got, fun w hw => E.sent w (List.mem_cons_of_mem _ hw), E.texts, E.wok⟩
  have hgot := D.got v List.mem_cons_self
  by_cases h5 : v.kind = 5
  · obtain ⟨g1, g2⟩ := hgot h5
    have ho := D.ovr v.id
    have hg : gots (v :: vs) v.id = gots vs v.id + 1 := by simp [gots, isGot, h5]
    have hgn : ∀ k, ¬ k = v.id → gots (v :: vs) k = gots vs k := fun k hk => by simp [gots, isGot, Ne.symm hk]
    rw [hg] at ho
    by_cases hc : hasV y.app.ins v.id = true ∧ (getV y.app.ins v.id InF.nil).st = 2
    · rw [if_pos hc] at ho
      have e : lookE y v = { y with over := putV y.over v.id 1 } := by
        unfold lookE
        rw [if_neg (by omega), if_pos h5]
      refine ⟨⟨fun _ => ⟨g1, g2, by omega⟩, fun e4 => by omega⟩, ⟨?_, E1 _ (lookE_app y v) (by rw [e]) (by rw [e])⟩, hS⟩
      rw [e]
      refine ⟨D.okeys, D.nkeys, D.fkeys, D.ikeys, D.fil, D.back, D.offers, D.stops, D.chats, D.nochunk, ?_, fun w hw => D.got w (List.mem_cons_of_mem _ hw), ?_, ?_, D.wok⟩
      · intro k
        show getV (putV y.over v.id 1) k 0 + gots vs k = ite (hasV y.app.ins k = true ∧ (getV y.app.ins k InF.nil).st = 2) 1 0
        rw [getV_put]
        by_cases hk : k = v.id
        · subst hk
          rw [if_pos rfl, if_pos hc]
          omega
        · rw [if_neg (Ne.symm hk), ← hgn k hk]
          exact D.ovr k
      · intro w hw h4
        show getV (putV y.over v.id 1) w.id 0 + gots vs w.id = 1
        rw [getV_put]
        by_cases hk : w.id = v.id
        · rw [hk, if_pos rfl]
          omega
        · rw [if_neg (Ne.symm hk), ← hgn _ hk]
          exact D.sent w hw h4
      · have := D.texts
        rw [this]
        show _ = y.hear ++ saids vs ++ chatsOf x.app.waits
        congr 2
        simp [saids, saidOf, h5]
    · rw [if_neg hc] at ho
      omega
  · have hgn : ∀ k, gots (v :: vs) k = gots vs k := fun k => by simp [gots, isGot, h5]
    have hO := D.ovr
    have hT := D.sent
    simp only [hgn] at hO hT
    by_cases h0 : v.kind = 0
    · have e : lookE y v = { y with hear := y.hear ++ [v.text] } := by
        unfold lookE
        rw [if_pos h0]
      refine ⟨⟨fun e => absurd e h5, fun e4 => by omega⟩, ⟨?_, E1 _ (lookE_app y v) (by rw [e]) (by rw [e])⟩, hS⟩
      rw [e]
      refine ⟨D.okeys, D.nkeys, D.fkeys, D.ikeys, D.fil, D.back, D.offers, D.stops, D.chats, D.nochunk, hO, fun w hw => D.got w (List.mem_cons_of_mem _ hw), hT, ?_, D.wok⟩
      have := D.texts
      rw [this]
      show _ = (y.hear ++ [v.text]) ++ saids vs ++ chatsOf x.app.waits
      simp [saids, saidOf, h0]
    · have e : lookE y v = y := by
        unfold lookE
        rw [if_neg h0, if_neg h5]
      refine ⟨⟨fun e => absurd e h5, fun e4 => hs4 e4⟩, ⟨?_, E1 _ (lookE_app y v) (by rw [e]) (by rw [e])⟩, hS⟩
      rw [e]
      refine ⟨D.okeys, D.nkeys, D.fkeys, D.ikeys, D.fil, D.back, D.offers, D.stops, D.chats, D.nochunk, hO, fun w hw => D.got w (List.mem_cons_of_mem _ hw), hT, ?_, D.wok⟩
      have := D.texts
      rw [this]
      show _ = y.hear ++ saids vs ++ chatsOf x.app.waits
      congr 2
      simp [saids, saidOf, h0]
/-- All that has happened. -/
theorem look_all : ∀ (vs : List EvF) (y : SideF), y.app.log = vs → Both t x y → Seen y x → lookOks x (bare y) vs ∧ Both t x (lookL (bare y) vs) ∧ (lookL (bare y) vs).app = (bare y).app
  | [], y, hl, B, S => by
    refine ⟨trivial, ?_, rfl⟩
    have : bare y = y := by
      obtain ⟨⟨id, outs, ins, names, waits, log⟩, said, hear, file, over⟩ := y
      simp only at hl
      subst hl
      rfl
    show Both t x (bare y)
    rw [this]
    exact B
  | v :: vs, y, hl, B, S => by
    obtain ⟨h1, h2, h3⟩ := look_one hl B S
    obtain ⟨g1, g2, g3⟩ := look_all vs (logS (lookE y v) vs) rfl h2 h3
    have e : bare (logS (lookE y v) vs) = lookE (bare y) v := by
      show logS (lookE y v) [] = lookE (logS y []) v
      rw [lookE_log]
    rw [e] at g1 g2 g3
    refine ⟨⟨h1, g1⟩, g2, ?_⟩
    show (lookL (lookE (bare y) v) vs).app = _
    rw [g3, lookE_app]
theorem Ok.look (h : Ok n p t x y) (S : Seen y x) : lookOks x (bare y) y.app.log ∧ Ok n p t x (lookW y) ∧ (lookW y).app = (bare y).app := by
  obtain ⟨h1, h2, h3⟩ := look_all y.app.log y rfl h.both S
  refine ⟨h1, ⟨h2, h.bx, ?_, h.tl, ?_⟩, h3⟩
  · show Bd n (lookL (bare y) y.app.log)
    refine ⟨?_, ?_, ?_, ?_, ?_⟩ <;> rw [h3]
    · exact h.bY.id
    · exact h.bY.waits
    · exact Nat.zero_le _
    · exact h.bY.ins
    · exact h.bY.names
  · have := h.pot
    unfold potS at this ⊢
    rw [show (lookW y).app = (bare y).app from h3]
    exact this
theorem lookW_log (y : SideF) (h : (lookW y).app = (bare y).app) : (lookW y).app.log = [] := by rw [h]; rfl
theorem lookW_none (y : SideF) (h : y.app.log = []) : lookW y = y := by
  obtain ⟨⟨id, outs, ins, names, waits, log⟩, said, hear, file, over⟩ := y
  simp only at h
  subst h
  rfl
theorem Seen.nil (h : y.app.log = []) : Seen y x := fun v hv => by rw [h] at hv; simp at hv
theorem Ok.seen (h : Ok n p t x y) (hx : x.app.log = []) : Seen y x := fun v hv h4 => by
  have := h.both.b.sent v hv h4
  rw [hx, gots_nil] at this
  exact this
/-- Both are looked at: first y, then x. -/
theorem Ok.looks (h : Ok n p t x y) (S : Seen y x) : lookOks x (bare y) y.app.log ∧ lookOks (lookW y) (bare x) x.app.log ∧ Ok n p t (lookW x) (lookW y) ∧ (lookW x).app.log = [] ∧ (lookW y).app.log = [] := by
  obtain ⟨h1, h2, h3⟩ := h.look S
  have hy := lookW_log y h3
  obtain ⟨g1, g2, g3⟩ := h2.symm.look (h2.symm.seen hy)
  exact ⟨h1, g1, g2.symm, lookW_log x g3, hy⟩
/-- Texts that are heard were said. -/
theorem Ok.heard (h : Ok n p t x y) (hy : y.app.log = []) : y.hear <+: x.said := by
  rw [h.both.a.texts, hy, List.append_assoc]
  exact ⟨_, rfl⟩
/-- An end that has nothing to say. -/
def Quiet (x : SideF) : Prop := x.app.waits = [] ∧ firstW x.app = none
theorem getV_memN {β : Type} (z : β) : ∀ {L : List (Int × β)}, (L.map (·.1)).Nodup → ∀ q ∈ L, getV L q.1 z = q.2
  | [], _, q, h => by simp at h
  | w :: L, hd, q, h => by
    rw [List.map_cons, List.nodup_cons] at hd
    rw [getV_cons]
    rcases List.mem_cons.1 h with rfl | h
    · rw [if_pos rfl]
    · rw [if_neg (fun e => hd.1 (by rw [e]; exact List.mem_map_of_mem h)), getV_memN z hd.2 q h]
theorem idKeys_nodup : ∀ n : Nat, (idKeys n).Nodup
  | 0 => by simp [idKeys]
  | n + 1 => by
    rw [idKeys_succ, List.nodup_append]
    refine ⟨idKeys_nodup n, by simp, ?_⟩
    intro a ha b hb e
    rw [List.mem_singleton] at hb
    have := (mem_idKeys.1 ha).2
    omega
theorem Ok.quiet (h : Ok n p t x y) (hx : Quiet x) (hy : y.app.waits = []) (ly : y.app.log = []) : waitsB x.app.app = false ∧ y.hear = x.said := by
  have D := h.both.a
  constructor
  · unfold waitsB
    have e : x.app.app.waits.length = 0 := by simp [EndW.app, hx.1]
    rw [e]
    simp only [Nat.lt_irrefl, decide_false, Bool.false_or]
    show x.app.outs.any _ = false
    rw [List.any_eq_false]
    intro q hq
    simp only [decide_eq_true_eq]
    intro h1
    have hk : hasV x.app.outs q.1 = true := (hasV_mem _).2 (List.mem_map_of_mem hq)
    obtain ⟨m, hm, g1, g2⟩ := D.keyO hk
    have hg := getV_memN OutF.nil (by rw [D.okeys]; exact idKeys_nodup _) q hq
    rw [hm] at hg
    have hf := D.fil m g1 g2
    rw [hy] at hf
    rw [← hg] at h1
    obtain ⟨f1, j, ej, f2⟩ := hf.go h1
    have hst : outStop (getV x.app.outs m OutF.nil) := by
      have h3 := hx.2
      unfold firstW at h3
      rw [List.find?_eq_none] at h3
      have := h3 m (by rw [List.mem_range']; exact ⟨m - 1, by omega, by omega⟩)
      simpa using this
    unfold outStop at hst
    rw [hf.data] at hst
    simp only [List.countP_nil] at f2
    omega
  · have := D.texts
    rw [hx.1, ly] at this
    rw [this]
    simp [saids, chatsOf]
end
end Go.Proofs.Ytiplepdmkbiehaa
namespace Go.Proofs.Ytiplepdmkbiehaa
set_option linter.unusedSimpArgs false
set_option linter.unusedVariables false
open Go.RowKit Go.Maps Go.MapKept Go.WideMaps
theorem waitsR_nil {W : World} {l : List Res} (h : Hold W l) : Hold W (waitsR (.slice none 0 0) [] :: l) := waitsR_shut (vs := []) ((h.addEmp.addNil 40 1).ownToZ)
theorem appR_new {W : World} {q : Nat} {l : List Res} (h : Hold W l) :
    Hold ((((W.alloc (.map #[] 0)).alloc (.map #[] 0)).alloc (.map #[] 0)).alloc (.cells #[provV q, .int .i64 0, .map (some W.heap.size), .map (some (W.heap.size + 1)), .map (some (W.heap.size + 2)), .slice none 0 0, .slice none 0 0] 65)) (appR (W.heap.size + 3) q ([], []) AppF.nil :: l) := by
  have h1 := h.mapVMade Try.prog 2 kI
  have h2 := h1.mapVMade Try.prog 2 kI
  have h3 := h2.mapVMade Try.prog 2 kI
  have h4 := h3.addBlkAt [provV q, .int .i64 0, .map (some W.heap.size), .map (some (W.heap.size + 1)), .map (some (W.heap.size + 2)), .slice none 0 0, .slice none 0 0] 65 (b := W.heap.size + 3) (by simp)
  have e1 : (W.alloc (.map #[] 0)).heap.size = W.heap.size + 1 := by simp
  have e2 : ((W.alloc (.map #[] 0)).alloc (.map #[] 0)).heap.size = W.heap.size + 2 := by simp
  rw [e1, e2] at h4
  have h5 := waitsR_nil (logR_nil h4)
  have h6 : Hold _ (outsR W.heap.size [] [] :: _) := outsR_iff.2 h5.pull6.addEmp.swap
  have h7 : Hold _ (insR (W.heap.size + 1) [] [] :: _) := insR_iff.2 h6.pull6.addEmp.swap
  exact appR_shut (P := ([], [])) (names := []) (h7.front (m := [_, _, _, _, _, _]) (l := l) [4, 1, 0, 5, 2, 3] 6 (by decide))
set_option maxRecDepth 100000 in
set_option maxHeartbeats 1000000 in
theorem appNew_any (q : Nat) (l : List Res) (w : World) (h : Hold w l) :
    Calls Try.prog 20 #[provV q] w fun e w' => ∃ a, e = .returned (.pointer (some ⟨a, 0, none⟩)) ∧ Hold w' (appR a q ([], []) AppF.nil :: l) := by
  have HC := hI (appR_new (q := q) h)
  clear h
  unfold provV at HC ⊢
  go_enter Try.func20, Try.ntmps20
  have hmm := @run_makeMap Try.prog
  go_wp2_with fail
  go_ret
  exact ⟨_, rfl, HC.out⟩
/-- What belongs to a pair besides its ends. -/
def restR (p : Nat) (z u : SideP) (x y : SideF) : Res := .all [.blk p (pairC z u) 38, strsR z.s x.said, strsR z.h x.hear, filesR z.f x.file, mapV Try.prog 2 kI z.o (overM x.over), strsR u.s y.said, strsR u.h y.hear, filesR u.f y.file, mapV Try.prog 2 kI u.o (overM y.over)]
theorem restR_iff {W : World} {p : Nat} {z u : SideP} {x y : SideF} {l : List Res} : Hold W (restR p z u x y :: l) ↔ Hold W (.blk p (pairC z u) 38 :: strsR z.s x.said :: strsR z.h x.hear :: filesR z.f x.file :: mapV Try.prog 2 kI z.o (overM x.over) :: strsR u.s y.said :: strsR u.h y.hear :: filesR u.f y.file :: mapV Try.prog 2 kI u.o (overM y.over) :: l) := Hold.app
theorem restR_blk {W : World} {p : Nat} {z u : SideP} {x y : SideF} {l : List Res} (h : Hold W l) (hm : restR p z u x y ∈ l) : Blk W p (pairC z u) 38 := by
  obtain ⟨F, hr⟩ := h.get hm
  obtain ⟨F1, F2, h1, _⟩ := hr
  exact h1.1
theorem pairR_two {W : World} {p q : Nat} {mp : Value} {t : List (List UInt8)} {x y : SideF} {l : List Res} (h : Hold W (pairR p q mp t x y :: l)) : ∃ z u,
    Hold W (appR z.e q z.P x.app.app :: appR u.e q u.P y.app.app :: tabR q (.slice none 0 0) (.slice none 0 0) mp t :: restR p z u x y :: l) := by
  obtain ⟨z, u, h⟩ := pairR_open h
  refine ⟨z, u, ?_⟩
  have h1 := sideR_iff.1 h.swap
  -- app z, s, h, f, o, blk, side u, tab, l
  have h2 := sideR_iff.1 h1.pull7
  have h3 : Hold W ((([appR u.e q u.P y.app.app, strsR u.s y.said, strsR u.h y.hear, filesR u.f y.file, mapV Try.prog 2 kI u.o (overM y.over), appR z.e q z.P x.app.app, strsR z.s x.said, strsR z.h x.hear, filesR z.f x.file, mapV Try.prog 2 kI z.o (overM x.over), .blk p (pairC z u) 38, tabR q (.slice none 0 0) (.slice none 0 0) mp t] : List Res)) ++ l) := h2
  have h4 := h3.front [10, 6, 7, 8, 9, 1, 2, 3, 4, 5, 0, 11] 12 (by decide)
  have h5 : Hold W (restR p z u x y :: appR z.e q z.P x.app.app :: appR u.e q u.P y.app.app :: tabR q (.slice none 0 0) (.slice none 0 0) mp t :: l) := Hold.app.2 h4
  exact h5.push4
theorem pairR_back {W : World} {p q : Nat} {mp : Value} {t : List (List UInt8)} {x y : SideF} {E G : EndW} {P1 P2 : List Nat × List Nat} {z u : SideP} {l : List Res} (h : Hold W (appR z.e q P1 E.app :: appR u.e q P2 G.app :: tabR q (.slice none 0 0) (.slice none 0 0) mp t :: restR p z u x y :: l)) :
    Hold W (pairR p q mp t { x with app := E } { y with app := G } :: l) := by
  have h1 := Hold.app.1 h.pull4
  have h3 : Hold W ((([.blk p (pairC z u) 38, strsR z.s x.said, strsR z.h x.hear, filesR z.f x.file, mapV Try.prog 2 kI z.o (overM x.over), strsR u.s y.said, strsR u.h y.hear, filesR u.f y.file, mapV Try.prog 2 kI u.o (overM y.over), appR z.e q P1 E.app, appR u.e q P2 G.app, tabR q (.slice none 0 0) (.slice none 0 0) mp t] : List Res)) ++ l) := h1
  have h4 := h3.front [10, 5, 6, 7, 8, 9, 1, 2, 3, 4, 0, 11] 12 (by decide)
  have h5 : Hold W (sideR q { u with P := P2 } { y with app := G } :: _) := sideR_iff.2 h4
  have h6 : Hold W (sideR q { z with P := P1 } { x with app := E } :: sideR q { u with P := P2 } { y with app := G } :: .blk p (pairC z u) 38 :: tabR q (.slice none 0 0) (.slice none 0 0) mp t :: l) := sideR_iff.2 h5.push6
  exact pairR_shut (z := { z with P := P1 }) (u := { u with P := P2 }) h6.pull3
/-- What a move asks of the ends. -/
structure MvOk (t : Sums) (E G : EndW) : Prop where
  outs : ∀ i : Nat, 1 ≤ i → i ≤ E.app.id → hasV E.app.outs i = true ∧ OutOk (getV E.app.outs i OutF.nil)
  id : E.id ≤ 1000000
  wd : ∀ wd, (nextW E).2 = some wd → wd.ok
  app : AppOk G.app
  tl : t.length ≤ 1000000
theorem Ok.mv {n pp : Nat} {t : Sums} {x y : SideF} (h : Ok n pp t x y) (hn : n ≤ 1000000) : MvOk t x.app y.app :=
  ⟨fun i h1 h2 => ⟨h.both.a.has h1 h2, h.outOk (h.both.a.has h1 h2)⟩, Nat.le_trans h.bx.id hn, (h.move hn).1, h.symm.appOk hn, Nat.le_trans h.tl hn⟩
end Go.Proofs.Ytiplepdmkbiehaa
