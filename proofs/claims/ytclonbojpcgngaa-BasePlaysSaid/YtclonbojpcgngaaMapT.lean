/- Maps of the call's own, no program: an entry turned in pieces; what a world keeps of a map. -/
import Derived.Test.YtclonbojpcgngaaBase
import Derived.Maps.RangeWalk
import Derived.DeepKeys4
import Derived.WideKeyEntry
namespace Go.Proofs.Ytclonbojpcgngaa
set_option linter.unusedSimpArgs false
set_option linter.unusedVariables false
open Go.RowKit Go.Maps

section
open Go.WideElems Go.MapKept Go.ChangeMaps Go.ChangeShapes Go.WideShapes
variable {P : Program} {w : World} {t k e : TypeId}

theorem entry_put {H : Type} {R : Value → Option (DataW H × List MemPlace)} {b : Nat} {es : Array MapEntry} {clock : Nat} (K : WideMaps.KeyLaw P k) (ht : P.underlying t = some (.map k e)) {z : Value} (hz : ∀ u : World, (zeroValue e).run P u = .ok z u) (hb : w.heap[b]? = some (.map es clock))
    (F : Fit P k R es clock) {key : Value} {kl : Lit} (hkey : keyOf P k key = some kl) :
    ∃ v0 s W1, (Instr.mapEntry t (.map (some b)) key).run P w = .ok (.tuple #[v0, s]) W1 ∧ (Instr.mapUpdate t (.map (some b)) key v0).run P w = .ok () W1 := by
  rcases K.find w hkey es.toList F.keys with ⟨h1, h2⟩ | ⟨j, e0, h1, h2, h3⟩
  · refine ⟨z, goInt clock, setBlock w b (.map (es.push ⟨key, z, clock⟩) (clock + 1)), ?_, ?_⟩
    · simp [Instr.mapEntry, run_underlying ht, MapKept.run_getObj_map hb, K.check w false hkey, h1, hz, MapKept.run_setObj_map _ hb, Result.andThen, setBlock]
    · simp [Instr.mapUpdate, run_underlying ht, MapKept.run_getObj_map hb, K.check w false hkey, h1, MapKept.run_setObj_map _ hb, Result.andThen, setBlock]
  · have hj : es[j]? = some e0 := by simpa using h2
    have hsame : es.modify j (fun e => { e with key := key }) = es.modify j (fun e' => { e' with key := key, val := e0.val }) := by
      apply Array.ext'
      rw [Array.toList_modify, Array.toList_modify, modify_eq_set _ _ _ _ h2, modify_eq_set _ _ _ _ h2]
    refine ⟨e0.val, goInt e0.born, setBlock w b (.map (es.modify j (fun e' => { e' with key := key, val := e0.val })) clock), ?_, ?_⟩
    · simp [Instr.mapEntry, run_underlying ht, MapKept.run_getObj_map hb, K.check w false hkey, h1, hj, h3, K.stays w hkey, hsame, MapKept.run_setObj_map _ hb, Result.andThen, setBlock]
    · simp [Instr.mapUpdate, run_underlying ht, MapKept.run_getObj_map hb, K.check w false hkey, h1, hj, h3, K.stays w hkey, MapKept.run_setObj_map _ hb, Result.andThen, setBlock]

theorem setBlock_inj {b : Nat} {o o' : Obj} (hl : b < w.heap.size) (h : setBlock w b o = setBlock w b o') : o = o' := by
  have h1 : (setBlock w b o).heap[b]? = some o := by simp [setBlock, hl]
  rw [h] at h1
  simp [setBlock, hl] at h1
  exact h1.symm

/-- 'm[k]++' in pieces: the entry's place, the number that stands there (ahead of the entry's making and behind it), and the store into the entry. -/
theorem own_entry {H : Type} {b n : Nat} {D : DataW H} (h : w.ownsMap P k (plainElem P e) b n D) (K : WideMaps.KeyLaw P k) (ht : P.underlying t = some (.map k e)) (he : P.underlying e = some (.int .i64))
    (hz : ∀ u : World, (zeroValue e).run P u = .ok (.int .i64 0) u) (hn : n + 1 < maxLen) {key : Value} {kl : Lit} (hkey : keyOf P k key = some kl) :
    ∃ (c : Int) (st : Nat) (W1 : World), (Instr.mapEntry t (.map (some b)) key).run P w = .ok (.tuple #[.int .i64 c, .int .i64 st]) W1 ∧ D.atKey kl (.lit (.int .i64 0)) = .lit (.int .i64 c) ∧
      (Instr.lookup t (.map (some b)) key false).run P w = .ok (.int .i64 c) w ∧ (Instr.lookup t (.map (some b)) key false).run P W1 = .ok (.int .i64 c) W1 ∧ W1.ownsMap P k (plainElem P e) b (n + 1) (D.put kl (.lit (.int .i64 c))) ∧ w.grownBy W1 (some b) ∧
      ∀ a, (Lit.int .i64 a).wf = true → ∃ w3, (Instr.entryStore t (.map (some b)) (.int .i64 st) (.int .i64 a)).run P W1 = .ok () w3 ∧ w3.ownsMap P k (plainElem P e) b (n + 1) (D.put kl (.lit (.int .i64 a))) ∧ w.grownBy w3 (some b) := by
  have h' := h
  obtain ⟨es, clock, hb, F, hsz, rfl⟩ := h'
  obtain ⟨c, hl, hat, hwc⟩ := h.lookup_int (Keyed.of_law K) ht he (hz w) hkey
  obtain ⟨v0, st, es1, clock1, hE, hcase, hS⟩ := entry_then_store (w := w) K ht hz hb F hkey
  obtain ⟨v0', s', W1, hE', hU⟩ := entry_put (w := w) K ht hz hb F hkey
  have hlt := (Array.getElem?_eq_some_iff.1 hb).1
  rw [hE] at hE'
  simp only [Result.ok.injEq, Value.tuple.injEq, Array.mk.injEq, List.cons.injEq, and_true] at hE'
  obtain ⟨⟨rfl, rfl⟩, rfl⟩ := hE'
  obtain rfl : v0 = .int .i64 c := by
    rcases hcase with ⟨e0, hm0, hk0, rfl⟩ | ⟨hno, rfl⟩
    · obtain ⟨y, hy⟩ := F.reads e0 hm0
      obtain ⟨zz, hzz, _⟩ := rd_val hy
      have hat' := atKey_some K F hkey hm0 hk0 hzz (.lit (.int .i64 0))
      obtain ⟨a, ha, rfl, _⟩ := plainElem_int_inv he hzz
      rw [hat] at hat'
      simp only [DataW.lit.injEq, Lit.int.injEq, true_and] at hat'
      rw [ha, hat']
    · have hat' := atKey_none K F hkey hno (.lit (.int .i64 0))
      rw [hat] at hat'
      simp only [DataW.lit.injEq, Lit.int.injEq, true_and] at hat'
      rw [hat']
  obtain ⟨W1', hU', ho1, hg1⟩ := h.update (Keyed.of_law K) ht (by omega) hkey (plainElem_int (H := H) he hwc)
  rw [hU] at hU'
  simp only [Result.ok.injEq, true_and] at hU'
  subst hU'
  obtain ⟨c', hl', hat', _⟩ := ho1.lookup_int (Keyed.of_law K) ht he (hz _) hkey
  rw [atKey_put_same ⟨_, rfl⟩ ((Keyed.of_law K).key hkey)] at hat'
  simp only [DataW.lit.injEq, Lit.int.injEq, true_and] at hat'
  subst hat'
  refine ⟨_, st, _, hE, hat, hl, hl', ho1, hg1, fun a ha => ?_⟩
  obtain ⟨es', clock', hs1, hs2⟩ := hS (setBlock w b (.map es1 clock1)) (.int .i64 a) (heap_setBlock_same hb _)
  obtain ⟨w3, hu3, ho3, hg3⟩ := h.update (Keyed.of_law K) ht (by omega) hkey (plainElem_int (H := H) he ha)
  rw [hs2] at hu3
  simp only [Result.ok.injEq, true_and] at hu3
  subst hu3
  have he3 : setBlock (setBlock w b (.map es1 clock1)) b (.map es' clock') = setBlock w b (.map es' clock') := by simp [setBlock]
  rw [he3] at hs1
  exact ⟨_, hs1, ho3, hg3⟩
end

open Go.MapKept
theorem ownsMap_keep {H : Type} {P : Program} {k : TypeId} {R : Value → Option (DataW H × List MemPlace)} {w w' : World} {b n : Nat} {D : DataW H} {S : Nat → Prop} (h : w.ownsMap P k R b n D) (hk : Keeps S w w') (hb : ¬ S b) : w'.ownsMap P k R b n D := by
  obtain ⟨es, clock, h1, hr⟩ := h
  exact ⟨es, clock, (hk.block b hb).trans h1, hr⟩

theorem keeps_grown {w w' : World} {b : Nat} (hg : w.grownBy w' (some b)) : Keeps (fun k => k = b ∨ w.heap.size ≤ k) w w' :=
  (Keeps.refl _ _).grown hg (fun k hk => .inr hk) (fun k hk => by simp only [Option.some.injEq] at hk; exact .inl hk.symm)

end Go.Proofs.Ytclonbojpcgngaa
