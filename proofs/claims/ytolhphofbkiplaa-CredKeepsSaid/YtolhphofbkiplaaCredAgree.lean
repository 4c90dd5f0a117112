/- The laws of cred: agree: a store has the tickets of a list, and no other keys. -/
import Derived.Test.YtolhphofbkiplaaCredCount
import Derived.Test.YtolhphofbkiplaaMapT
import Derived.Test.YtolhphofbkiplaaOpenSt
namespace Go.Proofs.Ytolhphofbkiplaa
set_option linter.unusedSimpArgs false
set_option linter.unusedVariables false
open Go.RowKit Go.Maps Go.MapKept

/-- What a list has for a server. -/
def wantF (C : List Cr) (s : ByteArray) (now : Int) : Cr × Int := C.foldl (fun a c => if c.srv = s then (if c.fin ≤ now then (Cr.zero, 12) else (c, 0)) else a) (Cr.zero, 9)
theorem wantF_snoc (C : List Cr) (c : Cr) (s : ByteArray) (now : Int) : wantF (C ++ [c]) s now = if c.srv = s then (if c.fin ≤ now then (Cr.zero, 12) else (c, 0)) else wantF C s now := by
  unfold wantF
  rw [List.foldl_append]
  rfl
theorem wantF_skip (s : ByteArray) (now : Int) : ∀ (C : List Cr) (a : Cr × Int), (∀ c ∈ C, c.srv ≠ s) → C.foldl (fun a c => if c.srv = s then (if c.fin ≤ now then (Cr.zero, 12) else (c, 0)) else a) a = a
  | [], a, _ => rfl
  | c :: C, a, h => by
    rw [List.foldl_cons, if_neg (h c (by simp))]
    exact wantF_skip s now C a (fun x hx => h x (by simp [hx]))
theorem wantF_none {C : List Cr} {s : ByteArray} {now : Int} (h : ∀ c ∈ C, c.srv ≠ s) : wantF C s now = (Cr.zero, 9) := wantF_skip s now C _ h
theorem wantF_at {A B : List Cr} {c : Cr} {now : Int} (h : ∀ x ∈ B, x.srv ≠ c.srv) : wantF (A ++ c :: B) c.srv now = if c.fin ≤ now then (Cr.zero, 12) else (c, 0) := by
  unfold wantF
  rw [List.foldl_append, List.foldl_cons, if_pos rfl]
  exact wantF_skip c.srv now B _ h
theorem wantF_key {C : List Cr} {s : ByteArray} {now : Int} (h : ∀ c ∈ C, c.key.length = 16) : (wantF C s now).1.key.length = 16 := by
  unfold wantF
  suffices ∀ a : Cr × Int, a.1.key.length = 16 → (C.foldl (fun a c => if c.srv = s then (if c.fin ≤ now then (Cr.zero, 12) else (c, 0)) else a) a).1.key.length = 16 from this _ rfl
  intro a ha
  induction C generalizing a with
  | nil => exact ha
  | cons c C ih =>
    rw [List.foldl_cons]
    refine ih (fun x hx => h x (by simp [hx])) _ ?_
    split
    · split
      · rfl
      · exact h c (by simp)
    · exact ha
theorem wantF_bs {C : List Cr} {s : ByteArray} {now : Int} {w : World} (h : ∀ c ∈ C, Bs w c.bv c.box) : Bs w (wantF C s now).1.bv (wantF C s now).1.box := by
  unfold wantF
  suffices ∀ a : Cr × Int, Bs w a.1.bv a.1.box → Bs w (C.foldl (fun a c => if c.srv = s then (if c.fin ≤ now then (Cr.zero, 12) else (c, 0)) else a) a).1.bv (C.foldl (fun a c => if c.srv = s then (if c.fin ≤ now then (Cr.zero, 12) else (c, 0)) else a) a).1.box from this _ (Sl.nil _ _ _)
  intro a ha
  induction C generalizing a with
  | nil => exact ha
  | cons c C ih =>
    rw [List.foldl_cons]
    refine ih (fun x hx => h x (by simp [hx])) _ ?_
    split
    · split
      · exact Sl.nil _ _ _
      · exact h c (by simp)
    · exact ha

/-- What the store answers, and what the list says, are the same. -/
theorem want_get {L : List (Option Cr)} {C : List Cr} {s : ByteArray} {now : Int} {w' : World} {B : Nat} {c' : Cr} {e : Int} (hm : Mat L (C.map Cr.dat)) (h : GetRes w' B L now s c' e) :
    e = (wantF C s now).2 ∧ c'.dat = (wantF C s now).1.dat := by
  by_cases hx : ∃ c ∈ C, c.srv = s
  · obtain ⟨c, hc, rfl⟩ := hx
    obtain ⟨x, hsl, hxd⟩ := hm.slot (d := c.dat) (List.mem_map.2 ⟨c, hc, rfl⟩)
    obtain ⟨A, Bt, rfl⟩ := List.append_of_mem hc
    have hnd := hm.2.2
    rw [wantF_at (fun y hy e => by
      rw [List.map_map, List.map_append, List.map_cons, List.nodup_append, List.nodup_cons] at hnd
      exact hnd.2.1.1 (List.mem_map.2 ⟨y, hy, e⟩))]
    have hfin : x.fin = c.fin := by simp only [Cr.dat, Prod.mk.injEq] at hxd; exact hxd.2.2.2.2.1
    have hxs : slotOf L c.srv = some x := hsl
    by_cases hf : c.fin ≤ now
    · rw [if_pos hf]
      obtain ⟨rfl, rfl⟩ := h.old hxs (by omega)
      exact ⟨rfl, rfl⟩
    · rw [if_neg hf]
      obtain ⟨h1, rfl⟩ := h.has hxs (by omega)
      exact ⟨rfl, h1.trans hxd⟩
  · have hno : ∀ c ∈ C, c.srv ≠ s := fun c hc e => hx ⟨c, hc, e⟩
    rw [wantF_none hno]
    obtain ⟨rfl, rfl⟩ := h.no (hm.noslot s (fun d hd e => by
      obtain ⟨c, hc, rfl⟩ := List.mem_map.1 hd
      exact hno c hc e))
    exact ⟨rfl, rfl⟩

theorem mat_keys {L : List (Option Cr)} {C : List Cr} (hm : Mat L (C.map Cr.dat)) (kl : Lit) :
    cnt (keysB L) kl = cnt (C.map (·.key)) kl + (if isK kl (List.replicate 16 0) = true then (16 - C.length : Int) else 0) := by
  rw [cnt_perm (keysB_perm L), cnt_append, cnt_rep]
  have h1 : cnt ((datsL L).map (fun d => d.2.2.1)) kl = cnt (C.map (·.key)) kl := by
    rw [cnt_perm (hm.2.1.map _)]
    rw [List.map_map]
    rfl
  have h2 := usedN_le L
  have h3 := hm.used
  rw [List.length_map] at h3
  rw [h1]
  have h4 := hm.1
  split <;> omega

theorem aggStep : AggTy Try.prog 35 23 := AggTy.mk Try.underlying35 rfl (by kernel_rfl)
end Go.Proofs.Ytolhphofbkiplaa
