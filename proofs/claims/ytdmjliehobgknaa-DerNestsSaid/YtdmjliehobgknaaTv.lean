/- Values of der as trees: how they lie in memory. No program's function is walked here. -/
import Derived.Test.YtdmjliehobgknaaSlices
import Derived.Test.YtdmjliehobgknaaFlat
namespace Go.Proofs.Ytdmjliehobgknaa
set_option linter.unusedSimpArgs false
set_option linter.unusedVariables false
open Go.RowKit

/-- A number, bytes, or a list, with a tag. -/
inductive Tv where
  | mk (kind tag : Int) (n : Nat) (b : List UInt8) (l : List Tv)

def Tv.kind : Tv → Int | .mk k _ _ _ _ => k
def Tv.tag : Tv → Int | .mk _ t _ _ _ => t
def Tv.n : Tv → Nat | .mk _ _ n _ _ => n
def Tv.b : Tv → List UInt8 | .mk _ _ _ b _ => b
def Tv.l : Tv → List Tv | .mk _ _ _ _ l => l
def Tv.zero : Tv := .mk 0 0 0 [] []

mutual
/-- The five cells of a value; F: the blocks that its rows may lie in. -/
def TvF (w : World) (F : Nat → Prop) : Tv → List Value → Prop
  | .mk k t n b l, cs => ∃ (bv lv : Value) (rows : List Value), cs = [.int .i64 k, .int .i64 t, .int .u64 (n : Int), bv, lv] ∧ Bs w bv b ∧ (0 < b.length → ∀ x, bv.ownBlock = some x → F x) ∧
      Sl w 5 lv l.length rows ∧ (0 < l.length → ∀ x, lv.ownBlock = some x → F x) ∧ TvsF w F l rows
def TvsF (w : World) (F : Nat → Prop) : List Tv → List Value → Prop
  | [], cs => cs = []
  | x :: l, cs => ∃ r rs, cs = r ++ rs ∧ TvF w F x r ∧ TvsF w F l rs
end

theorem TvF.length {w : World} {F : Nat → Prop} : ∀ {x : Tv} {cs : List Value}, TvF w F x cs → cs.length = 5
  | .mk _ _ _ _ _, cs, h => by
    obtain ⟨bv, lv, rows, rfl, _⟩ := h
    rfl

theorem TvF.one {w : World} {F : Nat → Prop} : ∀ {x : Tv} {cs : List Value}, TvF w F x cs → ∀ u ∈ cs, u.oneCell' = true
  | .mk _ _ _ _ _, cs, h => by
    obtain ⟨bv, lv, rows, rfl, hb, _, hl, _⟩ := h
    obtain ⟨a, c, e, _⟩ := hb.form
    obtain ⟨a2, c2, e2, _⟩ := hl.form
    subst e e2
    intro u hu
    simp only [List.mem_cons, List.not_mem_nil, or_false] at hu
    rcases hu with rfl | rfl | rfl | rfl | rfl <;> rfl

/-- Of an empty slice nothing is asked. -/
theorem Sl.keepF {w w' : World} {sz : Nat} {v : Value} {n : Nat} {cs : List Value} {F S : Nat → Prop} (h : Sl w sz v n cs) (hk : Keeps S w w') (hf : 0 < n → ∀ x, v.ownBlock = some x → F x) (hs : ∀ b, F b → b < w.heap.size → ¬ S b) : Sl w' sz v n cs := by
  by_cases hn : 0 < n
  · exact Sl.keep' h hk (fun x hx hl => hs x (hf hn x hx) hl)
  · obtain ⟨h1, h2, a, cap, e, h3, h4, h5, _⟩ := h
    have : cs = [] := List.eq_nil_of_length_eq_zero (by rw [h1, show n = 0 by omega, Nat.zero_mul])
    exact ⟨h1, h2, a, cap, e, h3, h4, h5, .inl this⟩

theorem Sl.own_lt {w : World} {sz : Nat} {v : Value} {n : Nat} {cs : List Value} (h : Sl w sz v n cs) (hsz : 0 < sz) (hn : 0 < n) : ∀ x, v.ownBlock = some x → x < w.heap.size := by
  intro x hx
  obtain ⟨a, c, rfl, _⟩ := h.form
  have hpos : 0 < cs.length := by rw [h.1]; exact Nat.mul_pos hn hsz
  obtain ⟨b, o, rfl, _⟩ := h.addr hpos
  simp [Value.ownBlock] at hx
  subst hx
  exact Sl.lt h hpos

mutual
theorem TvF.keep' {w w' : World} {F G S : Nat → Prop} (hk : Keeps S w w') (hs : ∀ b, F b → b < w.heap.size → ¬ S b) (hg : ∀ b, F b → G b) : ∀ (x : Tv) (cs : List Value), TvF w F x cs → TvF w' G x cs
  | .mk k t n b l, cs, h => by
    obtain ⟨bv, lv, rows, e, h1, h2, h3, h4, h5⟩ := h
    exact ⟨bv, lv, rows, e, Sl.keepF h1 hk h2 hs, fun hp x hx => hg x (h2 hp x hx), Sl.keepF h3 hk h4 hs, fun hp x hx => hg x (h4 hp x hx), TvsF.keep' hk hs hg l rows h5⟩
theorem TvsF.keep' {w w' : World} {F G S : Nat → Prop} (hk : Keeps S w w') (hs : ∀ b, F b → b < w.heap.size → ¬ S b) (hg : ∀ b, F b → G b) : ∀ (l : List Tv) (cs : List Value), TvsF w F l cs → TvsF w' G l cs
  | [], cs, h => h
  | x :: l, cs, h => by
    obtain ⟨r, rs, e, h1, h2⟩ := h
    exact ⟨r, rs, e, TvF.keep' hk hs hg x r h1, TvsF.keep' hk hs hg l rs h2⟩
end

theorem TvF.below {w w' : World} {F : Nat → Prop} {x : Tv} {cs : List Value} (h : TvF w F x cs) (hb : Below w.heap.size w w') : TvF w' F x cs :=
  TvF.keep' (Keeps.of_below hb) (fun _ _ hl hs => by omega) (fun _ h => h) x cs h
theorem TvsF.below {w w' : World} {F : Nat → Prop} {l : List Tv} {cs : List Value} (h : TvsF w F l cs) (hb : Below w.heap.size w w') : TvsF w' F l cs :=
  TvsF.keep' (Keeps.of_below hb) (fun _ _ hl hs => by omega) (fun _ h => h) l cs h
theorem TvF.keep {w w' : World} {F S : Nat → Prop} {x : Tv} {cs : List Value} (h : TvF w F x cs) (hk : Keeps S w w') (hs : ∀ b, F b → b < w.heap.size → ¬ S b) : TvF w' F x cs :=
  TvF.keep' hk hs (fun _ h => h) x cs h
theorem TvsF.keep {w w' : World} {F S : Nat → Prop} {l : List Tv} {cs : List Value} (h : TvsF w F l cs) (hk : Keeps S w w') (hs : ∀ b, F b → b < w.heap.size → ¬ S b) : TvsF w' F l cs :=
  TvsF.keep' hk hs (fun _ h => h) l cs h
theorem TvF.mono {w : World} {F G : Nat → Prop} {x : Tv} {cs : List Value} (h : TvF w F x cs) (hg : ∀ b, F b → G b) : TvF w G x cs :=
  TvF.keep' (Keeps.refl (fun _ => False) w) (fun _ _ _ h => h) hg x cs h
theorem TvsF.mono {w : World} {F G : Nat → Prop} {l : List Tv} {cs : List Value} (h : TvsF w F l cs) (hg : ∀ b, F b → G b) : TvsF w G l cs :=
  TvsF.keep' (Keeps.refl (fun _ => False) w) (fun _ _ _ h => h) hg l cs h

theorem TvsF.length {w : World} {F : Nat → Prop} : ∀ {l : List Tv} {cs : List Value}, TvsF w F l cs → cs.length = l.length * 5
  | [], cs, h => by rw [show cs = [] from h]; rfl
  | x :: l, cs, h => by
    obtain ⟨r, rs, rfl, h1, h2⟩ := h
    rw [List.length_append, h1.length, TvsF.length h2, List.length_cons]
    omega

theorem TvsF.snoc {w : World} {F : Nat → Prop} : ∀ {l : List Tv} {cs : List Value} {x : Tv} {r : List Value}, TvsF w F l cs → TvF w F x r → TvsF w F (l ++ [x]) (cs ++ r)
  | [], cs, x, r, h, hx => by
    rw [show cs = [] from h]
    exact ⟨r, [], by simp, hx, rfl⟩
  | y :: l, cs, x, r, h, hx => by
    obtain ⟨r1, rs, rfl, h1, h2⟩ := h
    exact ⟨r1, rs ++ r, by simp, h1, TvsF.snoc h2 hx⟩

theorem TvsF.at_ {w : World} {F : Nat → Prop} : ∀ {l : List Tv} {cs : List Value}, TvsF w F l cs → ∀ (k : Nat) (hk : k < l.length), TvF w F l[k] ((cs.drop (k * 5)).take 5)
  | [], cs, h, k, hk => by simp at hk
  | x :: l, cs, h, 0, hk => by
    obtain ⟨r, rs, rfl, h1, h2⟩ := h
    rw [Nat.zero_mul, List.drop_zero, List.take_append_of_le_length (by rw [h1.length]; exact Nat.le_refl _), List.take_of_length_le (by rw [h1.length]; exact Nat.le_refl _)]
    exact h1
  | x :: l, cs, h, k + 1, hk => by
    obtain ⟨r, rs, rfl, h1, h2⟩ := h
    rw [show (k + 1) * 5 = r.length + k * 5 by rw [h1.length]; omega, List.drop_length_add_append]
    exact TvsF.at_ h2 k (by simpa using hk)

/-- An element's cells, where the row lies. -/
theorem TvsF.cells {w : World} {F : Nat → Prop} {l : List Tv} {cs : List Value} (h : TvsF w F l cs) {b o cap : Nat} (hs : Sl w 5 (.slice (some ⟨b, o, none⟩) l.length cap) l.length cs) (k : Nat) (hk : k < l.length) :
    ∃ r, TvF w F l[k] r ∧ CellsAt w b (o + k * 5) r := by
  refine ⟨_, h.at_ k hk, fun j u hj => ?_⟩
  obtain ⟨b', o', e, hc⟩ := hs.addr (by rw [hs.1]; omega)
  simp only [Option.some.injEq, Addr.mk.injEq, and_true] at e
  obtain ⟨rfl, rfl⟩ := e
  rw [List.getElem?_take] at hj
  split at hj
  · rw [List.getElem?_drop] at hj
    rw [Nat.add_assoc]
    exact hc _ u hj
  · simp at hj

theorem tv_eta (x : Tv) : x = .mk x.kind x.tag x.n x.b x.l := by cases x; rfl

/-- The five cells, opened. -/
theorem TvF.open_ {w : World} {F : Nat → Prop} {x : Tv} {cs : List Value} (h : TvF w F x cs) : ∃ (bv lv : Value) (rows : List Value), cs = [.int .i64 x.kind, .int .i64 x.tag, .int .u64 (x.n : Int), bv, lv] ∧ Bs w bv x.b ∧ (0 < x.b.length → ∀ y, bv.ownBlock = some y → F y) ∧
      Sl w 5 lv x.l.length rows ∧ (0 < x.l.length → ∀ y, lv.ownBlock = some y → F y) ∧ TvsF w F x.l rows := by
  cases x
  exact h
theorem TvF.mk {w : World} {F : Nat → Prop} {k t : Int} {n : Nat} {b : List UInt8} {l : List Tv} {bv lv : Value} {rows : List Value} (h1 : Bs w bv b) (h2 : ∀ y, bv.ownBlock = some y → F y) (h3 : Sl w 5 lv l.length rows) (h4 : ∀ y, lv.ownBlock = some y → F y) (h5 : TvsF w F l rows) :
    TvF w F (.mk k t n b l) [.int .i64 k, .int .i64 t, .int .u64 (n : Int), bv, lv] := ⟨bv, lv, rows, rfl, h1, fun _ => h2, h3, fun _ => h4, h5⟩
theorem TvF.zero (w : World) (F : Nat → Prop) : TvF w F Tv.zero [.int .i64 0, .int .i64 0, .int .u64 0, .slice none 0 0, .slice none 0 0] :=
  TvF.mk (Sl.nil _ _ _) (by simp [Value.ownBlock]) (Sl.nil _ _ _) (by simp [Value.ownBlock]) rfl

mutual
/-- Only blocks that are there count. -/
theorem TvF.tight {w : World} {F : Nat → Prop} : ∀ (x : Tv) (cs : List Value), TvF w F x cs → TvF w (fun y => F y ∧ y < w.heap.size) x cs
  | .mk k t n b l, cs, h => by
    obtain ⟨bv, lv, rows, e, h1, h2, h3, h4, h5⟩ := h
    exact ⟨bv, lv, rows, e, h1, fun hp x hx => ⟨h2 hp x hx, Sl.own_lt h1 (by decide) hp x hx⟩, h3, fun hp x hx => ⟨h4 hp x hx, Sl.own_lt h3 (by decide) hp x hx⟩, TvsF.tight l rows h5⟩
theorem TvsF.tight {w : World} {F : Nat → Prop} : ∀ (l : List Tv) (cs : List Value), TvsF w F l cs → TvsF w (fun y => F y ∧ y < w.heap.size) l cs
  | [], cs, h => h
  | x :: l, cs, h => by
    obtain ⟨r, rs, e, h1, h2⟩ := h
    exact ⟨r, rs, e, TvF.tight x r h1, TvsF.tight l rs h2⟩
end

mutual
theorem tv_ind {P : Tv → Prop} (h : ∀ k t n b l, (∀ x ∈ l, P x) → P (.mk k t n b l)) : ∀ x : Tv, P x
  | .mk k t n b l => h k t n b l (tvs_ind h l)
theorem tvs_ind {P : Tv → Prop} (h : ∀ k t n b l, (∀ x ∈ l, P x) → P (.mk k t n b l)) : ∀ l : List Tv, ∀ x ∈ l, P x
  | [], x, hx => by simp at hx
  | y :: l, x, hx => by
    rcases List.mem_cons.1 hx with e | hx
    · rw [e]; exact tv_ind h y
    · exact tvs_ind h l x hx
end
end Go.Proofs.Ytdmjliehobgknaa
