/- What values are written as, in plain Lean; contract: der.head. -/
import Derived.Test.YtdmjliehobgknaaDerRight
import Derived.Test.YtdmjliehobgknaaOctet2
namespace Go.Proofs.Ytdmjliehobgknaa
set_option linter.unusedSimpArgs false
set_option linter.unusedVariables false
open Go.RowKit

/-- A value's first bytes. -/
def headS (k t : Int) (n : Nat) : List UInt8 :=
  if n < 128 then [UInt8.ofNat (k * 64 + t).toNat, UInt8.ofNat n] else UInt8.ofNat (k * 64 + t).toNat :: UInt8.ofNat (128 + (shortB n).length) :: shortB n
def bodyOf (k : Int) (n : Nat) (b ws : List UInt8) : List UInt8 := if k = 0 then shortB n else if k = 1 then b else ws
mutual
/-- A value's bytes. -/
def writeS : Tv → List UInt8
  | .mk k t n b l => headS k t (bodyOf k n b (writesS l)).length ++ bodyOf k n b (writesS l)
def writesS : List Tv → List UInt8
  | [] => []
  | x :: l => writeS x ++ writesS l
end
def bodyS (x : Tv) : List UInt8 := bodyOf x.kind x.n x.b (writesS x.l)
theorem writeS_eq (x : Tv) : writeS x = headS x.kind x.tag (bodyS x).length ++ bodyS x := by cases x; rfl
theorem writesS_snoc : ∀ (l : List Tv) (x : Tv), writesS (l ++ [x]) = writesS l ++ writeS x
  | [], x => by simp [writesS]
  | y :: l, x => by simp [writesS, writesS_snoc l x]
theorem writesS_take (l : List Tv) (k : Nat) (h : k < l.length) : writesS (l.take (k + 1)) = writesS (l.take k) ++ writeS l[k] := by
  rw [List.take_succ_eq_append_getElem h, writesS_snoc]
theorem writesS_append : ∀ (a b : List Tv), writesS (a ++ b) = writesS a ++ writesS b
  | [], b => rfl
  | x :: a, b => by simp [writesS, writesS_append a b]
theorem writesS_take_le (l : List Tv) (k : Nat) : (writesS (l.take k)).length ≤ (writesS l).length := by
  conv => rhs; rw [← List.take_append_drop k l, writesS_append]
  rw [List.length_append]
  omega
theorem writeS_mem_le (l : List Tv) (k : Nat) (h : k < l.length) : (writesS (l.take k)).length + (writeS l[k]).length ≤ (writesS l).length := by
  have := writesS_take_le l (k + 1)
  rw [writesS_take l k h, List.length_append] at this
  exact this

mutual
/-- Values that may be written: of the three kinds, tags to 30, numbers of 64 bits. -/
def OkW : Tv → Prop
  | .mk k t n b l => (k = 0 ∨ k = 1 ∨ k = 2) ∧ 0 ≤ t ∧ t ≤ 30 ∧ n < 18446744073709551616 ∧ OksW l
def OksW : List Tv → Prop
  | [] => True
  | x :: l => OkW x ∧ OksW l
end
theorem OksW.mem : ∀ {l : List Tv}, OksW l → ∀ x ∈ l, OkW x
  | [], _, x, hx => by simp at hx
  | y :: l, h, x, hx => by
    rcases List.mem_cons.1 hx with e | hx
    · rw [e]; exact h.1
    · exact h.2.mem x hx
theorem OksW.of : ∀ {l : List Tv}, (∀ x ∈ l, OkW x) → OksW l
  | [], _ => trivial
  | y :: l, h => ⟨h y (by simp), OksW.of (fun x hx => h x (by simp [hx]))⟩

theorem or64 : ∀ (k : Fin 3) (t : Fin 31), bits BinOp.or IntKind.i64 ((k.val : Int) * 64) (t.val : Int) = (k.val : Int) * 64 + t.val := by decide +kernel
theorem or_tag (k t : Int) (hk : k = 0 ∨ k = 1 ∨ k = 2) (h0 : 0 ≤ t) (h1 : t ≤ 30) : bits BinOp.or IntKind.i64 (k * 64) t = ((k * 64 + t).toNat : Int) := by
  have h := or64 ⟨k.toNat, by omega⟩ ⟨t.toNat, by omega⟩
  simp only [show (k.toNat : Int) = k by omega, show (t.toNat : Int) = t by omega] at h
  rw [h]
  omega

theorem shortB_few (n : Nat) : (shortB n).length ≤ 8 ∧ 0 < (shortB n).length := by
  have hs : ∀ l : List UInt8, 0 < l.length → (stripZ l).length ≤ l.length ∧ 0 < (stripZ l).length := by
    intro l
    induction l with
    | nil => intro h; simp at h
    | cons x l ih =>
      intro _
      cases l with
      | nil => simp [stripZ]
      | cons y l =>
        unfold stripZ
        split
        · have := ih (by simp)
          simp at this ⊢
          omega
        · simp
  have := hs (putB n) (by rw [putB_length]; decide)
  rw [putB_length] at this
  exact this

theorem Rs.two {W : World} {v1 v2 : Value} {r1 r2 : List UInt8} {T : TypeId} {g : Nat} (hg : W.heap.size = g) (h1 : Bs W v1 r1) (h2 : Bs W v2 r2) : Rs (W.alloc (.cells #[v1, v2] T)) (.slice (some ⟨g, 0, none⟩) 2 2) [r1, r2] := by
  subst hg
  obtain ⟨a1, c1, rfl, _⟩ := h1.form
  obtain ⟨a2, c2, rfl, _⟩ := h2.form
  refine ⟨[.slice a1 r1.length c1, .slice a2 r2.length c2], rfl, Sl.lit (n := 2) rfl rfl (by intro u hu; simp at hu; rcases hu with rfl | rfl <;> rfl) (by unfold maxLen; decide), fun j u r hu hr => ?_⟩
  match j with
  | 0 =>
    simp only [List.getElem?_cons_zero, Option.some.injEq] at hu hr
    subst hu hr
    exact h1.alloc _
  | 1 =>
    simp only [List.getElem?_cons_succ, List.getElem?_cons_zero, Option.some.injEq] at hu hr
    subst hu hr
    exact h2.alloc _
  | j + 2 => simp at hu

set_option maxRecDepth 100000 in
theorem derHead_any (k t : Int) (n : Nat) (w : World) (hk : k = 0 ∨ k = 1 ∨ k = 2) (h0 : 0 ≤ t) (h1 : t ≤ 30) (hn : n ≤ 1099511627776) :
    Calls Try.prog 62 #[.int .i64 k, .int .i64 t, .int .i64 n] w fun e w' => ∃ v, e = .returned v ∧ Bs w' v (headS k t n) ∧ Below w.heap.size w w' := by
  have hor := or_tag k t hk h0 h1
  obtain ⟨f, hf⟩ : ∃ f, f = (k * 64 + t).toNat := ⟨_, rfl⟩
  have hf3 : f < 256 := by omega
  rw [← hf] at hor
  have hk0 : 0 ≤ k := by omega
  have hk2 : k ≤ 2 := by omega
  by_cases hs : n < 128
  · have hs' : (n : Int) < 128 := by omega
    have HR : Hid (headS k t n = [UInt8.ofNat f, UInt8.ofNat n]) := Lib.hid (by unfold headS; rw [if_pos hs, ← hf])
    have hbs : ∀ W : World, Bs (W.alloc (.cells #[.int .u8 f, .int .u8 n] 5)) (.slice (some ⟨W.heap.size, 0, none⟩) 2 2) [UInt8.ofNat f, UInt8.ofNat n] := fun W =>
      Bs.lit [UInt8.ofNat f, UInt8.ofNat n] rfl (by simp [bCells, bV_ofNat _ hf3, bV_ofNat n (by omega)]) (by simp [maxLen])
    have HBS := Lib.hid hbs
    clear hs hf hbs hk
    go_enter Try.func62, Try.ntmps62
    go_wp2_with fail
    go_ret
    rw [HR.out]
    exact ⟨_, rfl, HBS.out _, (Below.refl _ _).alloc (Nat.le_refl _) _⟩
  · have hs' : ¬ (n : Int) < 128 := by omega
    have hsf := shortB_few n
    have HR : Hid (headS k t n = [UInt8.ofNat f, UInt8.ofNat (128 + (shortB n).length)] ++ shortB n) := Lib.hid (by unfold headS; rw [if_neg hs, ← hf]; rfl)
    have hlen : (128 : Int) + (shortB n).length = ((128 + (shortB n).length : Nat) : Int) := by omega
    have hbs : ∀ W : World, Bs (W.alloc (.cells #[.int .u8 f, .int .u8 (128 + ((shortB n).length : Int))] 5)) (.slice (some ⟨W.heap.size, 0, none⟩) 2 2) [UInt8.ofNat f, UInt8.ofNat (128 + (shortB n).length)] := fun W =>
      Bs.lit [UInt8.ofNat f, UInt8.ofNat (128 + (shortB n).length)] rfl (by rw [hlen]; simp only [bCells, List.map_cons, List.map_nil, bV_ofNat _ hf3, bV_ofNat (128 + (shortB n).length) (by omega)]) (by simp [maxLen])
    have HBS := Lib.hid hbs
    clear hs hf hbs hk hlen
    go_enter Try.func62, Try.ntmps62
    go_wp2_with fail
    refine (short_any n w).mono ?_
    rintro e w1 ⟨v1, rfl, hb1, hB1, _⟩
    obtain ⟨a1, c1, rfl, hc1, hm1⟩ := hb1.form
    have HB1 := Lib.hid hb1
    have HBW := Lib.hid hB1
    have hz1 := hB1.size
    have HRS := Lib.hid (Rs.two (T := 22) (g := w1.heap.size + 1) (by simp) (HBS.out w1) (hb1.alloc (.cells #[.int .u8 f, .int .u8 (128 + ((shortB n).length : Int))] 5)))
    unfold maxLen at hm1
    generalize hsb : shortB n = sb at *
    clear hb1 hB1 hsb
    go_wp2_with fail
    refine (joined_any _ _ _ HRS.out (by simp; omega)).mono ?_
    rintro e w2 ⟨v2, rfl, ho2, hb2⟩
    have HO := Lib.hid ho2
    have HB2 : Hid (Below w.heap.size w w2) := Lib.hid (((HBW.out.alloc hz1 _).alloc (by simp; omega) _).trans (hb2.mono (by simp; omega)))
    clear ho2 hb2
    go_wp2_with fail
    go_ret
    rw [HR.out]
    refine ⟨_, rfl, ?_, HB2.out⟩
    have := HO.out.bs
    simpa using this
end Go.Proofs.Ytdmjliehobgknaa
