/- The statements of sha: the examples hold. -/
import Derived.Test.YtdmjliehobgknaaShaOf
import Derived.Test.YtdmjliehobgknaaSame
import Derived.Lib.SlBytesConst
namespace Go.Proofs.Ytdmjliehobgknaa
set_option linter.unusedSimpArgs false
set_option linter.unusedVariables false
open Go.RowKit

theorem digB_length (D : List UInt8) : (digB D).length = 32 := by
  unfold digB
  rw [outB_length, blocksI_length _ _ rfl]

theorem Rs.one {w : World} {T : TypeId} {u1 : Value} {r1 : List UInt8} (h1 : Bs w u1 r1) : Rs (w.alloc (.cells #[u1] T)) (.slice (some ⟨w.heap.size, 0, none⟩) 1 1) [r1] := by
  obtain ⟨a1, c1, e1, _⟩ := h1.form
  refine ⟨[u1], rfl, Sl.lit (cs := #[u1]) rfl rfl (by simp [e1, Value.oneCell']) (by unfold maxLen; decide), fun j u r hu hr => ?_⟩
  match j, hu, hr with
  | 0, hu, hr => simp at hu hr; subst hu hr; exact h1.alloc _
  | j + 1, hu, hr => simp at hu

theorem Rs.three {w : World} {T : TypeId} {u1 u2 u3 : Value} {r1 r2 r3 : List UInt8} (h1 : Bs w u1 r1) (h2 : Bs w u2 r2) (h3 : Bs w u3 r3) : Rs (w.alloc (.cells #[u1, u2, u3] T)) (.slice (some ⟨w.heap.size, 0, none⟩) 3 3) [r1, r2, r3] := by
  obtain ⟨a1, c1, e1, _⟩ := h1.form
  obtain ⟨a2, c2, e2, _⟩ := h2.form
  obtain ⟨a3, c3, e3, _⟩ := h3.form
  refine ⟨[u1, u2, u3], rfl, Sl.lit (cs := #[u1, u2, u3]) rfl rfl (by simp [e1, e2, e3, Value.oneCell']) (by unfold maxLen; decide), fun j u r hu hr => ?_⟩
  match j, hu, hr with
  | 0, hu, hr => simp at hu hr; subst hu hr; exact h1.alloc _
  | 1, hu, hr => simp at hu hr; subst hu hr; exact h2.alloc _
  | 2, hu, hr => simp at hu hr; subst hu hr; exact h3.alloc _
  | j + 3, hu, hr => simp at hu

theorem SumOf.write_below {w w' : World} {B : Nat} {F : Nat → Prop} (hF : ∀ k, F k → B ≤ k) (hB : B ≤ w.heap.size) (hk : Keeps (fun k => F k ∨ w.heap.size ≤ k) w w') : Below B w w' :=
  hk.below (fun k h => by rcases h with h | h; exact hF k h; omega)

theorem convBytes (w : World) (C : Array Value) (n c : Nat) : (convert 22 22 (.slice (some ⟨w.heap.size, 0, none⟩) n c)).run Try.prog (w.alloc (.cells C 5)) = .ok (.slice (some ⟨w.heap.size, 0, none⟩) n c) (w.alloc (.cells C 5 (C.size, C.size + 1))) :=
  Go.Lib.run_convert_bytes_const w 22 5 C n c Try.underlying22 Try.underlying5

theorem convBytes2 (w : World) (o : Obj) (C : Array Value) (n c : Nat) : (convert 22 22 (.slice (some ⟨w.heap.size + 1, 0, none⟩) n c)).run Try.prog ((w.alloc o).alloc (.cells C 5)) = .ok (.slice (some ⟨w.heap.size + 1, 0, none⟩) n c) ((w.alloc o).alloc (.cells C 5 (C.size, C.size + 1))) := by
  have := convBytes (w.alloc o) C n c
  rw [show (w.alloc o).heap.size = w.heap.size + 1 by simp] at this
  exact this

theorem Bs.litM {w : World} {cs : Array Value} {b : Nat} {fz : Nat × Nat} (l : List UInt8) (hb : w.heap.size = b) (hc : cs.toList = bCells l) (hn : l.length ≤ maxLen) : Bs (w.alloc (.cells cs 5 fz)) (.slice (some ⟨b, 0, Option.none⟩) l.length l.length) l := by
  subst hb
  refine ⟨by rw [bCells_length]; omega, bCells_one _, _, _, rfl, Nat.le_refl _, hn, (fun h => by cases h), ?_⟩
  rw [← hc]
  exact At.one (heap_alloc_new w _)

set_option maxHeartbeats 4000000 in
set_option maxRecDepth 100000 in
theorem alive03_any (w : World) : Calls Try.prog 13 #[] w fun e w' => e = .returned (.bool true) ∧ Below w.heap.size w w' := by
  have hcv := convBytes
  have hcv2 := convBytes2
  go_enter Try.func13, Try.ntmps13
  go_wp2_with fail
  refine (shaNew_any w).mono ?_
  rintro e w1 ⟨rfl, hs1, hb1⟩
  have HB1 := Lib.hid hb1
  have HS1 := Lib.hid (hs1.mono (G := fun k => w.heap.size ≤ k) (fun k (hk : k = w.heap.size) => Nat.le_of_eq hk.symm))
  obtain ⟨p, hp⟩ : ∃ p, p = w.heap.size := ⟨_, rfl⟩
  rw [← hp] at HS1 ⊢
  have hpw : w.heap.size ≤ p := by omega
  have hz1 := hb1.size
  clear hs1 hb1 hp
  go_wp2_with fail
  refine (shaWrite_any _ p [] [97] _ _ (HS1.out.below ((Below.refl _ _).alloc (Nat.le_refl _) _)) (Bs.litM [97] rfl rfl (by decide)) (by decide)).mono ?_
  rintro e w2 ⟨rfl, hs2, hk2⟩
  have hz2 := hk2.size
  simp at hz2
  have HB2 : Hid (Below w.heap.size w w2) := Lib.hid ((HB1.out.alloc hz1 _).trans (hk2.below (by simp; rintro k (h | h) <;> omega)))
  have HS2 := Lib.hid (hs2.mono (G := fun k => w.heap.size ≤ k) (by simp; rintro k (h | h) <;> omega))
  clear hs2 hk2
  go_wp2_with fail
  refine (shaWrite_any _ p [97] [98, 99] _ _ (HS2.out.below ((Below.refl _ _).alloc (Nat.le_refl _) _)) (Bs.litM [98, 99] rfl rfl (by decide)) (by decide)).mono ?_
  rintro e w3 ⟨rfl, hs3, hk3⟩
  have hz3 := hk3.size
  simp at hz3
  have HB3 : Hid (Below w.heap.size w w3) := Lib.hid ((HB2.out.alloc (by omega) _).trans (hk3.below (by simp; rintro k (h | h) <;> omega)))
  have HS3 := Lib.hid (hs3.mono (G := fun k => w.heap.size ≤ k) (by simp; rintro k (h | h) <;> omega))
  clear hs3 hk3
  go_wp2_with fail
  refine (shaDigest_any _ p [97, 98, 99] _ HS3.out (by decide)).mono ?_
  rintro e w4 ⟨v4, rfl, ho4, hb4⟩
  have h32 := digB_length [97, 98, 99]
  have htk := al_abc
  obtain ⟨d, hd⟩ : ∃ d, d = digB [97, 98, 99] := ⟨_, rfl⟩
  rw [← hd] at h32 htk ho4
  obtain ⟨g4, cap4, rest4, rfl, hg4, hblk4, hc4, hm4⟩ := ho4.blk (by omega)
  rw [h32] at hc4
  have hbd := ho4.bs
  have hbd' : Bs w4 (.slice (some ⟨g4, 0, none⟩) 32 cap4) d := by have := hbd; rwa [h32] at this
  have HBD := Lib.hid hbd'
  have hb44 : Bs w4 (.slice (some ⟨g4, 0, none⟩) 4 cap4) [186, 120, 22, 191] := by
    have h1 := Sl.mid hbd (off := 0) (n := 4) (cap := cap4) (by omega) (by omega) hm4
    rw [List.drop_zero, htk] at h1
    exact h1
  have HB44 := Lib.hid hb44
  have HB4 : Hid (Below w.heap.size w w4) := Lib.hid (HB3.out.trans (hb4.mono HB3.out.size))
  have hz4 := hb4.size
  have HD := Lib.hid hd
  unfold maxLen at hm4
  clear hbd hbd' hb44 ho4 hblk4 hb4 htk hd
  go_wp2_with fail
  refine (same_b _ _ _ _ _ (HB44.out.alloc _) (Bs.lit [186, 120, 22, 191] rfl rfl (by decide))).mono ?_
  rintro e w5 ⟨rfl, hb5⟩
  have hz5 := hb5.size
  simp at hz5
  have HB5 : Hid (Below w.heap.size w w5) := Lib.hid ((HB4.out.alloc (by omega) _).trans (hb5.mono (by simp; omega)))
  have HBD5 := Lib.hid ((HBD.out.alloc (.cells #[.int .u8 186, .int .u8 120, .int .u8 22, .int .u8 191] 5)).below hb5)
  clear hb5
  go_wp2_with fail
  have hm1 : Bs (w5.alloc (.cells #[.int .u8 97, .int .u8 98] 5 (2, 3))) (.slice (some ⟨w5.heap.size, 0, none⟩) 2 2) [97, 98] := Bs.litM [97, 98] rfl rfl (by decide)
  have hm2 : Bs ((w5.alloc (.cells #[.int .u8 97, .int .u8 98] 5 (2, 3))).alloc (.cells #[.int .u8 99] 5 (1, 2))) (.slice (some ⟨w5.heap.size + 1, 0, none⟩) 1 1) [99] := Bs.litM [99] (by simp) rfl (by decide)
  have hrs := Rs.two (T := 22) (hm1.alloc (.cells #[.int .u8 99] 5 (1, 2))) hm2
  rw [show ((w5.alloc (.cells #[.int .u8 97, .int .u8 98] 5 (2, 3))).alloc (.cells #[.int .u8 99] 5 (1, 2))).heap.size = w5.heap.size + 2 by simp] at hrs
  refine (shaOf_any _ _ _ hrs (by decide)).mono ?_
  rintro e w6 ⟨v6, rfl, ho6, hb6⟩
  have h6 := ho6.bs
  have hz6 := hb6.size
  simp at hz6
  have HB6 : Hid (Below w.heap.size w w6) := Lib.hid ((((HB5.out.alloc (by omega) _).alloc (by simp; omega) _).alloc (by simp; omega) _).trans (hb6.mono (by simp; omega)))
  have HBD6 := Lib.hid (((((HBD5.out.alloc (.cells #[.int .u8 97, .int .u8 98] 5 (2, 3))).alloc (.cells #[.int .u8 99] 5 (1, 2))).alloc _).below hb6))
  have H6 : Hid (Bs w6 v6 d) := Lib.hid (by rw [HD.out]; exact h6)
  clear hm1 hm2 hrs h6 ho6 hb6
  go_wp2_with fail
  refine (same_b _ _ _ _ _ HBD6.out H6.out).mono ?_
  rintro e w7 ⟨rfl, hb7⟩
  have hdd : decide (d = d) = true := by simp
  have HB7 : Hid (Below w.heap.size w w7) := Lib.hid (HB6.out.trans (hb7.mono (by omega)))
  clear hb7
  go_wp2_with fail
  go_ret
  exact ⟨rfl, HB7.out⟩
end Go.Proofs.Ytdmjliehobgknaa
