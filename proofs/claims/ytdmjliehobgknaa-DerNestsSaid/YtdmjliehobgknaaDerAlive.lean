/- Contracts of der: Num, Raw, Seq; the law's alive. -/
import Derived.Test.YtdmjliehobgknaaDerLaw
namespace Go.Proofs.Ytdmjliehobgknaa
set_option linter.unusedSimpArgs false
set_option linter.unusedVariables false
open Go.RowKit

set_option maxRecDepth 100000 in
theorem derNum_any (n : Nat) (w : World) : Calls Try.prog 48 #[.int .u64 n] w fun e w' => e = .returned (.agg #[.int .i64 0, .int .i64 0, .int .u64 n, .slice none 0 0, .slice none 0 0]) ∧ Below w.heap.size w w' := by
  go_enter Try.func48, Try.ntmps48
  go_wp2_with fail
  have hb := Blk.new w [.int .i64 0, .int .i64 0, .int .u64 n, .slice none 0 0, .slice none 0 0] 47
  exact bodyPost_ret (results_agg rfl aggDer rfl (cs := [.int .i64 0, .int .i64 0, .int .u64 n, .slice none 0 0, .slice none 0 0]) rfl hb.cellsAll) rfl ⟨rfl, (Below.refl _ _).alloc (Nat.le_refl _) _⟩

set_option maxRecDepth 100000 in
theorem derSeq_any (t : Int) (lv : Value) (n c : Nat) (a : Option Addr) (hlv : lv = .slice a n c) (w : World) : Calls Try.prog 39 #[.int .i64 t, lv] w fun e w' => e = .returned (.agg #[.int .i64 2, .int .i64 t, .int .u64 0, .slice none 0 0, lv]) ∧ Below w.heap.size w w' := by
  subst hlv
  go_enter Try.func39, Try.ntmps39
  go_wp2_with fail
  have hb := Blk.new w [.int .i64 2, .int .i64 t, .int .u64 0, .slice none 0 0, .slice a n c] 47
  exact bodyPost_ret (results_agg rfl aggDer rfl (cs := [.int .i64 2, .int .i64 t, .int .u64 0, .slice none 0 0, .slice a n c]) rfl hb.cellsAll) rfl ⟨rfl, (Below.refl _ _).alloc (Nat.le_refl _) _⟩

set_option maxRecDepth 100000 in
theorem derRaw_any (v : Value) (b : List UInt8) (w : World) (h : Bs w v b) (hl : b.length ≤ 1099511627776) :
    Calls Try.prog 49 #[v] w fun e w' => ∃ v', e = .returned (.agg #[.int .i64 1, .int .i64 0, .int .u64 0, v', .slice none 0 0]) ∧ Bs w' v' b ∧ Below w.heap.size w w' := by
  obtain ⟨a, c, rfl, hc, hm⟩ := h.form
  have HA := Lib.hid (h.alloc (.cells zs5.toArray 47))
  have HN := Lib.hid (Blk.new w zs5 47)
  have HB0 : Hid (Below w.heap.size w (w.alloc (.cells zs5.toArray 47))) := Lib.hid ((Below.refl _ _).alloc (Nat.le_refl _) _)
  clear h
  go_enter Try.func49, Try.ntmps49
  go_wp2_with ((with_reducible show wpList _ _ _ (⟨some 4, _, _, _, _, _⟩ :: _) _ _); refine wpList_app2 rfl (.const (.slice none 0 0)) (.tmp 3) elBytes rfl w.heap.size (Own.nil _ _ _ _ _) (by simp [Act.eval, Value.ownBlock]) HA.out (by unfold maxLen; omega) (by omega) (by simp) ?_)
  intro v1 w1 ho1 hk1 hv1
  have hz1 := hk1.size
  simp at hz1
  have hb1 : Below w.heap.size w w1 := HB0.out.trans (hk1.below (by rintro x (h | h) <;> (try simp [Value.ownBlock] at h) <;> omega))
  have hr1 : Blk w1 w.heap.size zs5 47 := HN.out.keep hk1 (by rintro (h | h) <;> (try simp [Value.ownBlock] at h) <;> omega)
  have hvb : ∀ x, v1.ownBlock = some x → w.heap.size + 1 ≤ x := fun x hx => by
    rcases (hv1 x hx).1 with h | h
    · simp [Value.ownBlock] at h
    · try simp at h
      omega
  obtain ⟨a1, c1, rfl, _⟩ := ho1.sl.form
  have HR1 := Lib.hid hr1
  have HB1 := Lib.hid hb1
  have HS1 : Hid (Bs w1 (.slice a1 b.length c1) b) := Lib.hid ho1.sl
  have HVB := Lib.hid hvb
  clear ho1 hk1 hv1 hb1 hr1 hvb
  go_wp2_with ((with_reducible show wpList _ _ _ (⟨none, .store _ (.tmp 2) (.tmp 5), _, _, _, _⟩ :: _) _ _); refine wpList_stAgg rfl (.tmp 2) (.tmp 5) aggDer rfl rfl (vs := [.int .i64 1, .int .i64 0, .int .u64 0, .slice a1 b.length c1, .slice none 0 0]) rfl rfl HR1.out (Nat.le_refl _) (by intro u hu; simp at hu; rcases hu with rfl | rfl | rfl | rfl | rfl <;> rfl) ?_)
  intro w2 h2 k2
  have h2' : Blk w2 w.heap.size [.int .i64 1, .int .i64 0, .int .u64 0, .slice a1 b.length c1, .slice none 0 0] 47 := by simpa [zs5] using h2
  have H2 := Lib.hid h2'
  have HB2 : Hid (Below w.heap.size w w2) := Lib.hid (HB1.out.trans (k2.below (by omega)))
  have HS2 : Hid (Bs w2 (.slice a1 b.length c1) b) := Lib.hid (Sl.keep HS1.out k2 (fun x hx e => by have := HVB.out x hx; omega))
  clear h2 h2' k2
  go_wp2_with fail
  exact bodyPost_ret (results_agg rfl aggDer rfl (cs := [.int .i64 1, .int .i64 0, .int .u64 0, .slice a1 b.length c1, .slice none 0 0]) rfl H2.out.cellsAll) rfl ⟨_, rfl, HS2.out, HB2.out⟩

/-- The document's example. -/
def exV : Tv := .mk 2 3 0 [] [.mk 0 0 256 [] [], .mk 1 0 0 [9] [], .mk 2 0 0 [] []]
def exB : List UInt8 := [131, 9, 0, 2, 1, 0, 64, 1, 9, 128, 0]
theorem exW : wrS exV = (exB, 0) := by kernel_rfl
theorem exR : wholeS exB = (exV, 0) := by kernel_rfl
theorem exBad : wholeS [0, 2, 0, 1] = (.zero, 4) := by kernel_rfl
theorem exRight : rightS 8 exV = true := by kernel_rfl
theorem exLen : (writeS exV).length = 11 := by kernel_rfl
theorem exNw : Nw exV := ⟨by decide, ⟨by decide, trivial⟩, ⟨by decide, trivial⟩, ⟨by decide, trivial⟩, trivial⟩

set_option maxHeartbeats 4000000 in
set_option maxRecDepth 100000 in
theorem alive02_any (w : World) : Calls Try.prog 28 #[] w fun e w' => e = .returned (.bool true) ∧ Below w.heap.size w w' := by
  go_enter Try.func28, Try.ntmps28
  go_wp2_with fail
  refine (derNum_any 256 w).mono ?_
  rintro e w1 ⟨rfl, hb1⟩
  have hz1 := hb1.size
  have HB1 := Lib.hid hb1
  clear hb1
  have hb9 : Bs (w1.alloc (.cells #[.int .u8 9] 5)) (.slice (some ⟨w1.heap.size, 0, none⟩) 1 1) [9] := Bs.lit [9] rfl rfl (by simp [maxLen])
  have HB9 := Lib.hid hb9
  clear hb9
  go_wp2_with fail
  refine (derRaw_any _ [9] _ HB9.out (by simp)).mono ?_
  rintro e w2 ⟨v2, rfl, hs2, hb2⟩
  obtain ⟨a2, c2, rfl, hc2, hm2⟩ := hs2.form
  have hz2 := hb2.size
  simp at hz2
  have HS2 := Lib.hid hs2
  have HB2 : Hid (Below w.heap.size w w2) := Lib.hid ((HB1.out.alloc (by omega) _).trans (hb2.mono (by simp; omega)))
  clear hs2 hb2 HB9 HB1
  go_wp2_with fail
  refine (derSeq_any 0 _ 0 0 none rfl w2).mono ?_
  rintro e w3 ⟨rfl, hb3⟩
  have hz3 := hb3.size
  have HS3 := Lib.hid (HS2.out.below hb3)
  have HB3 : Hid (Below w.heap.size w w3) := Lib.hid (HB2.out.trans (hb3.mono (by omega)))
  clear hb3 HS2 HB2
  go_wp2_with fail
  obtain ⟨g, hg⟩ : ∃ g, g = w3.heap.size := ⟨_, rfl⟩
  have hrow : Sl (w3.alloc (.cells #[.int .i64 0, .int .i64 0, .int .u64 256, .slice none 0 0, .slice none 0 0, .int .i64 1, .int .i64 0, .int .u64 0, .slice a2 1 c2, .slice none 0 0, .int .i64 2, .int .i64 0, .int .u64 0, .slice none 0 0, .slice none 0 0] 47)) 5 (.slice (some ⟨w3.heap.size, 0, none⟩) 3 3) 3 [.int .i64 0, .int .i64 0, .int .u64 256, .slice none 0 0, .slice none 0 0, .int .i64 1, .int .i64 0, .int .u64 0, .slice a2 1 c2, .slice none 0 0, .int .i64 2, .int .i64 0, .int .u64 0, .slice none 0 0, .slice none 0 0] := Sl.lit (n := 3) rfl rfl (by intro u hu; simp at hu; rcases hu with rfl | rfl | rfl | rfl | rfl | rfl | rfl | rfl | rfl | rfl | rfl | rfl | rfl | rfl | rfl <;> rfl) (by unfold maxLen; decide)
  have htv : TvF (w3.alloc (.cells #[.int .i64 0, .int .i64 0, .int .u64 256, .slice none 0 0, .slice none 0 0, .int .i64 1, .int .i64 0, .int .u64 0, .slice a2 1 c2, .slice none 0 0, .int .i64 2, .int .i64 0, .int .u64 0, .slice none 0 0, .slice none 0 0] 47)) (fun _ => True) exV [.int .i64 2, .int .i64 3, .int .u64 0, .slice none 0 0, .slice (some ⟨w3.heap.size, 0, none⟩) 3 3] := by
    refine ⟨_, _, _, rfl, Sl.nil _ _ _, fun _ _ _ => trivial, hrow, fun _ _ _ => trivial, ?_⟩
    refine ⟨[.int .i64 0, .int .i64 0, .int .u64 256, .slice none 0 0, .slice none 0 0], _, rfl, TvF.mk (Sl.nil _ _ _) (fun _ _ => trivial) (Sl.nil _ _ _) (fun _ _ => trivial) rfl, ?_⟩
    refine ⟨[.int .i64 1, .int .i64 0, .int .u64 0, .slice a2 1 c2, .slice none 0 0], _, rfl, TvF.mk (HS3.out.alloc _) (fun _ _ => trivial) (Sl.nil _ _ _) (fun _ _ => trivial) rfl, ?_⟩
    exact ⟨[.int .i64 2, .int .i64 0, .int .u64 0, .slice none 0 0, .slice none 0 0], [], rfl, TvF.mk (Sl.nil _ _ _) (fun _ _ => trivial) (Sl.nil _ _ _) (fun _ _ => trivial) rfl, rfl⟩
  have HTV := Lib.hid htv
  have HSEQ := Lib.hid (derSeq_any 3 (.slice (some ⟨w3.heap.size, 0, none⟩) 3 3) 3 3 _ rfl (w3.alloc (.cells #[.int .i64 0, .int .i64 0, .int .u64 256, .slice none 0 0, .slice none 0 0, .int .i64 1, .int .i64 0, .int .u64 0, .slice a2 1 c2, .slice none 0 0, .int .i64 2, .int .i64 0, .int .u64 0, .slice none 0 0, .slice none 0 0] 47)))
  clear hrow htv hg
  refine HSEQ.out.mono ?_
  rintro e w5 ⟨rfl, hb5⟩
  have hz5 := hb5.size
  simp at hz5
  have HTV5 := Lib.hid (HTV.out.below hb5)
  have HB5 : Hid (Below w.heap.size w w5) := Lib.hid ((HB3.out.alloc (by omega) _).trans (hb5.mono (by simp; omega)))
  obtain ⟨g, hg⟩ : ∃ g, g = w3.heap.size := ⟨_, rfl⟩
  rw [← hg] at HTV5 ⊢
  clear hb5 HB3 HTV HSEQ HS3 hg
  have HP0 : Hid (Blk (w5.alloc (.cells #[.int .i64 2, .int .i64 3, .int .u64 0, .slice none 0 0, .slice (some ⟨g, 0, none⟩) 3 3] 47)) w5.heap.size [.int .i64 2, .int .i64 3, .int .u64 0, .slice none 0 0, .slice (some ⟨g, 0, none⟩) 3 3] 47) := Lib.hid (Blk.new w5 _ _)
  have HTV6 : Hid (TvF (w5.alloc (.cells #[.int .i64 2, .int .i64 3, .int .u64 0, .slice none 0 0, .slice (some ⟨g, 0, none⟩) 3 3] 47)) (fun _ => True) exV [.int .i64 2, .int .i64 3, .int .u64 0, .slice none 0 0, .slice (some ⟨g, 0, none⟩) 3 3]) := Lib.hid (HTV5.out.below ((Below.refl _ _).alloc (Nat.le_refl _) _))
  have HB6 : Hid (Below w.heap.size w (w5.alloc (.cells #[.int .i64 2, .int .i64 3, .int .u64 0, .slice none 0 0, .slice (some ⟨g, 0, none⟩) 3 3] 47))) := Lib.hid (HB5.out.alloc (by omega) _)
  have HWR := Lib.hid (derWriteIt_any exV (fun _ => True) [.int .i64 2, .int .i64 3, .int .u64 0, .slice none 0 0, .slice (some ⟨g, 0, none⟩) 3 3] (w5.alloc (.cells #[.int .i64 2, .int .i64 3, .int .u64 0, .slice none 0 0, .slice (some ⟨g, 0, none⟩) 3 3] 47)) HTV6.out exNw (fun _ => by rw [exLen]; decide))
  rw [exW] at HWR
  clear HTV5 HB5
  go_wp2_with fail
  refine HWR.out.mono ?_
  rintro e w7 ⟨v7, rfl, hs7, hb7⟩
  obtain ⟨a7, c7, rfl, hc7, hm7⟩ := hs7.form
  have hz7 := hb7.size
  simp at hz7
  have HS7 := Lib.hid hs7
  have HB7 : Hid (Below w.heap.size w w7) := Lib.hid (HB6.out.trans (hb7.mono (by simp; omega)))
  have HP7 := Lib.hid (HP0.out.below hb7 (by simp))
  have HTV7 := Lib.hid (HTV6.out.below hb7)
  clear hs7 hb7 HB6 HP0 HTV6 HWR
  go_wp2_with fail
  refine (derWhole_any _ exB w7 HS7.out).mono ?_
  rw [exR]
  rintro e w8 ⟨cs8, rfl, htv8, hb8⟩
  have hz8 := hb8.size
  have HCL8 : Hid (cs8.length = 5) := Lib.hid htv8.length
  have HC18 := Lib.hid htv8.one
  have HN8 := Lib.hid (Blk.new w8 zs5 47)
  have HTR8 := Lib.hid htv8
  have HS8 := Lib.hid (HS7.out.below hb8)
  have HB8 : Hid (Below w.heap.size w w8) := Lib.hid (HB7.out.trans (hb8.mono (by omega)))
  have HP8 := Lib.hid (HP7.out.below hb8 (by omega))
  have HTV8 := Lib.hid (HTV7.out.below hb8)
  clear htv8 hb8 HS7 HB7 HP7 HTV7
  go_wp2_with ((with_reducible show wpList _ _ _ (⟨none, .store _ (.tmp 4) (.tmp 22), _, _, _, _⟩ :: _) _ _); refine wpList_stAgg rfl (.tmp 4) (.tmp 22) aggDer rfl rfl (vs := cs8) rfl HCL8.out HN8.out (Nat.le_refl _) HC18.out ?_)
  intro w9 h9 k9
  have h9' : Blk w9 w8.heap.size cs8 47 := by
    rw [List.drop_of_length_le (by decide), List.append_nil] at h9
    exact h9
  have hz9 := k9.size
  simp at hz9
  have hb9 : Below w8.heap.size w8 w9 := ((Below.refl _ _).alloc (Nat.le_refl _) _).trans (k9.below (by omega))
  have HR9 := Lib.hid h9'
  have HTR9 := Lib.hid (HTR8.out.below hb9)
  have HS9 := Lib.hid (HS8.out.below hb9)
  have HB9 : Hid (Below w.heap.size w w9) := Lib.hid (HB8.out.trans (hb9.mono (by omega)))
  have HP9 := Lib.hid (HP8.out.below hb9 (by omega))
  have HTV9 := Lib.hid (HTV8.out.below hb9)
  clear h9 h9' k9 hb9 HTR8 HS8 HB8 HP8 HTV8 HN8
  have HBL : Hid (Bs (w9.alloc (.cells #[.int .u8 0, .int .u8 2, .int .u8 0, .int .u8 1] 5)) (.slice (some ⟨w9.heap.size, 0, none⟩) 4 4) [0, 2, 0, 1]) := Lib.hid (Bs.lit [0, 2, 0, 1] rfl rfl (by simp [maxLen]))
  go_wp2_with fail
  refine (derWhole_any _ [0, 2, 0, 1] _ HBL.out).mono ?_
  rw [exBad]
  rintro e w10 ⟨cs10, rfl, htv10, hb10⟩
  have hz10 := hb10.size
  simp at hz10
  have hba : Below w9.heap.size w9 w10 := ((Below.refl _ _).alloc (Nat.le_refl _) _).trans (hb10.mono (by simp))
  have HCL10 : Hid (cs10.length = 5) := Lib.hid htv10.length
  have HC110 := Lib.hid htv10.one
  have HN10 := Lib.hid (Blk.new w10 zs5 47)
  have HR10 := Lib.hid (HR9.out.below hba (by omega))
  have HTR10 := Lib.hid (HTR9.out.below hba)
  have HS10 := Lib.hid (HS9.out.below hba)
  have HB10 : Hid (Below w.heap.size w w10) := Lib.hid (HB9.out.trans (hba.mono (by omega)))
  have HP10 := Lib.hid (HP9.out.below hba (by omega))
  have HTV10 := Lib.hid (HTV9.out.below hba)
  clear htv10 hb10 hba HR9 HTR9 HS9 HB9 HP9 HTV9 HBL
  go_wp2_with ((with_reducible show wpList _ _ _ (⟨none, .store _ (.tmp 6) (.tmp 27), _, _, _, _⟩ :: _) _ _); refine wpList_stAgg rfl (.tmp 6) (.tmp 27) aggDer rfl rfl (vs := cs10) rfl HCL10.out HN10.out (Nat.le_refl _) HC110.out ?_)
  intro w11 h11 k11
  have hz11 := k11.size
  simp at hz11
  have hb11 : Below w10.heap.size w10 w11 := ((Below.refl _ _).alloc (Nat.le_refl _) _).trans (k11.below (by omega))
  have HR11 := Lib.hid (HR10.out.below hb11 (by omega))
  have HTR11 := Lib.hid (HTR10.out.below hb11)
  have HS11 := Lib.hid (HS10.out.below hb11)
  have HB11 : Hid (Below w.heap.size w w11) := Lib.hid (HB10.out.trans (hb11.mono (by omega)))
  have HP11 := Lib.hid (HP10.out.below hb11 (by omega))
  have HTV11 := Lib.hid (HTV10.out.below hb11)
  clear h11 k11 hb11 HR10 HTR10 HS10 HB10 HP10 HTV10 HN10
  obtain ⟨p5, hp5⟩ : ∃ p5, p5 = w5.heap.size := ⟨_, rfl⟩
  obtain ⟨p8, hp8⟩ : ∃ p8, p8 = w8.heap.size := ⟨_, rfl⟩
  rw [← hp5] at HP11 ⊢
  rw [← hp8] at HR11 ⊢
  have hp5w : p5 < w11.heap.size := by omega
  have hp8w : p8 < w11.heap.size := by omega
  have hww : w.heap.size ≤ w11.heap.size := by omega
  clear hp5 hp8
  have HBX : Hid (Bs (w11.alloc (.cells (bCells exB).toArray 5)) (.slice (some ⟨w11.heap.size, 0, none⟩) 11 11) exB) := Lib.hid (Bs.lit exB rfl (by simp) (by simp [exB, maxLen]))
  go_wp2_with fail
  refine (same_b _ _ exB exB _ (HS11.out.alloc (.cells (bCells exB).toArray 5)) HBX.out).mono ?_
  rintro e w12 ⟨rfl, hb12⟩
  have hz12 := hb12.size
  simp at hz12
  have hbb : Below w11.heap.size w11 w12 := ((Below.refl _ _).alloc (Nat.le_refl _) _).trans (hb12.mono (by simp))
  have HR12 := Lib.hid (HR11.out.below hbb hp8w)
  have HTR12 := Lib.hid (HTR11.out.below hbb)
  have HB12 : Hid (Below w.heap.size w w12) := Lib.hid (HB11.out.trans (hbb.mono hww))
  have HP12 := Lib.hid (HP11.out.below hbb hp5w)
  have HTV12 := Lib.hid (HTV11.out.below hbb)
  have HSAME := Lib.hid (derSame_any exV exV _ _ _ cs8 w12 HTV12.out HTR12.out)
  have heq : tvEq exV exV = true := (tvEq_iff _ _).2 rfl
  rw [heq] at HSAME
  clear hb12 hbb HR11 HTR11 HS11 HB11 HP11 HTV11 HBX heq
  rw [show decide (exB = exB) = true from by simp]
  go_wp2_with (first | ((with_reducible show wpList _ _ _ (⟨some 45, _, _, _, _, _⟩ :: _) _ _); refine wpList_ldAgg rfl (.tmp 1) aggDer rfl rfl (cs := [.int .i64 2, .int .i64 3, .int .u64 0, .slice none 0 0, .slice (some ⟨g, 0, none⟩) 3 3]) rfl HP12.out.cellsAll ?_) | ((with_reducible show wpList _ _ _ (⟨some 46, _, _, _, _, _⟩ :: _) _ _); refine wpList_ldAgg rfl (.tmp 4) aggDer rfl rfl (cs := cs8) HCL8.out HR12.out.cellsAll ?_))
  refine HSAME.out.mono ?_
  rintro e w13 ⟨rfl, hb13⟩
  have hz13 := hb13.size
  have HB13 : Hid (Below w.heap.size w w13) := Lib.hid (HB12.out.trans (hb13.mono (by omega)))
  have HP13 := Lib.hid (HP12.out.below hb13 (by omega))
  have HRI := Lib.hid (derRightIt_any exV _ [.int .i64 2, .int .i64 3, .int .u64 0, .slice none 0 0, .slice (some ⟨g, 0, none⟩) 3 3] w13 (HTV12.out.below hb13))
  rw [exRight] at HRI
  clear hb13 HR12 HTR12 HB12 HP12 HTV12 HSAME
  go_wp2_with ((with_reducible show wpList _ _ _ (⟨some 50, _, _, _, _, _⟩ :: _) _ _); refine wpList_ldAgg rfl (.tmp 1) aggDer rfl rfl (cs := [.int .i64 2, .int .i64 3, .int .u64 0, .slice none 0 0, .slice (some ⟨g, 0, none⟩) 3 3]) rfl HP13.out.cellsAll ?_)
  refine HRI.out.mono ?_
  rintro e w14 ⟨rfl, hb14⟩
  have hz14 := hb14.size
  have HB14 : Hid (Below w.heap.size w w14) := Lib.hid (HB13.out.trans (hb14.mono (by omega)))
  have HRJ := Lib.hid (derRightIt_any (.mk 0 31 0 [] []) (fun _ => True) [.int .i64 0, .int .i64 31, .int .u64 0, .slice none 0 0, .slice none 0 0] w14 (TvF.mk (Sl.nil _ _ _) (fun _ _ => trivial) (Sl.nil _ _ _) (fun _ _ => trivial) rfl))
  rw [show rightS 8 (.mk 0 31 0 [] []) = false from by kernel_rfl] at HRJ
  clear hb14 HB13 HP13 HRI
  go_wp2_with fail
  refine HRJ.out.mono ?_
  rintro e w15 ⟨rfl, hb15⟩
  have HB15 : Hid (Below w.heap.size w w15) := Lib.hid (HB14.out.trans (hb15.mono (by omega)))
  clear hb15 HB14 HRJ
  go_wp2_with fail
  go_ret
  exact ⟨rfl, HB15.out⟩
end Go.Proofs.Ytdmjliehobgknaa
