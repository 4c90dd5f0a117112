/- The statement MacSums: the keyed sum of all keys and bytes is the document's. -/
import Derived.Test.YtdmjliehobgknaaMacAlive
import Derived.Test.YtdmjliehobgknaaRef04
import Derived.Test.YtdmjliehobgknaaRef03d
import Derived.Test.YtdmjliehobgknaaRefKs
namespace Go.Proofs.Ytdmjliehobgknaa
set_option linter.unusedSimpArgs false
set_option linter.unusedVariables false
open Go.RowKit

set_option maxHeartbeats 2000000 in
set_option maxRecDepth 100000 in
theorem macSums_walk (u v : Value) (key b : List UInt8) (w : World) (hu : Bs w u key) (hv : Bs w v b) :
    Calls Try.prog 6 #[u, v] w fun e w' => e = .returned (.bool true) ∧ Below w.heap.size w w' := by
  obtain ⟨au, cu, rfl, hcu, hmu⟩ := hu.form
  obtain ⟨ab, cb, rfl, hcb, hmb⟩ := hv.form
  have HU := Lib.hid hu
  have HV := Lib.hid hv
  unfold maxLen at hmb hmu
  clear hu hv
  go_enter Try.func6, Try.ntmps6
  go_wp2_with fail
  refine (alive04_any w).mono ?_
  rintro e w1 ⟨rfl, hb1⟩
  have hz1 := hb1.size
  have HB1 := Lib.hid hb1
  have HU1 := Lib.hid (HU.out.below hb1)
  have HV1 := Lib.hid (HV.out.below hb1)
  clear hb1
  by_cases hlk : key.length ≤ 200
  · have hlk' : ¬ (200 : Int) < key.length := by omega
    by_cases hl : b.length ≤ 200
    · have hl' : ¬ (200 : Int) < b.length := by omega
      have hrs := Rs.one (T := 22) HV1.out
      have HRS := Lib.hid hrs
      have HB2 : Hid (Below w.heap.size w (w1.alloc (.cells #[.slice ab b.length cb] 22))) := Lib.hid (HB1.out.alloc hz1 _)
      have HU2 := Lib.hid (HU1.out.alloc (.cells #[.slice ab b.length cb] 22))
      clear hrs
      go_wp2_with fail
      refine (macSum_any _ _ key [b] _ HU2.out HRS.out (by omega) (by simp; omega) (by simp)).mono ?_
      rintro e w2 ⟨x2, rfl, ho2, hb2⟩
      have hz2 := hb2.size
      simp at hz2
      have h2 := ho2.bs
      rw [show [b].flatten = b by simp] at h2
      obtain ⟨D, hD⟩ : ∃ D, D = macB key b := ⟨_, rfl⟩
      rw [← hD] at h2
      have HD := Lib.hid hD
      have H2 := Lib.hid h2
      have HB3 : Hid (Below w.heap.size w w2) := Lib.hid (HB2.out.trans (hb2.mono (by simp; omega)))
      clear h2 ho2 hb2 hD
      go_wp2_with fail
      refine (refKs_any w2 ks_eq).mono ?_
      rintro e w3 ⟨x3, rfl, ho3, hb3⟩
      obtain ⟨K, hK⟩ : ∃ K, K = kL := ⟨_, rfl⟩
      rw [← hK] at ho3
      have hz3 := hb3.size
      have H3 : Hid (Ws w3 x3 K) := Lib.hid ho3.sl
      have HK := Lib.hid hK
      have H23 := Lib.hid (H2.out.below hb3)
      have HB4 : Hid (Below w.heap.size w w3) := Lib.hid (HB3.out.trans (hb3.mono (by omega)))
      have HU4 := Lib.hid (HU.out.below HB4.out)
      have HV4 := Lib.hid (HV.out.below HB4.out)
      clear ho3 hb3 hK
      go_wp2_with fail
      refine (refMacSum_any _ _ _ K key b w3 H3.out HK.out HU4.out HV4.out (by omega) (by omega)).mono ?_
      rintro e w4 ⟨x4, rfl, ho4, hb4⟩
      rw [← HD.out] at ho4
      have hz4 := hb4.size
      have H4 := Lib.hid ho4.bs
      have H24 := Lib.hid (H23.out.below hb4)
      have HB5 : Hid (Below w.heap.size w w4) := Lib.hid (HB4.out.trans (hb4.mono (by omega)))
      clear ho4 hb4
      go_wp2_with fail
      refine (same_b _ _ _ _ _ H24.out H4.out).mono ?_
      rintro e w5 ⟨rfl, hb5⟩
      have hdd : decide (D = D) = true := by simp
      have HB6 : Hid (Below w.heap.size w w5) := Lib.hid (HB5.out.trans (hb5.mono (by omega)))
      clear hb5
      go_wp2_with fail
      go_ret
      exact ⟨rfl, HB6.out⟩
    · have hl' : (200 : Int) < b.length := by omega
      go_wp2_with fail
      go_ret
      exact ⟨rfl, HB1.out⟩
  · have hlk' : (200 : Int) < key.length := by omega
    go_wp2_with fail
    go_ret
    exact ⟨rfl, HB1.out⟩
end Go.Proofs.Ytdmjliehobgknaa
