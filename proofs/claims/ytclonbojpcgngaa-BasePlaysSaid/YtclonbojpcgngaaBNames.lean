/- Contract: Base.Names. -/
import Derived.Test.YtclonbojpcgngaaBOps
namespace Go.Proofs.Ytclonbojpcgngaa
set_option linter.unusedSimpArgs false
set_option linter.unusedVariables false
open Go.RowKit

theorem elStr : Elem Try.prog 45 9 1 16 (.string .empty) := by
  refine Elem.mk Try.underlying45 ?_ rfl (by decide)
  kernel_rfl
def nmC (L : List Us) : List Value := L.map fun u => .string u.name
theorem nmC_snoc (L : List Us) (k : Nat) (h : k < L.length) : nmC (L.take (k + 1)) = nmC (L.take k) ++ [.string L[k].name] := by
  rw [List.take_succ_eq_append_getElem h, nmC, List.map_append]
  rfl

set_option maxRecDepth 100000 in
set_option maxHeartbeats 2000000 in
theorem names_any (p : Nat) (L : List Us) (l : List Res) (w : World) (h : Hold w (baseR p L :: l)) (hl : L.length ≤ 1000) :
    Calls Try.prog 15 #[.pointer (some ⟨p, 0, none⟩)] w fun e w' => ∃ v, e = .returned v ∧ Hold w' (.own 9 1 v L.length (nmC L) :: baseR p L :: l) := by
  obtain ⟨a, c, hc, hm, h⟩ := baseR_open h
  have c0 : w.cell? ⟨p, 0, none⟩ = some (.slice a L.length c) := (h.blkOf (List.mem_cons_self)).cell 0
  have HC := Lib.hid h
  clear h
  go_enter Try.func15, Try.ntmps15
  go_wp2_with fail
  go_loopw [3, 11] (fun ov iv wr => ∃ (k : Nat), iv = .int .i64 k ∧ k ≤ L.length ∧ Hold wr (.own 9 1 ov k (nmC (L.take k)) :: .blk p [.slice a L.length c] 65 :: .own 30 20 (.slice a L.length c) L.length (usC L) :: l)) (fun _ i _ => L.length - (intOf i).toNat)
  case atStart => exact ⟨0, rfl, Nat.zero_le _, HC.out.addNil _ _⟩
  case round =>
    obtain ⟨k, rfl, hk, hr⟩ := hrel
    obtain ⟨ao, co, rfl, hco, hmo⟩ := (hr.ownOf (e := 9) (sz := 1) (n := k) (cs := nmC (L.take k)) (List.mem_cons_self)).1.sl.form
    have HR := Lib.hid hr
    clear hr HC
    by_cases hlt : k < L.length
    · have HSL := Lib.hid (HR.out.ownOf (e := 30) (sz := 20) (v := .slice a L.length c) (n := L.length) (cs := usC L) (by simp)).1.sl
      obtain ⟨bl, ol, rfl, _⟩ := HSL.out.addr (by rw [usC_length]; omega)
      have HCE := Lib.hid (usC_cells HSL.out (Below.refl _ _) k hlt)
      obtain ⟨u, hu⟩ : ∃ u, u = L[k] := ⟨_, rfl⟩
      rw [← hu] at HCE
      have HU := Lib.hid hu
      obtain ⟨q, hq⟩ : ∃ q, q = wr.heap.size := ⟨_, rfl⟩
      have HA := Lib.hid (HR.out.addBlkAt zsU 30 hq.symm)
      have HQ := Lib.hid (HA.out.blkOf (p := q) (cs := zsU) (T := 30) (by simp))
      clear hu
      have HQE := Lib.hid hq
      clear hq
      go_wp2_with (first | ((with_reducible show wpList _ _ _ (⟨some 14, _, _, _, _, _⟩ :: _) _ _); refine wpList_ldAgg rfl (.tmp 13) aggUs rfl rfl (cs := u.cells) u.cells_length HCE.out ?_) | ((with_reducible show wpList _ _ _ (⟨none, .store _ (.tmp 5) (.tmp 14), _, _, _, _⟩ :: _) _ _); rw [← HQE.out]; refine wpList_stAgg rfl (.tmp 5) (.tmp 14) aggUs rfl rfl (vs := u.cells) rfl u.cells_length HQ.out (Nat.le_refl _) u.cells_one ?_))
      intro w2 h2 k2
      have h2' : Blk w2 q u.cells 30 := by simpa [zsU] using h2
      have HC2 := Lib.hid (HA.out.blkTurn h2' k2)
      have c0 := h2'.cell 0
      rw [u.c0] at c0
      obtain ⟨q2, hq2⟩ : ∃ q2, q2 = w2.heap.size := ⟨_, rfl⟩
      have HC3 := Lib.hid (HC2.out.tail.alloc (.cells #[.string u.name] 9))
      have HOWN := Lib.hid (HC3.out.ownOf (e := 9) (sz := 1) (v := .slice ao k co) (n := k) (cs := nmC (L.take k)) (List.mem_cons_self))
      have HLIT : Hid (Sl (w2.alloc (.cells #[.string u.name] 9)) 1 (.slice (some ⟨w2.heap.size, 0, none⟩) 1 1) 1 [.string u.name]) := Lib.hid (Sl.lit rfl rfl (by simp [Value.oneCell']) (by unfold maxLen; decide))
      clear h2 h2' k2 HC2 HA HQ hq2
      go_wp2_with ((with_reducible show wpList _ _ _ (⟨some 19, _, _, _, _, _⟩ :: _) _ _); refine wpList_app2 rfl (.tmp 15) (.tmp 18) elStr rfl 0 HOWN.out.1 HOWN.out.2 HLIT.out (by unfold maxLen; omega) (by omega) (Nat.zero_le _) ?_)
      intro v' w' h1 h2 h3
      have HD := Lib.hid (HC3.out.append (B := 0) h1 (h2.mono fun k h => by simpa using h) (fun k h => by simpa using h3 k h))
      clear h1 h2 h3
      go_wp2_with fail
      go_roundw
      case rel => exact ⟨k + 1, by go_num, by omega, by rw [nmC_snoc L k hlt, ← HU.out]; exact HD.out⟩
      case measure => simp [intOf]; omega
    · obtain rfl : k = L.length := by omega
      go_wp2_with fail
      go_ret
      have h9 := HR.out
      rw [List.take_length] at h9
      exact ⟨_, rfl, (baseR_shut h9.push3).swap⟩
end Go.Proofs.Ytclonbojpcgngaa
