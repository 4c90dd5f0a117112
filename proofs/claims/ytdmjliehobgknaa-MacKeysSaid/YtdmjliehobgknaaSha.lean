/- sha: words, their turning. -/
import Derived.Test.YtdmjliehobgknaaSlices
import Derived.Test.YtdmjliehobgknaaBase2
import Derived.Test.YtdmjliehobgknaaArr
import Derived.Deep.RegionHeld3
namespace Go.Proofs.Ytdmjliehobgknaa
set_option linter.unusedSimpArgs false
set_option linter.unusedVariables false
open Go.RowKit

/-- Words, in cells. -/
def wV (x : Int) : Value := .int .u32 x
def wCells (l : List Int) : List Value := l.map wV
theorem wCells_length (l : List Int) : (wCells l).length = l.length := by simp [wCells]
theorem wCells_get (l : List Int) (k : Nat) (h : k < l.length) : (wCells l)[k]? = some (.int .u32 l[k]) := by simp [wCells, h, wV]
theorem wCells_append (a b : List Int) : wCells (a ++ b) = wCells a ++ wCells b := by simp [wCells]
theorem wCells_one (l : List Int) : ∀ u ∈ wCells l, u.oneCell' = true := by
  intro u hu
  obtain ⟨x, _, rfl⟩ := List.mem_map.1 hu
  rfl
theorem wCells_set (l : List Int) (k : Nat) (x : Int) : (wCells l).set k (.int .u32 x) = wCells (l.set k x) := by simp [wCells, List.map_set, wV]

/-- A word, turned to the right. -/
def tI (x n : Int) : Int := bits .or .u32 (x / 2 ^ n.toNat) (x * 2 ^ (32 - n).toNat % 4294967296)

theorem turn_any (x n : Int) (w : World) (hn : 0 < n) (hn2 : n < 32) :
    Calls Try.prog 59 #[.int .u32 x, .int .i64 n] w fun e w' => e = .returned (.int .u32 (tI x n)) ∧ w' = w.drew := by
  go_enter Try.func59, Try.ntmps59
  go_wp2_with fail
  go_region
  all_goals go_wp2_with fail
  all_goals go_ret
  all_goals exact ⟨rfl, rfl⟩

theorem turn_quiet (x n : Int) (w : World) (j : Nat) (hn : 0 < n) (hn2 : n < 32) :
    Calls Try.prog 59 #[.int .u32 x, .int .i64 n] (w.drewN j) fun e w' => e = .returned (.int .u32 (tI x n)) ∧ ∃ m, w' = w.drewN m :=
  (turn_any x n (w.drewN j) hn hn2).mono (by rintro e w' ⟨rfl, rfl⟩; exact ⟨rfl, j + 1, rfl⟩)

theorem refTurn_any (x n : Int) (w : World) (hn : 0 < n) (hn2 : n < 32) :
    Calls Try.prog 56 #[.int .u32 x, .int .u64 n] w fun e w' => e = .returned (.int .u32 (tI x n)) ∧ w' = w := by
  go_enter Try.func56, Try.ntmps56
  go_wp2_with fail
  go_ret
  exact ⟨rfl, rfl⟩

theorem ix64 (b k : Nat) (hk : k < 64) (w : World) : (Instr.indexAt 94 (.pointer (some ⟨b, 0, none⟩)) (.int .i64 k)).run Try.prog w = .ok (.pointer (some ⟨b, k, none⟩)) w := by
  have := run_idx (P := Try.prog) (t := 94) (e := 71) (n := 64) Try.underlying94 (i := (Try.prog.info? 71).get (by kernel_rfl)) (by kernel_rfl) (by kernel_rfl) b 0 k w (by omega) (by omega)
  simpa using this

theorem ix64i (b : Nat) (z : Int) (k : Nat) (hz : z = k) (hk : k < 64) (w : World) : (Instr.indexAt 94 (.pointer (some ⟨b, 0, none⟩)) (.int .i64 z)).run Try.prog w = .ok (.pointer (some ⟨b, k, none⟩)) w := by
  subst hz
  exact ix64 b k hk w

theorem ix8 (b o k : Nat) (hk : k < 8) (w : World) : (Instr.indexAt 76 (.pointer (some ⟨b, o, none⟩)) (.int .i64 k)).run Try.prog w = .ok (.pointer (some ⟨b, o + k, none⟩)) w := by
  have := run_idx (P := Try.prog) (t := 76) (e := 71) (n := 8) Try.underlying76 (i := (Try.prog.info? 71).get (by kernel_rfl)) (by kernel_rfl) (by kernel_rfl) b o k w (by omega) (by omega)
  simpa using this

/-- A block's word. -/
def wordI (b : List UInt8) (k : Nat) : Int := (getN ((b.drop (4 * k)).take 4) : Int)

theorem keep_far {w : World} {q k j : Nat} {x v : Value} (h : w.cell? ⟨q, j, none⟩ = some x) (hne : k ≠ j) : (w.setCell ⟨q, k, none⟩ v).cell? ⟨q, j, none⟩ = some x := by
  exact (World.cell?_setCell_other (w := w) (a := ⟨q, k, none⟩) (b := ⟨q, j, none⟩) (v := v) (by simp [hne])).trans h

/-- A word of the schedule, out of four that stand ahead of it. -/
def sI (x16 x15 x7 x2 : Int) : Int :=
  (x16 + bits BinOp.xor IntKind.u32 (bits BinOp.xor IntKind.u32 (tI x15 7) (tI x15 18)) (x15 / 8) + x7 + bits BinOp.xor IntKind.u32 (bits BinOp.xor IntKind.u32 (tI x2 17) (tI x2 19)) (x2 / 1024)) % 4294967296
theorem sI_eq (x16 x15 x7 x2 : Int) : (((x16 + bits BinOp.xor IntKind.u32 (bits BinOp.xor IntKind.u32 (tI x15 7) (tI x15 18)) (x15 / 8)) % 4294967296 + x7) % 4294967296 + bits BinOp.xor IntKind.u32 (bits BinOp.xor IntKind.u32 (tI x2 17) (tI x2 19)) (x2 / 1024)) % 4294967296 = sI x16 x15 x7 x2 := by
  unfold sI
  generalize bits BinOp.xor IntKind.u32 (bits BinOp.xor IntKind.u32 (tI x15 7) (tI x15 18)) (x15 / 8) = A
  generalize bits BinOp.xor IntKind.u32 (bits BinOp.xor IntKind.u32 (tI x2 17) (tI x2 19)) (x2 / 1024) = B
  omega

/-- The two sums of a round. -/
def oneI (e f g i k w : Int) : Int :=
  (i + bits BinOp.xor IntKind.u32 (bits BinOp.xor IntKind.u32 (tI e 6) (tI e 11)) (tI e 25) + bits BinOp.xor IntKind.u32 (bits BinOp.and IntKind.u32 e f) (bits BinOp.and IntKind.u32 (bits BinOp.xor IntKind.u32 IntKind.u32.max e) g) + k + w) % 4294967296
def twoI (a b c : Int) : Int :=
  (bits BinOp.xor IntKind.u32 (bits BinOp.xor IntKind.u32 (tI a 2) (tI a 13)) (tI a 22) + bits BinOp.xor IntKind.u32 (bits BinOp.xor IntKind.u32 (bits BinOp.and IntKind.u32 a b) (bits BinOp.and IntKind.u32 a c)) (bits BinOp.and IntKind.u32 b c)) % 4294967296

/-- Words, added one by one: the first k of them. -/
def addW (h v : List Int) (k : Nat) : List Int := (List.zipWith (fun a b => (a + b) % 4294967296) h v).take k ++ h.drop k
theorem addW_length (h v : List Int) (k : Nat) (hv : h.length = v.length) (hk : k ≤ h.length) : (addW h v k).length = h.length := by
  simp [addW]; omega
theorem addW_get (h v : List Int) (k : Nat) (hv : h.length = v.length) (hk : k < h.length) : (addW h v k)[k]? = some h[k] := by
  unfold addW
  rw [List.getElem?_append_right (by simp; omega)]
  simp [show min k (min h.length v.length) = k by omega, hk]
theorem addW_set (h v : List Int) (k : Nat) (hv : h.length = v.length) (hk : k < h.length) : (addW h v k).set k ((h[k] + v[k]'(by omega)) % 4294967296) = addW h v (k + 1) := by
  have hz : (List.zipWith (fun a b => (a + b) % 4294967296) h v).length = h.length := by simp; omega
  unfold addW
  rw [List.set_append_right _ _ (by simp; omega), List.take_succ_eq_append_getElem (by omega)]
  simp only [List.length_take, hz, Nat.min_eq_left (Nat.le_of_lt hk), Nat.sub_self, List.append_assoc]
  rw [List.drop_eq_getElem_cons hk, List.set_cons_zero]
  simp


/-- One word more. -/
def nextI (b : List UInt8) (k : Nat) (L : List Int) : List Int :=
  L ++ [if k < 16 then wordI b k else sI (L.getD (k - 16) 0) (L.getD (k - 15) 0) (L.getD (k - 7) 0) (L.getD (k - 2) 0)]

/-- The words of a block's rounds, one by one. -/
def schedI (b : List UInt8) : Nat → List Int
  | 0 => []
  | k + 1 => nextI b k (schedI b k)
theorem schedI_length (b : List UInt8) : ∀ k, (schedI b k).length = k
  | 0 => rfl
  | k + 1 => by simp [schedI, nextI, schedI_length b k]

/-- The words so far, and 0 behind them. -/
def schedZ (b : List UInt8) (k : Nat) : List Int := schedI b k ++ List.replicate (64 - k) 0
theorem schedZ_length (b : List UInt8) (k : Nat) (h : k ≤ 64) : (schedZ b k).length = 64 := by simp [schedZ, schedI_length]; omega
theorem schedZ_set (b : List UInt8) (k : Nat) (h : k < 64) (x : Int) (hx : schedI b (k + 1) = schedI b k ++ [x]) : (schedZ b k).set k x = schedZ b (k + 1) := by
  unfold schedZ
  rw [hx, List.set_append_right _ _ (by rw [schedI_length]; exact Nat.le_refl _), schedI_length, Nat.sub_self, show 64 - k = (64 - (k + 1)) + 1 by omega, List.replicate_succ, List.set_cons_zero]
  simp
theorem schedI_low (b : List UInt8) (k : Nat) (h : k < 16) : schedI b (k + 1) = schedI b k ++ [wordI b k] := by simp [schedI, nextI, h]
theorem schedZ_getD (b : List UInt8) (k j : Nat) (h : j < k) : (schedZ b k).getD j 0 = (schedI b k).getD j 0 := by
  unfold schedZ
  simp [List.getD, List.getElem?_append_left, schedI_length, h]
theorem schedI_high (b : List UInt8) (k : Nat) (h : 16 ≤ k) : schedI b (k + 1) = schedI b k ++ [sI ((schedZ b k).getD (k - 16) 0) ((schedZ b k).getD (k - 15) 0) ((schedZ b k).getD (k - 7) 0) ((schedZ b k).getD (k - 2) 0)] := by
  rw [schedZ_getD _ _ _ (by omega), schedZ_getD _ _ _ (by omega), schedZ_getD _ _ _ (by omega), schedZ_getD _ _ _ (by omega)]
  simp [schedI, nextI, show ¬ k < 16 by omega]

/-- The rounds' constants. -/
def kL : List Int := [1116352408, 1899447441, 3049323471, 3921009573, 961987163, 1508970993, 2453635748, 2870763221, 3624381080, 310598401, 607225278, 1426881987, 1925078388, 2162078206, 2614888103, 3248222580, 3835390401, 4022224774, 264347078, 604807628, 770255983, 1249150122, 1555081692, 1996064986, 2554220882, 2821834349, 2952996808, 3210313671, 3336571891, 3584528711, 113926993, 338241895, 666307205, 773529912, 1294757372, 1396182291, 1695183700, 1986661051, 2177026350, 2456956037, 2730485921, 2820302411, 3259730800, 3345764771, 3516065817, 3600352804, 4094571909, 275423344, 430227734, 506948616, 659060556, 883997877, 958139571, 1322822218, 1537002063, 1747873779, 1955562222, 2024104815, 2227730452, 2361852424, 2428436474, 2756734187, 3204031479, 3329325298]
theorem kL_length : kL.length = 64 := rfl

theorem agg64 : AggTy Try.prog 94 64 := AggTy.mk Try.underlying94 rfl (by kernel_rfl)
theorem agg8 : AggTy Try.prog 76 8 := AggTy.mk Try.underlying76 rfl (by kernel_rfl)

theorem elWords : Elem Try.prog 27 71 1 4 (.int .u32 0) := by
  refine Elem.mk Try.underlying27 ?_ rfl (by decide)
  kernel_rfl

def z8 : List Int := List.replicate 8 0
theorem z8_length : z8.length = 8 := by simp [z8]
def z64 : List Int := List.replicate 64 0
theorem z64_length : z64.length = 64 := by simp [z64]

set_option maxHeartbeats 4000000 in
set_option maxRecDepth 100000 in
theorem rounds_any (w : World) : Calls Try.prog 60 #[] w fun e w' => e = .returned (.agg (wCells kL).toArray) ∧ Below w.heap.size w w' := by
  have hblk : Blk (w.alloc (.cells (wCells z64).toArray 94)) w.heap.size (wCells z64) 94 := Blk.new w _ _
  have hB0 : Below w.heap.size w (w.alloc (.cells (wCells z64).toArray 94)) := (Below.refl _ _).alloc (Nat.le_refl _) _
  have hb := Lib.hid hblk
  have HB0 := Lib.hid hB0
  clear hblk hB0
  go_enter Try.func60, Try.ntmps60
  go_wp2_with ((with_reducible show wpList _ _ _ (⟨none, .store _ (.tmp 0) (.tmp 1), _, _, _, _⟩ :: _) _ _); refine wpList_stAgg rfl (.tmp 0) (.tmp 1) agg64 rfl rfl (vs := wCells kL) rfl rfl hb.out (Nat.le_refl _) (wCells_one _) ?_)
  intro w2 h3 h4
  have h3' : Blk w2 w.heap.size (wCells kL) 94 := by
    have e1 : (wCells z64).drop 64 = [] := List.drop_of_length_le (by rw [wCells_length, z64_length]; exact Nat.le_refl _)
    simpa [e1] using h3
  have H3 := Lib.hid h3'
  have HB2 : Hid (Below w.heap.size w w2) := Lib.hid (HB0.out.trans (h4.below (by omega)))
  clear h3 h3' h4
  go_wp2_with fail
  exact bodyPost_ret (results_agg rfl agg64 rfl (cs := wCells kL) rfl H3.out.cellsAll) rfl ⟨rfl, HB2.out⟩
end Go.Proofs.Ytdmjliehobgknaa
