/- Texts of this proof, one behind the other: MMk, MRight, RegV, Q1, MTkOf, MTaken, MTick, MapT. -/
import Derived.Test.YtcnfaghcjlhoiaaGreatWeA1
import Derived.Test.YtcnfaghcjlhoiaaGreatWeA2
import Derived.Test.YtcnfaghcjlhoiaaGreatWeA4
import Derived.Deep.DeepCutAuto
import Derived.Deep.CutBlock
import Derived.Maps.RangeWalk
import Derived.DeepKeys4
import Derived.WideKeyEntry
set_option linter.unusedSimpArgs false
set_option linter.unusedVariables false
set_option maxRecDepth 100000
set_option maxHeartbeats 16000000
open Go.Proofs.Tryz renaming prog -> aA, func178 -> aN, func215 -> aO, ntmps215 -> aP, func258 -> aQ, func259 -> aR
open Nat renaming le_refl -> aB, lt_of_lt_of_le -> aE, le_of_lt -> aF, zero_le -> aG, le_trans -> aM, succ_mul -> aV, le_of_eq -> aY
open Iff renaming rfl -> aC
open Go.RowKit.Below renaming refl -> aD
open List renaming take_succ_eq_append_getElem -> aH, all_append -> aI, take_length -> aJ, range -> aK, map_cons -> aL, eq_nil_of_length_eq_zero -> aS, zipIdx_cons -> aT, mem_cons_self -> aU, mem_cons_of_mem -> aW, zipIdx_map -> aX
open Go renaming Value -> aZ, World -> bA, TypeId -> bB, Calls -> bC, IntKind -> bD, Program -> bE, Oper -> bF
namespace Go.Proofs.YtcnfaghcjlhoiaaGreat
open Go.RowKit
def Ky (w:bA) (x:Tv) (e:Ending) (w':bA):Prop:=
 ∃cs,e=.returned (.agg cs.toArray)/\TvF w' (λ b=>w.heap.size<=b) x cs/\Below w.heap.size w w'
theorem mk5 {w w':bA} {k t:Int} {n:Nat} {b:Aa} {bv:aZ} (hb:Bs w' bv b) (ho:∀x,bv.ownBlock=some x->w.heap.size<=x) (hk:Below w.heap.size w w'): Ky w (.mk k t n b []) (.returned (.agg #[.int .i64 k,.int .i64 t,.int .u64 (n:Int),bv,.slice none 0 0])) w':=
 ⟨_,rfl,TvF.mk hb ho (Sl.nil _ _ _) (by simp [aZ.ownBlock]) rfl,hk⟩
theorem Di (v:aZ) (b:Aa) (w:bA) (h:Bs w v b) (hl:b.length<=1099511627776): bC aA 178 #[v] w (Ky w (.mk 1 0 0 b [])):=by
 obtain ⟨a,c,rfl,hc,hm⟩:=h.form;have HA:=Ab (h.alloc (.cells zs5.toArray 314));have HN:=Ab (Blk.new w zs5 314);have HB0:Hq (Below w.heap.size w (w.alloc (.cells zs5.toArray 314))):=Ab ((aD _ _).alloc (aB _) _);have HSZ:Hq (∀o,(w.alloc o).heap.size=w.heap.size+1):=Ab (λ o=>by simp);clear h;go_enter aN,Tryz.ntmps178;go_wp2_with ((with_reducible refine zw 4 ?_);refine Dr rfl (.const (.slice none 0 0)) (.tmp 3) D8 rfl w.heap.size (Own.nil _ _ _ _ _) (by simp [Act.eval,aZ.ownBlock]) HA.o (by unfold maxLen; omega) (by omega) (by simp) ?_);intro v1 w1 ho1 hk1 hv1;have hz1:=hk1.size;simp at hz1;have hb1:Below w.heap.size w w1:=HB0.o.trans (hk1.below (by rintro x (h | h) <;> (try simp [aZ.ownBlock] at h) <;> omega));have hr1:Blk w1 w.heap.size zs5 314:=HN.o.keep hk1 (by rintro (h | h) <;> (try simp [aZ.ownBlock] at h) <;> omega);have hvb:∀x,v1.ownBlock=some x->w.heap.size+1<=x:=λ x hx=>by
  rcases (hv1 x hx).1 with h | h
  . simp [aZ.ownBlock] at h
  . try simp at h
    omega
 obtain ⟨a1,c1,rfl,_⟩:=ho1.sl.form;have HR1:=Ab hr1;have HB1:=Ab hb1;have HS1:Hq (Bs w1 (.slice a1 b.length c1) b):=Ab ho1.sl;have HVB:=Ab hvb;clear ho1 hk1 hv1 hb1 hr1 hvb;go_wp2_with ((with_reducible refine zws 2 5 ?_);refine Ag rfl (.tmp 2) (.tmp 5) Ak rfl rfl (vs:= [.int .i64 1,.int .i64 0,.int .u64 0,.slice a1 b.length c1,.slice none 0 0]) rfl rfl HR1.o (aB _) (by intro u hu; simp at hu; rcases hu with rfl | rfl | rfl | rfl | rfl <;> rfl) ?_);intro w2 h2 k2;have h2':Blk w2 w.heap.size [.int .i64 1,.int .i64 0,.int .u64 0,.slice a1 b.length c1,.slice none 0 0] 314:=by simpa [zs5] using h2
 have H2:=Ab h2';have HB2:Hq (Below w.heap.size w w2):=Ab (HB1.o.trans (k2.below (by omega)));have HS2:Hq (Bs w2 (.slice a1 b.length c1) b):=Ab (Sl.keep HS1.o k2 (λ x hx e=>by have:=HVB.o x hx; omega));clear h2 h2' k2;go_wp2_with fail;exact bodyPost_ret (Az rfl Ak rfl (cs:= [.int .i64 1,.int .i64 0,.int .u64 0,.slice a1 b.length c1,.slice none 0 0]) rfl H2.o.cellsAll) rfl (mk5 HS2.o (λ x hx=>by have:=HVB.o x hx; omega) HB2.o)
theorem Kq (n:Nat) (w:bA):bC aA 186 #[.int .u64 n] w (Ky w (.mk 0 0 n [] [])):=
 (A1A n w).mono λ _ _ ⟨h1,h2⟩=>by
  subst h1;exact mk5 (Sl.nil _ _ _) (by simp [aZ.ownBlock]) h2
theorem Gc (l:Aa) (w:bA) (hl:l.length<=1099511627776):bC aA 214 #[.string (tx l)] w (Ky w (.mk 1 0 0 l [])):=by
 have HN:=Ab (Blk.new w zs5 314);have HB0:Hq (Below w.heap.size w (w.alloc (.cells zs5.toArray 314))):=Ab ((aD _ _).alloc (aB _) _);have HSZ:Hq (∀o,(w.alloc o).heap.size=w.heap.size+1):=Ab (λ o=>by simp);have hcv:=S5 (w.alloc (.cells zs5.toArray 314)) (tx l) (by rw [Dq]; omega);have HCV:=Ab hcv;clear hcv;go_enter Tryz.func214,Tryz.ntmps214;go_wp2_with ((with_reducible refine zw 4 ?_);refine Jd rfl (.tmp 3) rfl (s:=tx l) rfl (by rw [Dq]; omega) ?_; intro cap w0 hcv hbv hsz);have hbs:Bs w0 (.slice (some ⟨w.heap.size+1,0,none⟩) (tx l).size cap) l:=by
  have:=hcv.sl;rw [HSZ.o] at this;exact Sl.bs this rfl (Dq l).symm
 have hz0:=hbv.size;simp at hz0;have HBV:=Ab hbv;have HRW:=Ab (Di _ l w0 hbs (by omega));clear hcv hbv hsz hbs HCV;go_wp2_with fail;refine HRW.o.mono ?_;rintro e w1 ⟨cs,rfl,h1,h2⟩;have HL:=Ab h1.length;have HO:=Ab h1.one;have h1':TvF w1 (λ b=>w.heap.size+1<=b) (.mk 1 0 0 l []) cs:=h1.mono (λ b hb=>by first | omega | (simp only [HSZ.o] at hb; omega) | (simp at hb; omega));have hbw:Below w.heap.size w w1:=(HB0.o.trans (HBV.o.mono (by simp))).trans (h2.mono (by first | omega | (simp; done) | (simp; omega)));have hr1:Blk w1 w.heap.size zs5 314:=(HN.o.below HBV.o (by simp)).below h2 (by omega);have HT:=Ab h1';have HBW:=Ab hbw;have HR:=Ab hr1;clear h1 h1' h2 hbw hr1;go_wp2_with ((with_reducible refine zws 2 5 ?_);refine Ag rfl (.tmp 2) (.tmp 5) Ak rfl rfl (vs:=cs) rfl HL.o HR.o (aB _) HO.o ?_);intro w2 h2 k2;have H2:Hq (Blk w2 w.heap.size cs 314):=Ab (by simpa [zs5] using h2);have HB2:Hq (Below w.heap.size w w2):=Ab (HBW.o.trans (k2.below (by omega)));have HT2:Hq (TvF w2 (λ b=>w.heap.size<=b) (.mk 1 0 0 l []) cs):=Ab ((HT.o.keep k2 (λ b hb _ e=>by omega)).mono (λ b hb=>by omega));clear h2 k2;go_wp2_with fail;exact bodyPost_ret (Az rfl Ak rfl (cs:=cs) HL.o H2.o.cellsAll) rfl ⟨cs,rfl,HT2.o,HB2.o⟩
theorem A4Y (n:Nat) (w:bA) (hn:n<=9223372036854775807):bC aA 215 #[.int .i64 (n:Int)] w (Ky w (.mk 0 0 n [] [])):=by
 have HN:=Ab (Blk.new w zs5 314);have HB0:Hq (Below w.heap.size w (w.alloc (.cells zs5.toArray 314))):=Ab ((aD _ _).alloc (aB _) _);have HSZ:Hq (∀o,(w.alloc o).heap.size=w.heap.size+1):=Ab (λ o=>by simp);have HRW:=Ab (Kq n (w.alloc (.cells zs5.toArray 314)));go_enter aO,aP;go_wp2_with fail;refine HRW.o.mono ?_;rintro e w1 ⟨cs,rfl,h1,h2⟩;have HL:=Ab h1.length;have HO:=Ab h1.one;have h1':TvF w1 (λ b=>w.heap.size+1<=b) (.mk 0 0 n [] []) cs:=h1.mono (λ b hb=>by first | omega | (simp only [HSZ.o] at hb; omega) | (simp at hb; omega));have hbw:Below w.heap.size w w1:=HB0.o.trans (h2.mono (by first | omega | (simp; done)));have hr1:Blk w1 w.heap.size zs5 314:=HN.o.below h2 (by first | omega | (simp; done));have HT:=Ab h1';have HBW:=Ab hbw;have HR:=Ab hr1;clear h1 h1' h2 hbw hr1;go_wp2_with ((with_reducible refine zws 2 5 ?_);refine Ag rfl (.tmp 2) (.tmp 5) Ak rfl rfl (vs:=cs) rfl HL.o HR.o (aB _) HO.o ?_);intro w2 h2 k2;have H2:Hq (Blk w2 w.heap.size cs 314):=Ab (by simpa [zs5] using h2);have HB2:Hq (Below w.heap.size w w2):=Ab (HBW.o.trans (k2.below (by omega)));have HT2:Hq (TvF w2 (λ b=>w.heap.size<=b) (.mk 0 0 n [] []) cs):=Ab ((HT.o.keep k2 (λ b hb _ e=>by omega)).mono (λ b hb=>by omega));clear h2 k2;go_wp2_with fail;exact bodyPost_ret (Az rfl Ak rfl (cs:=cs) HL.o H2.o.cellsAll) rfl ⟨cs,rfl,HT2.o,HB2.o⟩
theorem A4Z (n:Int) (m:Nat) (w:bA) (hn:n<0) (hm: -9223372036854775808<=n) (hnm:n+18446744073709551616=m):bC aA 215 #[.int .i64 n] w (Ky w (.mk 0 0 m [] [])):=by
 have HN:=Ab (Blk.new w zs5 314);have HB0:Hq (Below w.heap.size w (w.alloc (.cells zs5.toArray 314))):=Ab ((aD _ _).alloc (aB _) _);have HSZ:Hq (∀o,(w.alloc o).heap.size=w.heap.size+1):=Ab (λ o=>by simp);have HRW:=Ab (Kq m (w.alloc (.cells zs5.toArray 314)));have hcvn:∀W,(convert 2 150 (.int .i64 n)).run aA W=.ok (.int .u64 (m:Nat)) W:=λ W=>by
  have hw:bD.u64.wrap n=m:=by
   have h64:(2:Int) ^ bD.u64.bits=18446744073709551616:=by decide
   simp only [bD.wrap,bD.signed,h64];simp only [Bool.false_eq_true,false_and,if_false,Bool.false_and];omega
  simp [convert,Conv.intToInt,hw]
 clear hnm;go_enter aO,aP;go_wp2_with fail;refine HRW.o.mono ?_;rintro e w1 ⟨cs,rfl,h1,h2⟩;have HL:=Ab h1.length;have HO:=Ab h1.one;have h1':TvF w1 (λ b=>w.heap.size+1<=b) (.mk 0 0 m [] []) cs:=h1.mono (λ b hb=>by first | omega | (simp only [HSZ.o] at hb; omega) | (simp at hb; omega));have hbw:Below w.heap.size w w1:=HB0.o.trans (h2.mono (by first | omega | (simp; done)));have hr1:Blk w1 w.heap.size zs5 314:=HN.o.below h2 (by first | omega | (simp; done));have HT:=Ab h1';have HBW:=Ab hbw;have HR:=Ab hr1;clear h1 h1' h2 hbw hr1;go_wp2_with ((with_reducible refine zws 2 5 ?_);refine Ag rfl (.tmp 2) (.tmp 5) Ak rfl rfl (vs:=cs) rfl HL.o HR.o (aB _) HO.o ?_);intro w2 h2 k2;have H2:Hq (Blk w2 w.heap.size cs 314):=Ab (by simpa [zs5] using h2);have HB2:Hq (Below w.heap.size w w2):=Ab (HBW.o.trans (k2.below (by omega)));have HT2:Hq (TvF w2 (λ b=>w.heap.size<=b) (.mk 0 0 m [] []) cs):=Ab ((HT.o.keep k2 (λ b hb _ e=>by omega)).mono (λ b hb=>by omega));clear h2 k2;go_wp2_with fail;exact bodyPost_ret (Az rfl Ak rfl (cs:=cs) HL.o H2.o.cellsAll) rfl ⟨cs,rfl,HT2.o,HB2.o⟩
theorem Ss (t:Bool) (w:bA):bC aA 218 #[.bool t] w (Ky w (.mk 0 0 (if t then 1 else 0) [] [])):=by
 have HN:=Ab (Blk.new w zs5 314);have HB0:Hq (Below w.heap.size w (w.alloc (.cells zs5.toArray 314))):=Ab ((aD _ _).alloc (aB _) _);have HSZ:Hq (∀o,(w.alloc o).heap.size=w.heap.size+1):=Ab (λ o=>by simp);have HRW:=Ab (Kq (if t then 1 else 0) (w.alloc (.cells zs5.toArray 314)));go_enter Tryz.func218,Tryz.ntmps218
 cases t
 . go_wp2_with fail;refine HRW.o.mono ?_;rintro e w1 ⟨cs,rfl,h1,h2⟩;have HL:=Ab h1.length;have HO:=Ab h1.one;have h1':TvF w1 (λ b=>w.heap.size+1<=b) (.mk 0 0 (if false then 1 else 0) [] []) cs:=h1.mono (λ b hb=>by first | omega | (simp only [HSZ.o] at hb; omega) | (simp at hb; omega));have hbw:Below w.heap.size w w1:=HB0.o.trans (h2.mono (by first | omega | (simp; done)));have hr1:Blk w1 w.heap.size zs5 314:=HN.o.below h2 (by first | omega | (simp; done));have HT:=Ab h1';have HBW:=Ab hbw;have HR:=Ab hr1;clear h1 h1' h2 hbw hr1;go_wp2_with ((with_reducible refine zws 2 5 ?_);refine Ag rfl (.tmp 2) (.tmp 5) Ak rfl rfl (vs:=cs) rfl HL.o HR.o (aB _) HO.o ?_);intro w2 h2 k2;have H2:Hq (Blk w2 w.heap.size cs 314):=Ab (by simpa [zs5] using h2);have HB2:Hq (Below w.heap.size w w2):=Ab (HBW.o.trans (k2.below (by omega)));have HT2:Hq (TvF w2 (λ b=>w.heap.size<=b) (.mk 0 0 (if false then 1 else 0) [] []) cs):=Ab ((HT.o.keep k2 (λ b hb _ e=>by omega)).mono (λ b hb=>by omega));clear h2 k2;go_wp2_with fail;exact bodyPost_ret (Az rfl Ak rfl (cs:=cs) HL.o H2.o.cellsAll) rfl ⟨cs,rfl,HT2.o,HB2.o⟩
 . go_wp2_with fail;refine HRW.o.mono ?_;rintro e w1 ⟨cs,rfl,h1,h2⟩;have HL:=Ab h1.length;have HO:=Ab h1.one;have h1':TvF w1 (λ b=>w.heap.size+1<=b) (.mk 0 0 (if true then 1 else 0) [] []) cs:=h1.mono (λ b hb=>by first | omega | (simp only [HSZ.o] at hb; omega) | (simp at hb; omega));have hbw:Below w.heap.size w w1:=HB0.o.trans (h2.mono (by first | omega | (simp; done)));have hr1:Blk w1 w.heap.size zs5 314:=HN.o.below h2 (by first | omega | (simp; done));have HT:=Ab h1';have HBW:=Ab hbw;have HR:=Ab hr1;clear h1 h1' h2 hbw hr1;go_wp2_with ((with_reducible refine zws 2 4 ?_);refine Ag rfl (.tmp 2) (.tmp 4) Ak rfl rfl (vs:=cs) rfl HL.o HR.o (aB _) HO.o ?_);intro w2 h2 k2;have H2:Hq (Blk w2 w.heap.size cs 314):=Ab (by simpa [zs5] using h2);have HB2:Hq (Below w.heap.size w w2):=Ab (HBW.o.trans (k2.below (by omega)));have HT2:Hq (TvF w2 (λ b=>w.heap.size<=b) (.mk 0 0 (if true then 1 else 0) [] []) cs):=Ab ((HT.o.keep k2 (λ b hb _ e=>by omega)).mono (λ b hb=>by omega));clear h2 k2;go_wp2_with fail;exact bodyPost_ret (Az rfl Ak rfl (cs:=cs) HL.o H2.o.cellsAll) rfl ⟨cs,rfl,HT2.o,HB2.o⟩
theorem Mq (l:Aa) (w:bA) (hl:l.length<=1099511627776):bC aA 258 #[.string (tx l)] w (Ky w (.mk 1 0 0 l [])):=by
 have HN:=Ab (Blk.new w zs5 314);have HB0:Hq (Below w.heap.size w (w.alloc (.cells zs5.toArray 314))):=Ab ((aD _ _).alloc (aB _) _);have HSZ:Hq (∀o,(w.alloc o).heap.size=w.heap.size+1):=Ab (λ o=>by simp);have hcv:=S5 (w.alloc (.cells zs5.toArray 314)) (tx l) (by rw [Dq]; omega);have HCV:=Ab hcv;clear hcv;go_enter aQ,Tryz.ntmps258;go_wp2_with ((with_reducible refine zw 4 ?_);refine Jd rfl (.tmp 3) rfl (s:=tx l) rfl (by rw [Dq]; omega) ?_; intro cap w0 hcv hbv hsz);have hbs:Bs w0 (.slice (some ⟨w.heap.size+1,0,none⟩) (tx l).size cap) l:=by
  have:=hcv.sl;rw [HSZ.o] at this;exact Sl.bs this rfl (Dq l).symm
 have hz0:=hbv.size;simp at hz0;have HBV:=Ab hbv;have HRW:=Ab (Di _ l w0 hbs (by omega));clear hcv hbv hsz hbs HCV;go_wp2_with fail;refine HRW.o.mono ?_;rintro e w1 ⟨cs,rfl,h1,h2⟩;have HL:=Ab h1.length;have HO:=Ab h1.one;have h1':TvF w1 (λ b=>w.heap.size+1<=b) (.mk 1 0 0 l []) cs:=h1.mono (λ b hb=>by first | omega | (simp only [HSZ.o] at hb; omega) | (simp at hb; omega));have hbw:Below w.heap.size w w1:=(HB0.o.trans (HBV.o.mono (by simp))).trans (h2.mono (by first | omega | (simp; done) | (simp; omega)));have hr1:Blk w1 w.heap.size zs5 314:=(HN.o.below HBV.o (by simp)).below h2 (by omega);have HT:=Ab h1';have HBW:=Ab hbw;have HR:=Ab hr1;clear h1 h1' h2 hbw hr1;go_wp2_with ((with_reducible refine zws 2 5 ?_);refine Ag rfl (.tmp 2) (.tmp 5) Ak rfl rfl (vs:=cs) rfl HL.o HR.o (aB _) HO.o ?_);intro w2 h2 k2;have H2:Hq (Blk w2 w.heap.size cs 314):=Ab (by simpa [zs5] using h2);have HB2:Hq (Below w.heap.size w w2):=Ab (HBW.o.trans (k2.below (by omega)));have HT2:Hq (TvF w2 (λ b=>w.heap.size<=b) (.mk 1 0 0 l []) cs):=Ab ((HT.o.keep k2 (λ b hb _ e=>by omega)).mono (λ b hb=>by omega));clear h2 k2;go_wp2_with fail;exact bodyPost_ret (Az rfl Ak rfl (cs:=cs) HL.o H2.o.cellsAll) rfl ⟨cs,rfl,HT2.o,HB2.o⟩
def Bp (x:Int):Bool:=decide (0<=x)&&decide (x<=1099511627776)
theorem A1T {α β:Type} (f:α->β) (l:List α) (k:Nat) (h:k<l.length):(l.map f)[k]?=some (f l[k]):=by simp [h]
theorem Ha (ns:List ByteArray) (xs:List Int) (v1 v2:aZ) (w:bA) (h1:Sl w 1 v1 ns.length (ns.map aZ.string)) (h2:Sl w 1 v2 xs.length (xs.map (aZ.int .i64))) (hs:∀s∈ns,s.size<=maxLen): bC aA 216 #[v1,v2] w λ e w'=>e=.returned (.bool (ns.all Au&&xs.all Bp))/\Below w.heap.size w w':=by
 obtain ⟨a,cap,rfl,hcap,hcm⟩:=h1.form;obtain ⟨a2,cap2,rfl,hcap2,hcm2⟩:=h2.form;unfold maxLen at hcm hcm2;have HS:=Ab h1;have HS2:=Ab h2;have HSZ:=Ab hs;clear h1 h2 hs;go_enter Tryz.func216,Tryz.ntmps216;go_wp2_with fail;go_loopw [11] (λ i wr=>∃k:Nat,k<=ns.length/\i=.int .i64 k/\(ns.take k).all Au=true/\Below w.heap.size w wr) (λ i _=>ns.length- (intOf i).toNat)
 case atStart=>exact ⟨0,aG _,rfl,rfl,aD _ _⟩
 case round=>
  obtain ⟨k,hk,rfl,hno,hB⟩:=hrel;have HNO:=Ab hno;have HB:=Ab hB;clear hno hB;by_cases hlt:k<ns.length
  . have hlt1:(k:Int)< (ns.length:Int):=by omega
    obtain ⟨b,off,rfl,hcell⟩:=HS.o.addr (by rw [HS.o.1]; omega);have c0:wr.cell? ⟨b,off+k,none⟩=some (.string ns[k]):=Bj HB.o (hcell _ _ (A1T aZ.string ns k hlt));clear hcell;have HN:Hq (Au ns[k]=true->(ns.take (k+1)).all Au=true):=Ab (by
     intro h;rw [aH hlt,aI,HNO.o];simp [h])
    have HY:Hq (Au ns[k]=false->ns.all Au=false):=Ab (by
     intro h;exact List.all_eq_false.2 ⟨ns[k],List.getElem_mem hlt,by rw [h]; simp⟩)
    have HRT:=Ab (Mm ns[k] wr (HSZ.o _ (List.getElem_mem hlt)));generalize ns[k]=s at*;go_wp2_with fail;refine HRT.o.mono ?_;rintro e w1 ⟨rfl,hb⟩;have HB1:Hq (Below w.heap.size w w1):=Ab (HB.o.trans (hb.mono HB.o.size));clear hb
    cases hr:Au s with
    | true=>
     have HR:=Ab hr;clear hr;go_wp2_with fail;go_roundw
     case rel=>exact ⟨k+1,by omega,by go_num,HN.o HR.o,HB1.o⟩
     case measure=>simp [intOf]; omega
    | false=>
     have HR:=Ab hr;clear hr;go_wp2_with fail;go_ret;rw [HY.o HR.o];exact ⟨rfl,HB1.o⟩
  . obtain rfl:k=ns.length:=by omega
    have HA1:Hq (ns.all Au=true):=Ab (by have h:=HNO.o; rwa [aJ] at h);clear HNO;go_wp2_with fail;have hsz:w.heap.size<=wr.heap.size:=HB.o.size;go_loopw [21] (λ i wr=>∃k:Nat,k<=xs.length/\i=.int .i64 k/\(xs.take k).all Bp=true/\Below w.heap.size w wr) (λ i _=>xs.length- (intOf i).toNat)
    case atStart=>exact ⟨0,aG _,rfl,rfl,HB.o⟩
    case round=>
     obtain ⟨k,hk,rfl,hno,hB⟩:=hrel;have HNO:=Ab hno;have HB:=Ab hB;clear hno hB;by_cases hlt:k<xs.length
     . have hlt1:(k:Int)< (xs.length:Int):=by omega
       obtain ⟨b,off,rfl,hcell⟩:=HS2.o.addr (by rw [HS2.o.1]; omega);have c0:wr.cell? ⟨b,off+k,none⟩=some (.int .i64 xs[k]):=Bj HB.o (hcell _ _ (A1T (aZ.int .i64) xs k hlt));clear hcell;have HN:Hq (Bp xs[k]=true->(xs.take (k+1)).all Bp=true):=Ab (by
        intro h;rw [aH hlt,aI,HNO.o];simp [h])
       have HY:Hq (Bp xs[k]=false->xs.all Bp=false):=Ab (by
        intro h;exact List.all_eq_false.2 ⟨xs[k],List.getElem_mem hlt,by rw [h]; simp⟩)
       have HE:Hq (Bp xs[k]=(decide (0<=xs[k])&&decide (xs[k]<=1099511627776))):=Ab rfl;generalize xs[k]=x at*;by_cases h1:0<=x
       . by_cases h2:x<=1099511627776
         . have hx0:¬x<0:=by omega
           go_wp2_with fail;go_roundw
           case rel=>exact ⟨k+1,by omega,by go_num,HN.o (by rw [HE.o]; simp [h1,h2]),HB.o⟩
           case measure=>simp [intOf]; omega
         . have hx0:¬x<0:=by omega
           have hx1:1099511627776<x:=by omega
           clear h2;have HF:Hq (xs.all Bp=false):=Ab (HY.o (by rw [HE.o]; simp; omega));go_wp2_with fail;go_ret;rw [HA1.o,HF.o];exact ⟨rfl,HB.o⟩
       . have hx0:x<0:=by omega
         clear h1;have HF:Hq (xs.all Bp=false):=Ab (HY.o (by rw [HE.o]; simp; omega));go_wp2_with fail;go_ret;rw [HA1.o,HF.o];exact ⟨rfl,HB.o⟩
     . obtain rfl:k=xs.length:=by omega
       have HA:Hq (xs.all Bp=true):=Ab (by have h:=HNO.o; rwa [aJ] at h);go_wp2_with fail;go_ret;rw [HA1.o,HA.o];exact ⟨rfl,HB.o⟩
theorem Iv (s:ByteArray) (xs:List Int) (v2:aZ) (w:bA) (h2:Sl w 1 v2 xs.length (xs.map (aZ.int .i64))) (hs:s.size<=maxLen): bC aA 259 #[.string s,v2] w λ e w'=>e=.returned (.bool (Au s&&xs.all Bp))/\Below w.heap.size w w':=by
 obtain ⟨a2,cap2,rfl,hcap2,hcm2⟩:=h2.form;unfold maxLen at hcm2;have HS2:=Ab h2;have HSZ:=Ab hs;clear h2 hs;go_enter aR,Tryz.ntmps259;go_wp2_with fail;go_loopw [9] (λ i wr=>∃k:Nat,k<=xs.length/\i=.int .i64 k/\(xs.take k).all Bp=true/\Below w.heap.size w wr) (λ i _=>xs.length- (intOf i).toNat)
 case atStart=>exact ⟨0,aG _,rfl,rfl,aD _ _⟩
 case round=>
  obtain ⟨k,hk,rfl,hno,hB⟩:=hrel;have HNO:=Ab hno;have HB:=Ab hB;clear hno hB;by_cases hlt:k<xs.length
  . have hlt1:(k:Int)< (xs.length:Int):=by omega
    obtain ⟨b,off,rfl,hcell⟩:=HS2.o.addr (by rw [HS2.o.1]; omega);have c0:wr.cell? ⟨b,off+k,none⟩=some (.int .i64 xs[k]):=Bj HB.o (hcell _ _ (A1T (aZ.int .i64) xs k hlt));clear hcell;have HN:Hq (Bp xs[k]=true->(xs.take (k+1)).all Bp=true):=Ab (by
     intro h;rw [aH hlt,aI,HNO.o];simp [h])
    have HY:Hq (Bp xs[k]=false->xs.all Bp=false):=Ab (by
     intro h;exact List.all_eq_false.2 ⟨xs[k],List.getElem_mem hlt,by rw [h]; simp⟩)
    have HE:Hq (Bp xs[k]=(decide (0<=xs[k])&&decide (xs[k]<=1099511627776))):=Ab rfl;generalize xs[k]=x at*;by_cases h1:0<=x
    . by_cases h2:x<=1099511627776
      . have hx0:¬x<0:=by omega
        go_wp2_with fail;go_roundw
        case rel=>exact ⟨k+1,by omega,by go_num,HN.o (by rw [HE.o]; simp [h1,h2]),HB.o⟩
        case measure=>simp [intOf]; omega
      . have hx0:¬x<0:=by omega
        have hx1:1099511627776<x:=by omega
        clear h2;have HF:Hq (xs.all Bp=false):=Ab (HY.o (by rw [HE.o]; simp; omega));go_wp2_with fail;go_ret;rw [HF.o,Bool.and_false];exact ⟨rfl,HB.o⟩
    . have hx0:x<0:=by omega
      clear h1;have HF:Hq (xs.all Bp=false):=Ab (HY.o (by rw [HE.o]; simp; omega));go_wp2_with fail;go_ret;rw [HF.o,Bool.and_false];exact ⟨rfl,HB.o⟩
  . obtain rfl:k=xs.length:=by omega
    have HA:Hq (xs.all Bp=true):=Ab (by have h:=HNO.o; rwa [aJ] at h);have HRT:=Ab (Mm s wr HSZ.o);go_wp2_with fail;refine HRT.o.mono ?_;rintro e w1 ⟨rfl,hb⟩;have HB1:Hq (Below w.heap.size w w1):=Ab (HB.o.trans (hb.mono HB.o.size));clear hb;go_wp2_with fail;go_ret;rw [HA.o,Bool.and_true];exact ⟨rfl,HB1.o⟩
section
theorem Fr.lit {a0 a:Act} {ds:List Nat} (h:Fr a0 a ds) (s:Nat) (hs:ds.contains s=false) {v:aZ} (hv:a0.eval (.tmp s)=v):a.eval (.tmp s)=v:=(h.eval s hs).trans hv
theorem Jg.get {ops:Array bF} {Post:Nat->aZ->bA->Prop} {i:Nat} {a:Act} {w:bA} (h:Jg ops Post i a w) {s:Nat} (hs:Pn ops i=some s):Post i (a.eval (.tmp s)) w:=by
 obtain ⟨v,h1,h2⟩:=h;rw [show a.eval (.tmp s)=v from h2 s hs];exact h1
theorem Jg.fin {ops:Array bF} {Post:Nat->aZ->bA->Prop} {i:Nat} {a:Act} {w:bA} (h:Jg ops Post i a w):∃v,Post i v w:=by
 obtain ⟨v,h1,h2⟩:=h;exact ⟨v,h1⟩
section
variable (P:bE) (md:Region.Mode) (ops:Array bF) (Q:Exit->Act->bA->Prop) (S:bA->Prop) (G:bA->bA->Prop) (Post:Nat->aZ->bA->Prop) (l0:Array Bool) (ds:List Nat) (a0:Act) (w0:bA)
def Cm (rs:List Nat):Prop:=∀i∈rs,A4k P md ops Q S G Post l0 ds a0 w0 i
end
section
variable {P:bE} {md:Region.Mode} {ops:Array bF} {Q:Exit->Act->bA->Prop} {S:bA->Prop} {G:bA->bA->Prop} {Post:Nat->aZ->bA->Prop} {l0:Array Bool} {ds:List Nat} {a0:Act} {w0:bA}
theorem Cm.nil:Cm P md ops Q S G Post l0 ds a0 w0 []:=λ _ h=>by cases h
theorem Cm.cons {i:Nat} {o:bF} {rs:List Nat} (ho:ops[i]?=some o) (h:∀a w,Fr a0 a ds->S w->(∀d,A5Y md ops l0 i d=true->Jg ops Post d a w)->∀K:Act->bA->Prop,(∀v w',G w w'->Post i v w'->K (a.put o.dst v) w')-> if Region.wanted o (yielded ops a.tmps)=true then bF.wp P o a w K Q else K (a.put o.dst undef) w) (hs:Cm P md ops Q S G Post l0 ds a0 w0 rs):Cm P md ops Q S G Post l0 ds a0 w0 (i::rs):=λ j hj=>by
 rcases List.mem_cons.1 hj with rfl | hj
 . intro o' ho' a w hf _ hs hd K hK;rw [ho] at ho'
   cases ho'
   exact h a w hf hs hd K hK
 . exact hs j hj
theorem Df (hr:∀w,G w w) (ht:∀a b c,G a b->G b c->G a c) (hS:∀w w',S w->G w w'->S w') (hst:∀i v w w',Post i v w->G w w'->Post i v w') (rs:List Nat) (n:Nat) (hn:a0.tmps.size=n) (hok:A4N md ops l0 ds n=true) (hrs:(aK ops.size).filter (λ i=> !l0.getD i true)=rs) (hstep:Cm P md ops Q S G Post l0 ds a0 w0 rs) (hfin:∀a w,Fr a0 a ds->S w->(∀i,i∈rs->Jg ops Post i a w)->Q .normal a w) (hS0:S w0) {fuel:Nat} (hfuel:Pv ops.size l0<=fuel): wpAnyH P md ops Q S fuel l0 a0 w0:=by
 subst hn;refine A4o hr ht hS hst hok (λ i hi h0=>hstep i ?_) (λ a w hf hg hs hp=>hfin a w hf hs λ i hi=>?_) hS0 hfuel
 . rw [<-hrs];exact List.mem_filter.2 ⟨List.mem_range.2 hi,by rw [h0]; rfl⟩
 . rw [<-hrs] at hi;obtain ⟨h1,h2⟩:=List.mem_filter.1 hi;exact hp i (List.mem_range.1 h1) (by simpa using h2)
def B6 (P:bE) (f:FuncId):Prop:=∀args w,(callFunc f args).run P w=.ok (.enter f args) w
theorem B6.mk {f:FuncId} {fn:Func} (hf:P.funcs[f]?=some fn) (hname:(fn.name== "runtime.NumGoroutine")=false) (hb:fn.body.isNone=false):B6 P f:=by
 intro args w;obtain ⟨c,hc⟩:∃c,fn.body=some c:=by
  cases h:fn.body with
  | none=>rw [h] at hb; cases hb
  | some c=>exact ⟨c,rfl⟩
 have h1:fn.name≠ "runtime.NumGoroutine" :=by simpa using hname
 simp [callFunc,hf,h1,hc]
theorem Ah {o:bF} {a:Act} (h:o.guard=none):Region.wanted o (yielded ops a.tmps)=true:=by simp [Region.wanted,h]
theorem A5 {o:bF} {a:Act} {j s:Nat} {b:Bool} (h:o.guard=some (j,b)) (hs:(ops[j]?).bind (·.dst)=some s) (hv:a.eval (.tmp s)=.bool b):Region.wanted o (yielded ops a.tmps)=true:=by
 have h1:a.tmps[s]?=some (.bool b):=by
  have:a.tmps.getD s undef=.bool b:=hv;rw [Array.getD_eq_getD_getElem?] at this
  cases hq:a.tmps[s]? with
  | none=>rw [hq] at this; simp [undef] at this
  | some v=>rw [hq] at this; simpa using this
 simp [Region.wanted,h,yielded,hs,h1]
theorem Ib {o:bF} {a:Act} {w:bA} {x:Operand} (ho:o.op=.move x) {v:aZ} (hx:a.eval x=v):(execOp a.eval o).run P w=.ok (.value v) w:=by simp [execOp,ho,hx]
theorem E0 {o:bF} {a:Act} {w:bA} {t:bB} {x:Operand} {k:Nat} (ho:o.op=.fieldAddr t x k) {u v:aZ} (hx:a.eval x=u) (hr:(Instr.fieldAt t u k).run P w=.ok v w):(execOp a.eval o).run P w=.ok (.value v) w:=by
 unfold execOp;simp only [ho,hx,Sem.run_bind,hr,Result.andThen_ok,Sem.run_pure]
theorem F8 {o:bF} {a:Act} {w:bA} {t:bB} {x:Operand} (ho:o.op=.load t x) {u v:aZ} (hx:a.eval x=u) (hr:(Instr.loadAt t u).run P w=.ok v w):(execOp a.eval o).run P w=.ok (.value v) w:=by
 unfold execOp;simp only [ho,hx,Sem.run_bind,hr,Result.andThen_ok,Sem.run_pure]
theorem O8 {E:Prop} {o:bF} {a:Act} {w:bA} {K:Act->bA->Prop} (hw:Region.wanted o (yielded ops a.tmps)=true) {f:FuncId} {args:Array Operand} {tys:Array bB} (ho:o.op=.call { callee:=.value (.func f),args:=args,argTypes:=tys })
 (hf:B6 P f) {vs:Array aZ} (hv:args.map a.eval=vs) {C:Ending->bA->Prop} (hc:bC P f vs w C) (h:∀e w',C e w'->∃v,e=.returned v/\K (a.put o.dst v) w'):
 if Region.wanted o (yielded ops a.tmps)=true then bF.wp P o a w K Q else E:=by
 rw [if_pos hw];have he:(execOp a.eval o).run P w=.ok (.enter f vs) w:=by
  unfold execOp;simp only [ho,resolve,Deferred.ofValue,Act.eval,invoke,Sem.run_bind,Sem.run_pure,Result.andThen_ok,hv,Array.append_empty,Array.empty_append];exact hf vs w
 unfold bF.wp;rw [he];refine bC.mono hc λ e w' hq=>?_
 obtain ⟨v,rfl,hk⟩:=h e w' hq;exact hk
theorem A6 {E:Prop} {o:bF} {a:Act} {w:bA} {K:Act->bA->Prop} (hw:Region.wanted o (yielded ops a.tmps)=true) {v:aZ} {w':bA} (hr:(execOp a.eval o).run P w=.ok (.value v) w') (h:K (a.put o.dst v) w'): if Region.wanted o (yielded ops a.tmps)=true then bF.wp P o a w K Q else E:=by
 rw [if_pos hw];unfold bF.wp;rw [hr];exact h
theorem Hh {o:bF} {a:Act} {w:bA} {x:Operand} (ho:o.op=.assign x):(execOp a.eval o).run P w=.ok (.value (a.eval x)) w:=by simp [execOp,ho]
theorem Il {o:bF} {a:Act} {w:bA} {c x y:Operand} (ho:o.op=.pick c x y) (hb:a.eval c=.bool true) {v:aZ} (hx:a.eval x=v):(execOp a.eval o).run P w=.ok (.value v) w:=by
 simp [execOp,ho,hb,asBool,hx]
theorem Jt {o:bF} {a:Act} {w:bA} {x:Operand} (ho:o.op=.assign x) {v:aZ} (hx:a.eval x=v):(execOp a.eval o).run P w=.ok (.value v) w:=by simp [execOp,ho,hx]
theorem A6L {E:Prop} {o:bF} {a:Act} {w:bA} {K:Act->bA->Prop} (hw:Region.wanted o (yielded ops a.tmps)=true) (x y:Operand) {ty:bB} {m:Nat} (hT:A3 P ty m) (ho:o.op=.store ty x y) {g off:Nat} (hx:a.eval x=.pointer (some ⟨g,off,none⟩)) {vs:List aZ} (hy:a.eval y=.agg vs.toArray) (hm:vs.length=m) {cur:List aZ} {T:bB} (hb:Blk w g cur T) (hfit:off+m<=cur.length) (h1:∀v∈vs,v.oneCell'=true) (h:∀w',Blk w' g (cur.take off++vs++cur.drop (off+m)) T->Ai (λ k=>k=g) w w'->K (a.put o.dst undef) w'):if Region.wanted o (yielded ops a.tmps)=true then bF.wp P o a w K Q else E:=by
 rw [if_pos hw];obtain ⟨w',hr,h2,h3⟩:=O6 hT hm hb hfit h1;unfold bF.wp execOp;simp only [ho,hx,hy,Instr.storeAt,Instr.sureAddr,Sem.run_bind,Sem.run_pure,Result.andThen_ok,hr];exact h w' h2 h3
end
/-! ### A row of values,built -/
theorem U4:∀(c:List aZ) (j off:Nat) (pre mid post:List aZ),pre.length=off+j->mid.length=c.length-> (c.zipIdx j).foldl (λ (cs:Array aZ) (x:aZ×Nat)=>cs.setIfInBounds (off+x.2) x.1) (pre++mid++post).toArray=(pre++c++post).toArray
 | [],j,off,pre,mid,post,h,hm=>by
  have:mid= []:=aS (by simpa using hm);simp [this]
 | x::c,j,off,pre,mid,post,h,hm=>by
  obtain ⟨y,mid,rfl⟩:∃y l,mid=y::l:=by cases mid with
   | nil=>simp at hm
   | cons y l=>exact ⟨y,l,rfl⟩
  rw [aT,List.foldl_cons];have hs:((pre++y::mid++post).toArray).setIfInBounds (off+j) x=((pre++ [x])++mid++post).toArray:=by
   rw [List.setIfInBounds_toArray,<-h];simp
  simp only at hs ⊢;rw [hs,U4 c (j+1) off (pre++ [x]) mid post (by simp; omega) (by simpa using hm)];simp
theorem Uz (sz:Nat):∀(vs:List aZ) (k:Nat) (pre post:List aZ),(∀v∈vs,v.cells.size=sz)->pre.length=k*sz->post.length=vs.length*sz-> Instr.fill (λ i=>some (i*sz,sz)) (pre++post).toArray ((vs.zipIdx k).map λ x=>(x.2,x.1))=some (pre++(vs.map (·.cells.toList)).flatten).toArray
 | [],k,pre,post,h,hp,hq=>by
  have:post= []:=aS (by simpa using hq);simp [this,Instr.fill]
 | v::vs,k,pre,post,h,hp,hq=>by
  have hv:=h v aU;have hvl:v.cells.toList.length=sz:=by rw [Array.length_toList]; exact hv
  rw [aT,aL];unfold Instr.fill;simp only;have hlen:post.length=sz+vs.length*sz:=by rw [hq,List.length_cons,aV]; omega
  rw [if_neg (by rw [hv]; simp [hlen,hp])];have hsplit:pre++post=pre++post.take sz++post.drop sz:=by simp
  have hf:=U4 v.cells.toList 0 (k*sz) pre (post.take sz) (post.drop sz) (by omega) (by show (post.take sz).length=v.cells.toList.length; rw [List.length_take,hvl]; omega);have he:v.cells.zipIdx.foldl (λ (cs:Array aZ) (x:aZ×Nat)=>cs.setIfInBounds (k*sz+x.2) x.1) (pre++post).toArray=(pre++v.cells.toList++post.drop sz).toArray:=by
   rw [hsplit,<-hf,<-Array.foldl_toList,Array.toList_zipIdx]
  rw [show (v.cells.zipIdx.foldl (λ cs (c,j)=>cs.setIfInBounds (k*sz+j) c) (pre++post).toArray)=(pre++v.cells.toList++post.drop sz).toArray from he,
   Uz sz vs (k+1) (pre++v.cells.toList) (post.drop sz) (λ u hu=>h u (aW _ hu)) (by show (pre++v.cells.toList).length=_; rw [List.length_append,hvl,hp,aV]) (by rw [List.length_drop,hlen]; omega)]
  simp
section
variable {P:bE} {ops:Array bF} {Q:Exit->Act->bA->Prop}
theorem Kz {t e:bB} {size bytes:Nat} {z:aZ} (hE:Cp P t e size bytes z) {o:bF} {a:Act} {w:bA} {len:Nat} {parts:Array (Nat×Operand)} (ho:o.op=.buildSlice t len parts) {vs:List aZ} (hv:(parts.map λ p=>(p.1,a.eval p.2)).toList=(vs.zipIdx 0).map λ x=>(x.2,x.1)) (hlen:vs.length=len) (hsz:∀v∈vs,v.cells.size=size) (hpos:0<len*size) (hsmall:len*size<=16777216): (execOp a.eval o).run P w=.ok (.value (.slice (some ⟨w.heap.size,0,none⟩) len len)) (w.alloc (.cells ((vs.map (·.cells.toList)).flatten).toArray e)):=by
 obtain ⟨ht,i,hi,hz,hsize,hby,hzs,hsz'⟩:=hE;have hfl:=Uz size vs 0 [] ((aK (len*size)).map (z.cells[· % z.cells.size]!)) hsz (by simp) (by simp [hlen]);simp only [List.nil_append] at hfl;have hr:((Array.range (len*i.size)).map (z.cells[· % z.cells.size]!))=((aK (len*size)).map (z.cells[· % z.cells.size]!)).toArray:=by rw [hsize]; apply Array.toList_inj.1; simp
 have h:=run_buildSlice (P:=P) w t e len (parts.map λ p=>(p.1,a.eval p.2)) ((vs.map (·.cells.toList)).flatten).toArray i z ht hi hz (by rw [hsize]; omega) (by rw [hsize]; omega) (by rw [hr,hsize,hv]; exact hfl);unfold execOp;simp only [ho,Sem.run_bind,Sem.run_pure,Result.andThen_ok];rw [show (parts.map λ (i,x)=>(i,a.eval x))=(parts.map λ p=>(p.1,a.eval p.2)) from rfl,h];rfl
end
/-! ### What operations leave -/
inductive PK where
 | val (x:Tv)
 | vals (l:List Tv)
 | row (cs:List aZ)
 | is (v:aZ)
 | fin
 | any
def A4h (F:Nat->Prop) (q:Nat) (x:Tv) (w:bA):Prop:=∃cs,Blk w q cs 314/\TvF w F x cs
def PK.holds (F:Nat->Prop) (q:Nat) (x:Tv):PK->aZ->bA->Prop
 | .val y,v,w=>∃cs,v=.agg cs.toArray/\TvF w F y cs
 | .vals l,v,w=>∃rows,Sl w 5 v l.length rows/\(∀y,v.ownBlock=some y->F y)/\Db w F l rows
 | .row cs,v,w=>Sl w 1 v cs.length cs/\∀y,v.ownBlock=some y->F y
 | .is u,v,_=>v=u
 | .fin,_,w=>A4h F q x w
 | .any,_,_=>True
def A5O (q:Nat) (w:bA):Prop:=∃cur,Blk w q cur 314/\cur.length=5
def GV (F:Nat->Prop) (q:Nat) (x:Tv) (w w':bA):Prop:=Ai (λ b=>b=q\/w.heap.size<=b) w w'/\(A4h F q x w->A4h F q x w')/\(A5O q w->A5O q w')
theorem GV.refl (F:Nat->Prop) (q:Nat) (x:Tv) (w:bA):GV F q x w w:=⟨Ai.refl _ _,id,id⟩
theorem GV.trans {F:Nat->Prop} {q:Nat} {x:Tv} (a b c:bA) (h:GV F q x a b) (k:GV F q x b c):GV F q x a c:=
 ⟨Bm (λ b=>aC) h.1 k.1,λ h0=>k.2.1 (h.2.1 h0),λ h0=>k.2.2 (h.2.2 h0)⟩
theorem GV.not {F:Nat->Prop} {q:Nat} {w:bA} (hq:¬F q):∀b,F b->b<w.heap.size->¬(b=q\/w.heap.size<=b):=λ b hb hl h=>by
 rcases h with rfl | h
 . exact hq hb
 . omega
theorem PK.stable {F:Nat->Prop} {q:Nat} {x:Tv} (hq:¬F q):∀ {k:PK} {v:aZ} {w w':bA},k.holds F q x v w->GV F q x w w'->k.holds F q x v w'
 | .val y,v,w,w',⟨cs,e,h⟩,g=>⟨cs,e,h.keep g.1 (GV.not hq)⟩
 | .vals l,v,w,w',⟨rows,h1,h2,h3⟩,g=>⟨rows,h1.keepF g.1 (λ _=>h2) (GV.not hq),h2,h3.keep g.1 (GV.not hq)⟩
 | .row cs,v,w,w',⟨h1,h2⟩,g=>⟨h1.keepF g.1 (λ _=>h2) (GV.not hq),h2⟩
 | .is u,_,_,_,h,_=>h
 | .fin,_,w,w',h,g=>g.2.1 h
 | .any,_,_,_,_,_=>trivial
theorem GV.of_below {F:Nat->Prop} {q:Nat} {x:Tv} {w w':bA} (hq:q<w.heap.size) (h:Below w.heap.size w w'):GV F q x w w':=
 ⟨(Ai.of_below h).mono λ b hb=>.inr hb,λ ⟨cs,h1,h2⟩=>⟨cs,h1.below h hq,h2.below h⟩,λ ⟨cs,h1,h2⟩=>⟨cs,h1.below h hq,h2⟩⟩
theorem GV.of_fin {F:Nat->Prop} {q:Nat} {x:Tv} {w w':bA} (h:Ai (λ b=>b=q) w w') (hf:A4h F q x w'):GV F q x w w':=⟨h.mono λ b hb=>.inl hb,λ _=>hf,λ _=>by obtain ⟨cs,h1,h2⟩:=hf; exact ⟨cs,h1,h2.length⟩⟩
def A2G (F:Nat->Prop) (q:Nat) (x:Tv) (a:Act) (w:bA):List Tv->List Operand->Prop
 | [], []=>True
 | y::l,p::ps=>PK.holds F q x (.val y) (a.eval p) w/\A2G F q x a w l ps
 | _,_=>False
def L5 (F:Nat->Prop) (q:Nat) (x:Tv) (ks:List PK):Nat->aZ->bA->Prop:=λ i v w=>(ks.getD i .any).holds F q x v w
section
variable {ops:Array bF} {Q:Exit->Act->bA->Prop} {F:Nat->Prop} {q:Nat} {x:Tv} {E:Prop} {o:bF} {a:Act} {w:bA} {K:Act->bA->Prop}
theorem A2 (hw:Region.wanted o (yielded ops a.tmps)=true) {f:FuncId} {args:Array Operand} {tys:Array bB} (ho:o.op=.call { callee:=.value (.func f),args:=args,argTypes:=tys }) (hf:B6 aA f) {vs:Array aZ} (hv:args.map a.eval=vs)
 {y:Tv} (hc:bC aA f vs w (Ky w y)) (hq:q<w.heap.size) (hF:∀b,w.heap.size<=b->F b) (h:∀v w',GV F q x w w'->PK.holds F q x (.val y) v w'->K (a.put o.dst v) w'):
 if Region.wanted o (yielded ops a.tmps)=true then bF.wp aA o a w K Q else E:=
 O8 hw ho hf hv hc λ e w' ⟨cs,h1,h2,h3⟩=>⟨_,h1,h _ _ (GV.of_below hq h3) ⟨cs,rfl,h2.mono hF⟩⟩
theorem E5 (hw:Region.wanted o (yielded ops a.tmps)=true) {f:FuncId} {args:Array Operand} {tys:Array bB} (ho:o.op=.call { callee:=.value (.func f),args:=args,argTypes:=tys }) (hf:B6 aA f) {vs:Array aZ} (hv:args.map a.eval=vs)
 {u:aZ} (hc:bC aA f vs w λ e w'=>e=.returned u/\Below w.heap.size w w') (hq:q<w.heap.size) (h:∀v w',GV F q x w w'->PK.holds F q x (.is u) v w'->K (a.put o.dst v) w'):
 if Region.wanted o (yielded ops a.tmps)=true then bF.wp aA o a w K Q else E:=
 O8 hw ho hf hv hc λ e w' ⟨h1,h2⟩=>⟨_,h1,h _ _ (GV.of_below hq h2) rfl⟩
theorem D2 (hw:Region.wanted o (yielded ops a.tmps)=true) {t:Int} {s:Tmp} {tys:Array bB} (ho:o.op=.call { callee:=.value (.func 213),args:=#[.const (.int .i64 t),.tmp s],argTypes:=tys }) (hf:B6 aA 213)
 {l:List Tv} (hl:PK.holds F q x (.vals l) (a.eval (.tmp s)) w) (hq:q<w.heap.size) (h:∀v w',GV F q x w w'->PK.holds F q x (.val (.mk 2 t 0 [] l)) v w'->K (a.put o.dst v) w') (hqF:¬F q):
 if Region.wanted o (yielded ops a.tmps)=true then bF.wp aA o a w K Q else E:=by
 obtain ⟨rows,h1,h2,h3⟩:=hl;obtain ⟨ad,c,e,_⟩:=h1.form;refine O8 hw ho hf (vs:=#[.int .i64 t,a.eval (.tmp s)]) (by simp [Act.eval]) (Rt t _ l.length c ad e w) λ e w' ⟨h4,h5⟩=>⟨_,h4,h _ _ (GV.of_below hq h5) ⟨_,rfl,?_⟩⟩
 exact TvF.mk (Sl.nil _ _ _) (by simp [aZ.ownBlock]) (h1.below h5) h2 (h3.below h5)
theorem Dk (hw:Region.wanted o (yielded ops a.tmps)=true) {t:bB} {parts:Array (Nat×Operand)} {len:Nat} (ho:o.op=.buildSlice t len parts) {bytes:Nat} {z:aZ} (hE:Cp aA t 314 5 bytes z) {ps:List Operand} (hps:parts.toList=(ps.zipIdx 0).map λ p=>(p.2,p.1)) {l:List Tv} (hl:A2G F q x a w l ps) (hlen:l.length=len) (hpos:0<len) (hsmall:len<=1000000) (hq:q<w.heap.size) (hF:∀b,w.heap.size<=b->F b) (h:∀v w',GV F q x w w'->PK.holds F q x (.vals l) v w'->K (a.put o.dst v) w'): if Region.wanted o (yielded ops a.tmps)=true then bF.wp aA o a w K Q else E:=by
 obtain ⟨css,h1,h2⟩:∃css:List (List aZ),ps.map a.eval=css.map (λ c=>aZ.agg c.toArray)/\Db w F l css.flatten/\css.length=l.length/\(∀c∈css,c.length=5)/\(∀c∈css,∀u∈c,u.oneCell'=true):=by
  clear ho hlen hpos hsmall h hps;induction l generalizing ps with
  | nil=>
   cases ps with
   | nil=>exact ⟨[],rfl,rfl,rfl,by simp,by simp⟩
   | cons p ps=>exact hl.elim
  | cons y l ih=>
   cases ps with
   | nil=>exact hl.elim
   | cons p ps=>
   obtain ⟨css,i1,i2,i3,i4,i5⟩:=ih hl.2;obtain ⟨cs,e,ht⟩:=hl.1;refine ⟨cs::css,by simp [e,i1],⟨cs,css.flatten,rfl,ht,i2⟩,by simp [i3],?_,?_⟩
   . intro c hc;rcases List.mem_cons.1 hc with rfl | hc
     . exact ht.length
     . exact i4 c hc
   . intro c hc;rcases List.mem_cons.1 hc with rfl | hc
     . exact ht.one
     . exact i5 c hc
 obtain ⟨h2,h3,h4,h5⟩:=h2;have hfl:((css.map λ c=>aZ.agg c.toArray).map (·.cells.toList)).flatten=css.flatten:=by
  rw [List.map_map,show (λ v:aZ=>v.cells.toList)∘(λ c:List aZ=>aZ.agg c.toArray)=id from rfl,List.map_id]
 have hex:=Kz hE (o:=o) (a:=a) (w:=w) ho (vs:=css.map λ c=>aZ.agg c.toArray) (by
  rw [Array.toList_map,hps,<-h1,aX,List.map_map,List.map_map]; rfl) (by simp [h3,hlen]) (by
   intro v hv;obtain ⟨c,hc,rfl⟩:=List.mem_map.1 hv;exact h4 c hc) (by omega) (by omega)
 rw [hfl] at hex;have hsl:Sl (w.alloc (.cells css.flatten.toArray 314)) 5 (.slice (some ⟨w.heap.size,0,none⟩) len len) len css.flatten:=Sl.lit rfl (by rw [Db.length h2,hlen]) (by
  intro u hu;obtain ⟨c,hc,hu⟩:=List.mem_flatten.1 hu;exact h5 c hc u hu) (by unfold maxLen; omega)
 have hb:Below w.heap.size w (w.alloc (.cells css.flatten.toArray 314)):=(aD _ _).alloc (aB _) _;subst hlen;exact A6 hw hex (h _ _ (GV.of_below hq hb) ⟨_,hsl,λ y hy=>hF y (by simp [aZ.ownBlock] at hy; omega),h2.below hb⟩)
theorem C8 (hw:Region.wanted o (yielded ops a.tmps)=true) {t e:bB} {parts:Array (Nat×Operand)} {len:Nat} (ho:o.op=.buildSlice t len parts) {bytes:Nat} {z:aZ} (hE:Cp aA t e 1 bytes z) {ps:List Operand} (hps:parts.toList=(ps.zipIdx 0).map λ p=>(p.2,p.1)) {cs:List aZ} (hl:ps.map a.eval=cs) (h1:∀u∈cs,u.oneCell'=true/\u.cells=#[u]) (hlen:cs.length=len) (hpos:0<len) (hsmall:len<=1000000) (hq:q<w.heap.size) (hF:∀b,w.heap.size<=b->F b) (h:∀v w',GV F q x w w'->PK.holds F q x (.row cs) v w'->K (a.put o.dst v) w'): if Region.wanted o (yielded ops a.tmps)=true then bF.wp aA o a w K Q else E:=by
 have hfl:(cs.map (·.cells.toList)).flatten=cs:=by
  clear hl hlen h;induction cs with
  | nil=>rfl
  | cons u cs ih=>
   rw [aL,List.flatten_cons,ih (λ v hv=>h1 v (aW _ hv)),(h1 u aU).2];rfl
 have hex:=Kz hE (o:=o) (a:=a) (w:=w) ho (vs:=cs) (by
  rw [Array.toList_map,hps,<-hl,aX,List.map_map,List.map_map]; rfl) hlen (by
   intro v hv;rw [(h1 v hv).2]; rfl) (by omega) (by omega)
 rw [hfl] at hex;have hsl:Sl (w.alloc (.cells cs.toArray e)) 1 (.slice (some ⟨w.heap.size,0,none⟩) len len) len cs:=Sl.lit rfl (by simp [hlen]) (λ u hu=>(h1 u (by simpa using hu)).1) (by unfold maxLen; omega);have hb:Below w.heap.size w (w.alloc (.cells cs.toArray e)):=(aD _ _).alloc (aB _) _;subst hlen;exact A6 hw hex (h _ _ (GV.of_below hq hb) ⟨hsl,λ y hy=>hF y (by simp [aZ.ownBlock] at hy; omega)⟩)
theorem D1 (hw:Region.wanted o (yielded ops a.tmps)=true) {s t:Tmp} (ho:o.op=.store 314 (.tmp s) (.tmp t)) (hs:a.eval (.tmp s)=.pointer (some ⟨q,0,none⟩)) (ht:PK.holds F q x (.val x) (a.eval (.tmp t)) w) {cur:List aZ} (hb:Blk w q cur 314) (hcur:cur.length=5) (hqF:¬F q) (h:∀v w',GV F q x w w'->PK.holds F q x .fin v w'->K (a.put o.dst v) w'): if Region.wanted o (yielded ops a.tmps)=true then bF.wp aA o a w K Q else E:=by
 obtain ⟨cs,e,hx⟩:=ht;refine A6L hw (.tmp s) (.tmp t) Ak ho hs e hx.length hb (by omega) hx.one λ w' h1 h2=>?_
 have hf:A4h F q x w':=⟨_,h1,by
  have:cur.take 0++cs++cur.drop (0+5)=cs:=by rw [List.drop_of_length_le (by omega)]; simp
  rw [this];exact hx.keep h2 (λ b hb _ hq=>hqF (hq▸hb))⟩
 exact h _ _ (GV.of_fin h2 hf) hf
end
end
theorem zA {P:bE} {md:Region.Mode} {ops:Array bF} {Q:Exit->Act->bA->Prop} {S:bA->Prop} {G:bA->bA->Prop} {Post:Nat->aZ->bA->Prop} {l0:Array Bool} {ds:List Nat} {a0:Act} {w0:bA} {i:Nat} {rs:List Nat} {d:Option Tmp} {g:Option (Nat×Bool)} {op:Op} {ty:bB} {pos:String} {aft:Array Edge} (h:∀a w,Fr a0 a ds->S w->(∀d,A5Y md ops l0 i d=true->Jg ops Post d a w)->∀K:Act->bA->Prop,(∀v w',G w w'->Post i v w'->K (a.put (bF.dst ⟨d,op,ty,pos,aft,g⟩) v) w')-> if Region.wanted ⟨d,op,ty,pos,aft,g⟩ (yielded ops a.tmps)=true then bF.wp P ⟨d,op,ty,pos,aft,g⟩ a w K Q else K (a.put (bF.dst ⟨d,op,ty,pos,aft,g⟩) undef) w) (hs:Cm P md ops Q S G Post l0 ds a0 w0 rs) (ho:ops[i]?=some ⟨d,op,ty,pos,aft,g⟩:=by rfl):Cm P md ops Q S G Post l0 ds a0 w0 (i::rs):=Cm.cons ho h hs
theorem A4Q (l:Aa) (h:l.length=16):∃c0 c1 c2 c3 c4 c5 c6 c7 c8 c9 c10 c11 c12 c13 c14 c15,l= [c0,c1,c2,c3,c4,c5,c6,c7,c8,c9,c10,c11,c12,c13,c14,c15]:=by
 match l,h with
 | [c0,c1,c2,c3,c4,c5,c6,c7,c8,c9,c10,c11,c12,c13,c14,c15],_=>exact ⟨_,_,_,_,_,_,_,_,_,_,_,_,_,_,_,_,rfl⟩
def Eb (x:Tv):Option (Aa×Aa):=
 if x.kind=2/\x.tag=1/\(Bv (Bq x.l false).2.1 (Bq x.l false).2.2).2.1.isEmpty=true/\(Bv (Bq x.l false).2.1 (Bq x.l false).2.2).2.2=false then some ((Bq x.l false).1,(Bv (Bq x.l false).2.1 (Bq x.l false).2.2).1) else none
def Me (w:bA) (F:Nat->Prop) (t:Aa×Aa) (v:aZ):Prop:=
 ∃bv,v=.agg #[.string (tx t.1),bv]/\Bs w bv t.2/\(0<t.2.length->∀y,bv.ownBlock=some y->F y)
def Rg (w W:bA):Prop:=Below w.heap.size w W
def A5P (T:bB) (r:aZ):Prop:=r=.nilIface\/∃U x,r=.iface U x/\U≠T
def Ya (w:bA) (F:Nat->Prop) (x:Tv) (o:aZ) (rem:List Tv) (bad:Bool):Prop:=
 if x.tag=1 then (∃v,o=.iface 108 v/\Me w F ((Bq x.l false).1,(Bv (Bq x.l false).2.1 (Bq x.l false).2.2).1) v)/\(rem,bad)=(Bv (Bq x.l false).2.1 (Bq x.l false).2.2).2
 else A5P 108 o
def A4i (w:bA) (F:Nat->Prop) (x:Tv) (e:Ending) (w':bA):Prop:=
 ∃r ok,e=.returned (.tuple #[r,.bool ok])/\Below w.heap.size w w'/\(match Eb x with | some t=>∃v,r=.iface 108 v/\Me w' F t v | none=>A5P 108 r)
theorem A7N (x:Tv) (F:Nat->Prop) (cs:List aZ) (w:bA) (h:TvF w F x cs) (hF:∀b,F b->b<w.heap.size): bC aA 211 #[.agg cs.toArray] w (A4i w F x):=by
 have HLN:=Ab h.length;have HQ0:=Ab (Blk.new w cs 314);have hB0:Below w.heap.size w (w.alloc (.cells cs.toArray 314)):=(aD _ _).alloc (aB _) _;have HB0:=Ab hB0;have HTK:=Ab (Iu x F cs _ (h.below hB0) (λ b hb=>by have:=hF b hb; simp; omega));obtain ⟨q,hq⟩:∃q,q=w.heap.size:=⟨_,rfl⟩
 have HQ:Hq (∀W,Below q w W->Rg w W):=Ab (λ W h=>by rw [hq] at h; exact h);have hopen:=h.open_;clear h hB0;go_enter Tryz.func211,Tryz.ntmps211;go_wp2_with ((with_reducible refine zw 6 ?_);refine Aj rfl (.tmp 1) Ak rfl rfl (cs:=cs) HLN.o HQ0.o.cellsAll ?_);refine HTK.o.mono ?_;rintro e wt ⟨p,rfl,ht,hb,hp⟩;have HT:=Ab ht;have HBT:Hq (Below w.heap.size w wt):=Ab (HB0.o.trans (hb.mono (by simp)));have HQT:=Ab (HQ0.o.below hb (by simp));have HP:Hq (w.heap.size<p/\p<wt.heap.size):=Ab ⟨by simp at hp; omega,ht.lt⟩;obtain ⟨bv,lv,rows,rfl,hb1,hb2,hb3,hb4,hb5⟩:=hopen;have cT:wt.cell? ⟨w.heap.size,1,none⟩=some (.int .i64 x.tag):=HQT.o.cell 1;have HKb:Hq (∀W,Ai (λ b=>b=p\/wt.heap.size<=b) wt W->Below w.heap.size w W/\Blk W w.heap.size [.int .i64 x.kind,.int .i64 x.tag,.int .u64 (x.n:Int),bv,lv] 314):=Ab (λ W hk=>
  ⟨HBT.o.trans (hk.below (λ b hb=>by have:=HP.o; rcases hb with h | h <;> omega)),HQT.o.keep hk (λ h=>by have:=HP.o; rcases h with h | h <;> omega)⟩)
 clear ht hb hp hb1 hb2 hb3 hb4 hb5 HQ0 HB0 HTK;rw [<-hq] at*;clear hq
 go_upto_block 0 with fail;go_cut [5] from 10 to 92 (λ o wx=>∃rem bad,Tk wx F p rem bad/\Ai (λ b=>b=p\/wt.heap.size<=b) wt wx/\Ya wx F x o rem bad)
 case first=>
  have HOT:Hq (∀W o rem bad,x.tag≠1->A5P 108 o->Ya W F x o rem bad):=Ab (λ W o rem bad ht ho=>by unfold Ya; rw [if_neg ht]; exact ho);have HO1:Hq (∀W o rem bad,x.tag=1->(∃v,o=.iface 108 v/\Me W F ((Bq x.l false).1,(Bv (Bq x.l false).2.1 (Bq x.l false).2.2).1) v)->(rem,bad)=(Bv (Bq x.l false).2.1 (Bq x.l false).2.2).2->Ya W F x o rem bad):=Ab (λ W o rem bad ht ho h=>by unfold Ya; rw [if_pos ht]; exact ⟨ho,h⟩);obtain ⟨k,t,n,b,l⟩:=x;simp only [Tv.kind,Tv.tag,Tv.n,Tv.b,Tv.l] at*;clear HKb HQT HBT;rcases (by omega:t=1\/t=2\/t=3\/t=4\/t=5\/t=6\/t=7\/(t≠1/\t≠2/\t≠3/\t≠4/\t≠5/\t≠6/\t≠7)) with ht | ht | ht | ht | ht | ht | ht | ⟨h1,h2,h3,h4,h5,h6,h7⟩
  . subst ht;go_wp2_with fail;refine (Gl l false p F wt HT.o).mono ?_;rintro e v1 ⟨rfl,ht,hk⟩;have HT1:=Ab ht;have HK1:=Ab hk;clear ht hk;go_wp2_with fail;refine (Jq (Bq l false).2.1 (Bq l false).2.2 p F v1 HT1.o).mono ?_;rintro e v2 ⟨vb,⟨rfl,ht,hk⟩,hb,ho⟩;obtain ⟨ab,cb,rfl,hcb,hmb⟩:=hb.form;have HB:=Ab hb;have HO:=Ab ho;have HT2:=Ab ht;have HK2:=Ab (Bm (λ b=>aC) HK1.o hk);clear ht hk hb ho HT1 HK1;go_wp2_with fail;go_meet;exact ⟨_,_,HT2.o,HK2.o,HO1.o _ _ _ _ (by first | rfl | trivial) ⟨_,rfl,_,rfl,HB.o,HO.o⟩ rfl⟩
  . subst ht;go_wp2_with fail;refine (Cb l false p F wt HT.o).mono ?_;rintro e v1 ⟨rfl,ht,hk⟩;have HT1:=Ab ht;have HK1:=Ab hk;clear ht hk;generalize Cs l false=st at*;obtain ⟨x1,l1,b1⟩:=st;simp only at*;go_wp2_with fail;refine (O3 l1 b1 p F v1 HT1.o).mono ?_;rintro e v2 ⟨rfl,ht,hk⟩;have HT2:=Ab ht;have HK2:=Ab (Bm (λ b=>aC) HK1.o hk);clear ht hk HT1 HK1;have HL:=Ab (I4 (Bt 1 l1 b1).1.b);rw [show (Hn (Bt 1 l1 b1).1.b).1=(Mx l1 b1).1 from rfl] at HL;generalize Mx l1 b1=st at*;obtain ⟨x2,l2,b2⟩:=st;simp only at*;obtain ⟨c0,c1,c2,c3,c4,c5,c6,c7,c8,c9,c10,c11,c12,c13,c14,c15,rfl⟩:=A4Q x2 HL.o;have hkv:A1 [c0,c1,c2,c3,c4,c5,c6,c7,c8,c9,c10,c11,c12,c13,c14,c15]=.agg #[.int .u8 c0.toNat,.int .u8 c1.toNat,.int .u8 c2.toNat,.int .u8 c3.toNat,.int .u8 c4.toNat,.int .u8 c5.toNat,.int .u8 c6.toNat,.int .u8 c7.toNat,.int .u8 c8.toNat,.int .u8 c9.toNat,.int .u8 c10.toNat,.int .u8 c11.toNat,.int .u8 c12.toNat,.int .u8 c13.toNat,.int .u8 c14.toNat,.int .u8 c15.toNat]:=rfl;go_wp2_with fail;refine (Gl l2 b2 p F v2 HT2.o).mono ?_;rintro e v3 ⟨rfl,ht,hk⟩;have HT3:=Ab ht;have HK3:=Ab (Bm (λ b=>aC) HK2.o hk);clear ht hk HT2 HK2;generalize Bq l2 b2=st at*;obtain ⟨x3,l3,b3⟩:=st;simp only at*;go_wp2_with fail;refine (Cb l3 b3 p F v3 HT3.o).mono ?_;rintro e v4 ⟨rfl,ht,hk⟩;have HT4:=Ab ht;have HK4:=Ab (Bm (λ b=>aC) HK3.o hk);clear ht hk HT3 HK3;generalize Cs l3 b3=st at*;obtain ⟨x4,l4,b4⟩:=st;simp only at*;go_wp2_with fail;refine (Cb l4 b4 p F v4 HT4.o).mono ?_;rintro e v5 ⟨rfl,ht,hk⟩;have HT5:=Ab ht;have HK5:=Ab (Bm (λ b=>aC) HK4.o hk);clear ht hk HT4 HK4;generalize Cs l4 b4=st at*;obtain ⟨x5,l5,b5⟩:=st;simp only at*;go_wp2_with fail;refine (Cb l5 b5 p F v5 HT5.o).mono ?_;rintro e v6 ⟨rfl,ht,hk⟩;have HT6:=Ab ht;have HK6:=Ab (Bm (λ b=>aC) HK5.o hk);clear ht hk HT5 HK5;generalize Cs l5 b5=st at*;obtain ⟨x6,l6,b6⟩:=st;simp only at*;go_wp2_with fail;go_meet;exact ⟨_,_,HT6.o,HK6.o,HOT.o _ _ _ _ (by decide) (.inr ⟨_,_,rfl,by decide⟩)⟩
  . subst ht;go_wp2_with fail;refine (Cb l false p F wt HT.o).mono ?_;rintro e v1 ⟨rfl,ht,hk⟩;have HT1:=Ab ht;have HK1:=Ab hk;clear ht hk;generalize Cs l false=st at*;obtain ⟨x1,l1,b1⟩:=st;simp only at*;go_wp2_with fail;refine (O3 l1 b1 p F v1 HT1.o).mono ?_;rintro e v2 ⟨rfl,ht,hk⟩;have HT2:=Ab ht;have HK2:=Ab (Bm (λ b=>aC) HK1.o hk);clear ht hk HT1 HK1;have HL:=Ab (I4 (Bt 1 l1 b1).1.b);rw [show (Hn (Bt 1 l1 b1).1.b).1=(Mx l1 b1).1 from rfl] at HL;generalize Mx l1 b1=st at*;obtain ⟨x2,l2,b2⟩:=st;simp only at*;obtain ⟨c0,c1,c2,c3,c4,c5,c6,c7,c8,c9,c10,c11,c12,c13,c14,c15,rfl⟩:=A4Q x2 HL.o;have hkv:A1 [c0,c1,c2,c3,c4,c5,c6,c7,c8,c9,c10,c11,c12,c13,c14,c15]=.agg #[.int .u8 c0.toNat,.int .u8 c1.toNat,.int .u8 c2.toNat,.int .u8 c3.toNat,.int .u8 c4.toNat,.int .u8 c5.toNat,.int .u8 c6.toNat,.int .u8 c7.toNat,.int .u8 c8.toNat,.int .u8 c9.toNat,.int .u8 c10.toNat,.int .u8 c11.toNat,.int .u8 c12.toNat,.int .u8 c13.toNat,.int .u8 c14.toNat,.int .u8 c15.toNat]:=rfl;go_wp2_with fail;refine (Cb l2 b2 p F v2 HT2.o).mono ?_;rintro e v3 ⟨rfl,ht,hk⟩;have HT3:=Ab ht;have HK3:=Ab (Bm (λ b=>aC) HK2.o hk);clear ht hk HT2 HK2;generalize Cs l2 b2=st at*;obtain ⟨x3,l3,b3⟩:=st;simp only at*;go_wp2_with fail;refine (Gl l3 b3 p F v3 HT3.o).mono ?_;rintro e v4 ⟨rfl,ht,hk⟩;have HT4:=Ab ht;have HK4:=Ab (Bm (λ b=>aC) HK3.o hk);clear ht hk HT3 HK3;generalize Bq l3 b3=st at*;obtain ⟨x4,l4,b4⟩:=st;simp only at*;go_wp2_with fail;refine (Cb l4 b4 p F v4 HT4.o).mono ?_;rintro e v5 ⟨rfl,ht,hk⟩;have HT5:=Ab ht;have HK5:=Ab (Bm (λ b=>aC) HK4.o hk);clear ht hk HT4 HK4;generalize Cs l4 b4=st at*;obtain ⟨x5,l5,b5⟩:=st;simp only at*;go_wp2_with fail;refine (Cb l5 b5 p F v5 HT5.o).mono ?_;rintro e v6 ⟨rfl,ht,hk⟩;have HT6:=Ab ht;have HK6:=Ab (Bm (λ b=>aC) HK5.o hk);clear ht hk HT5 HK5;generalize Cs l5 b5=st at*;obtain ⟨x6,l6,b6⟩:=st;simp only at*;go_wp2_with fail;refine (Cb l6 b6 p F v6 HT6.o).mono ?_;rintro e v7 ⟨rfl,ht,hk⟩;have HT7:=Ab ht;have HK7:=Ab (Bm (λ b=>aC) HK6.o hk);clear ht hk HT6 HK6;generalize Cs l6 b6=st at*;obtain ⟨x7,l7,b7⟩:=st;simp only at*;go_wp2_with fail;go_meet;exact ⟨_,_,HT7.o,HK7.o,HOT.o _ _ _ _ (by decide) (.inr ⟨_,_,rfl,by decide⟩)⟩
  . subst ht;go_wp2_with fail;refine (Gl l false p F wt HT.o).mono ?_;rintro e v1 ⟨rfl,ht,hk⟩;have HT1:=Ab ht;have HK1:=Ab hk;clear ht hk;generalize Bq l false=st at*;obtain ⟨x1,l1,b1⟩:=st;simp only at*;go_wp2_with fail;refine (Cb l1 b1 p F v1 HT1.o).mono ?_;rintro e v2 ⟨rfl,ht,hk⟩;have HT2:=Ab ht;have HK2:=Ab (Bm (λ b=>aC) HK1.o hk);clear ht hk HT1 HK1;generalize Cs l1 b1=st at*;obtain ⟨x2,l2,b2⟩:=st;simp only at*;go_wp2_with fail;refine (Cb l2 b2 p F v2 HT2.o).mono ?_;rintro e v3 ⟨rfl,ht,hk⟩;have HT3:=Ab ht;have HK3:=Ab (Bm (λ b=>aC) HK2.o hk);clear ht hk HT2 HK2;generalize Cs l2 b2=st at*;obtain ⟨x3,l3,b3⟩:=st;simp only at*;go_wp2_with fail;refine (O3 l3 b3 p F v3 HT3.o).mono ?_;rintro e v4 ⟨rfl,ht,hk⟩;have HT4:=Ab ht;have HK4:=Ab (Bm (λ b=>aC) HK3.o hk);clear ht hk HT3 HK3;have HL:=Ab (I4 (Bt 1 l3 b3).1.b);rw [show (Hn (Bt 1 l3 b3).1.b).1=(Mx l3 b3).1 from rfl] at HL;generalize Mx l3 b3=st at*;obtain ⟨x4,l4,b4⟩:=st;simp only at*;obtain ⟨c0,c1,c2,c3,c4,c5,c6,c7,c8,c9,c10,c11,c12,c13,c14,c15,rfl⟩:=A4Q x4 HL.o;have hkv:A1 [c0,c1,c2,c3,c4,c5,c6,c7,c8,c9,c10,c11,c12,c13,c14,c15]=.agg #[.int .u8 c0.toNat,.int .u8 c1.toNat,.int .u8 c2.toNat,.int .u8 c3.toNat,.int .u8 c4.toNat,.int .u8 c5.toNat,.int .u8 c6.toNat,.int .u8 c7.toNat,.int .u8 c8.toNat,.int .u8 c9.toNat,.int .u8 c10.toNat,.int .u8 c11.toNat,.int .u8 c12.toNat,.int .u8 c13.toNat,.int .u8 c14.toNat,.int .u8 c15.toNat]:=rfl;go_wp2_with fail;refine (Jq l4 b4 p F v4 HT4.o).mono ?_;rintro e v5 ⟨vb,⟨rfl,ht,hk⟩,hb,ho⟩;obtain ⟨ab,cb,rfl,hcb,hmb⟩:=hb.form;have HB:=Ab hb;have HO:=Ab ho;have HT5:=Ab ht;have HK5:=Ab (Bm (λ b=>aC) HK4.o hk);clear ht hk hb ho HT4 HK4;generalize Bv l4 b4=st at*;obtain ⟨x5,l5,b5⟩:=st;simp only at*;go_wp2_with fail;go_meet;exact ⟨_,_,HT5.o,HK5.o,HOT.o _ _ _ _ (by decide) (.inr ⟨_,_,rfl,by decide⟩)⟩
  . subst ht;go_wp2_with fail;refine (Cb l false p F wt HT.o).mono ?_;rintro e v1 ⟨rfl,ht,hk⟩;have HT1:=Ab ht;have HK1:=Ab hk;clear ht hk;generalize Cs l false=st at*;obtain ⟨x1,l1,b1⟩:=st;simp only at*;go_wp2_with fail;refine (Cb l1 b1 p F v1 HT1.o).mono ?_;rintro e v2 ⟨rfl,ht,hk⟩;have HT2:=Ab ht;have HK2:=Ab (Bm (λ b=>aC) HK1.o hk);clear ht hk HT1 HK1;generalize Cs l1 b1=st at*;obtain ⟨x2,l2,b2⟩:=st;simp only at*;go_wp2_with fail;go_meet;exact ⟨_,_,HT2.o,HK2.o,HOT.o _ _ _ _ (by decide) (.inr ⟨_,_,rfl,by decide⟩)⟩
  . subst ht;go_wp2_with fail;refine (Cb l false p F wt HT.o).mono ?_;rintro e v1 ⟨rfl,ht,hk⟩;have HT1:=Ab ht;have HK1:=Ab hk;clear ht hk;generalize Cs l false=st at*;obtain ⟨x1,l1,b1⟩:=st;simp only at*;go_wp2_with fail;refine (Gl l1 b1 p F v1 HT1.o).mono ?_;rintro e v2 ⟨rfl,ht,hk⟩;have HT2:=Ab ht;have HK2:=Ab (Bm (λ b=>aC) HK1.o hk);clear ht hk HT1 HK1;generalize Bq l1 b1=st at*;obtain ⟨x2,l2,b2⟩:=st;simp only at*;go_wp2_with fail;refine (A3V l2 b2 p F v2 HT2.o).mono ?_;rintro e v3 ⟨rfl,ht,hk⟩;have HT3:=Ab ht;have HK3:=Ab (Bm (λ b=>aC) HK2.o hk);clear ht hk HT2 HK2;generalize Kw l2 b2=st at*;obtain ⟨x3,l3,b3⟩:=st;simp only at*;go_wp2_with fail;refine (Cb l3 b3 p F v3 HT3.o).mono ?_;rintro e v4 ⟨rfl,ht,hk⟩;have HT4:=Ab ht;have HK4:=Ab (Bm (λ b=>aC) HK3.o hk);clear ht hk HT3 HK3;generalize Cs l3 b3=st at*;obtain ⟨x4,l4,b4⟩:=st;simp only at*;go_wp2_with fail;go_meet;exact ⟨_,_,HT4.o,HK4.o,HOT.o _ _ _ _ (by decide) (.inr ⟨_,_,rfl,by decide⟩)⟩
  . subst ht;go_wp2_with fail;refine (Jq l false p F wt HT.o).mono ?_;rintro e v1 ⟨vb,⟨rfl,ht,hk⟩,hb,ho⟩;obtain ⟨ab,cb,rfl,hcb,hmb⟩:=hb.form;have HB:=Ab hb;have HO:=Ab ho;have HT1:=Ab ht;have HK1:=Ab hk;clear ht hk hb ho;generalize Bv l false=st at*;obtain ⟨x1,l1,b1⟩:=st;simp only at*;go_wp2_with fail;go_meet;exact ⟨_,_,HT1.o,HK1.o,HOT.o _ _ _ _ (by decide) (.inr ⟨_,_,rfl,by decide⟩)⟩
  . have HNE:=Ab h1;have e1:(t==1)=false:=by simpa using h1
    have e2:(t==2)=false:=by simpa using h2
    have e3:(t==3)=false:=by simpa using h3
    have e4:(t==4)=false:=by simpa using h4
    have e5:(t==5)=false:=by simpa using h5
    have e6:(t==6)=false:=by simpa using h6
    have e7:(t==7)=false:=by simpa using h7
    clear h1 h2 h3 h4 h5 h6 h7;go_wp2_with fail;go_meet;exact ⟨_,_,HT.o,Ai.refl _ _,HOT.o _ _ _ _ HNE.o (.inl rfl)⟩
 case rest=>
  obtain ⟨rem,bad,ht,hk,ho⟩:=hcut;generalize u5=o at*;generalize wc=wx at*;have HT:=Ab ht;obtain ⟨hb,hq⟩:=HKb.o wx hk;have HB:=Ab hb;have c0:wx.cell? ⟨q,0,none⟩=some (.int .i64 x.kind):=hq.cell 0;have HO:=Ab ho;have hshape:o=.nilIface\/∃U y,o=.iface U y:=by
   unfold Ya at ho;split at ho
   . obtain ⟨⟨v,e,_⟩,_⟩:=ho;exact .inr ⟨_,_,e⟩
   . rcases ho with h | ⟨U,y,h,_⟩
     . exact .inl h
     . exact .inr ⟨_,_,h⟩
  have HX:Hq (∀W ok,Below q w W->Below wx.heap.size wx W->¬(x.kind=2/\(!bad&&rem.isEmpty)=true/\o≠ .nilIface)->A4i w F x (.returned (.tuple #[.nilIface,.bool ok])) W):=Ab (λ W ok h1 h2 h3=>by
   refine ⟨_,_,rfl,HQ.o W h1,?_⟩;have hn:Eb x=none:=by
    unfold Eb;split
    . rename_i hc;exfalso;obtain ⟨c1,c2,c3,c4⟩:=hc;have ho':=HO.o;unfold Ya at ho';rw [if_pos c2] at ho';obtain ⟨⟨v,e,_⟩,e2⟩:=ho';have e3:=congrArg Prod.fst e2;have e4:=congrArg Prod.snd e2;simp only at e3 e4;exact h3 ⟨c1,by rw [e3,e4,c3,c4]; rfl,by rw [e]; simp⟩
    . rfl
   rw [hn];exact .inl rfl)
  have HY:Hq (∀W ok,Below q w W->Below wx.heap.size wx W->x.kind=2->(!bad&&rem.isEmpty)=true->A4i w F x (.returned (.tuple #[o,.bool ok])) W):=Ab (λ W ok h1 h2 h3 h4=>by
   refine ⟨_,_,rfl,HQ.o W h1,?_⟩;have ho':=HO.o;unfold Ya at ho';simp only [Bool.and_eq_true,Bool.not_eq_true'] at h4;split at ho'
   . rename_i ht1;obtain ⟨⟨v,e,bv,ev,hbv,hfv⟩,e2⟩:=ho';have e3:=congrArg Prod.fst e2;have e4:=congrArg Prod.snd e2;simp only at e3 e4;have hs:Eb x=some ((Bq x.l false).1,(Bv (Bq x.l false).2.1 (Bq x.l false).2.2).1):=by
      unfold Eb;rw [if_pos ⟨h3,ht1,by rw [<-e3]; exact h4.2,by rw [<-e4]; exact h4.1⟩]
     rw [hs];exact ⟨v,e,bv,ev,hbv.below h2,hfv⟩
   . rename_i ht1;have hs:Eb x=none:=by
      unfold Eb;rw [if_neg (λ h=>ht1 h.2.1)]
     rw [hs];exact ho')
  have HD:=Ab (Ik rem bad p F wx ht);clear ht hk ho hb hq;by_cases hk2:x.kind=2
  . have HK2:=Ab hk2;have hkb:(x.kind !=2)=false:=by simpa using hk2
    clear hk2;generalize hdn:(!bad&&rem.isEmpty)=dn at*;clear hdn;rcases hshape with e | ⟨U,y,e⟩
    . subst e;go_wp2_with fail;go_ret2;exact HX.o _ _ HB.o (aD _ _) (λ h=>h.2.2 rfl)
    . subst e;go_wp2_with fail;refine HD.o.mono ?_;rintro e w2 ⟨rfl,rfl⟩
      cases dn with
      | true=>
       go_wp2_with fail;go_ret2;exact HY.o _ _ HB.o (aD _ _) HK2.o (by first | rfl | trivial)
      | false=>
       go_wp2_with fail;go_ret2;exact HX.o _ _ HB.o (aD _ _) (λ h=>by simp at h)
  . have hkb:(x.kind !=2)=true:=by simpa using hk2
    have HK2:=Ab hk2;clear hk2;go_wp2_with fail;go_ret2;exact HX.o _ _ HB.o (aD _ _) (λ h=>HK2.o h.1)
theorem Bc:A3 aA 108 2:=A3.mk Tryz.underlying108 rfl (by kernel_rfl)
theorem Et (T:bB) (v:aZ) (X:bB) (hT:(match Tryz.prog.underlying T with | some (.interface _)=>false | some _=>true | none=>false)=true) (W:bA): (Instr.typeAssert (.iface T v) X T true).run aA W=.ok (.tuple #[v,.bool true]) W:=by
 cases hu:Tryz.prog.underlying T with
 | none=>rw [hu] at hT; simp at hT
 | some d=>
  rw [hu] at hT;unfold Instr.typeAssert;rw [Sem.run_bind,run_underlying hu W]
  cases d <;> first | (simp at hT; done) | simp [Result.andThen,Sem.run_pure]
theorem A9 (T:bB) (r:aZ) (X:bB) (z:aZ) (hT:(match Tryz.prog.underlying T with | some (.interface _)=>false | some _=>true | none=>false)=true) (hz:∀W,(zeroValue T).run aA W=.ok z W) (h:A5P T r) (W:bA):(Instr.typeAssert r X T true).run aA W=.ok (.tuple #[z,.bool false]) W:=by
 cases hu:Tryz.prog.underlying T with
 | none=>rw [hu] at hT; simp at hT
 | some d=>
  rw [hu] at hT;unfold Instr.typeAssert;rw [Sem.run_bind,run_underlying hu W];rcases h with rfl | ⟨U,x,rfl,hne⟩
  . cases d <;> first | (simp at hT; done) | simp [Result.andThen,Sem.run_pure,Sem.run_bind,hz]
  . cases d <;> first | (simp at hT; done) | simp [Result.andThen,Sem.run_pure,Sem.run_bind,hz,hne]
def zs2:List aZ:= [.string ⟨#[]⟩,.slice none 0 0]
theorem A1d (W:bA):(zeroValue 108).run aA W=.ok (.agg zs2.toArray) W:=by kernel_rfl
def Tkn (w:bA) (F:Nat->Prop) (pm p:Nat) (rem:List Tv) (bad bad2:Bool):Prop:=
 Blk w pm [.pointer (some ⟨p,0,none⟩),.bool bad2] 409/\Tk w F p rem bad/\pm≠p/\¬F pm/\∀b,F b->b<w.heap.size
def Sm (pm p B:Nat):Nat->Prop:=λ b=>b=p\/b=pm\/B<=b
theorem Tkn.lt {w:bA} {F:Nat->Prop} {pm p:Nat} {rem:List Tv} {bad bad2:Bool} (h:Tkn w F pm p rem bad bad2):pm<w.heap.size/\p<w.heap.size:=⟨h.1.lt,h.2.1.lt⟩
theorem Tkn.below {w w':bA} {F:Nat->Prop} {pm p:Nat} {rem:List Tv} {bad bad2:Bool} (h:Tkn w F pm p rem bad bad2) (hb:Below w.heap.size w w'):Tkn w' F pm p rem bad bad2:=
 ⟨h.1.below hb h.1.lt,h.2.1.below hb,h.2.2.1,h.2.2.2.1,λ b hF=>aE (h.2.2.2.2 b hF) hb.size⟩
theorem Tkn.keep {w w':bA} {F S:Nat->Prop} {pm p:Nat} {rem:List Tv} {bad bad2:Bool} (h:Tkn w F pm p rem bad bad2) (hk:Ai S w w') (hs:∀b,F b->¬S b) (hp:¬S p) (hm:¬S pm):Tkn w' F pm p rem bad bad2:=
 ⟨h.1.keep hk hm,h.2.1.keep hk (λ b hb _=>hs b hb) hp,h.2.2.1,h.2.2.2.1,λ b hF=>aE (h.2.2.2.2 b hF) hk.size⟩
theorem Tkn.step {w w':bA} {F:Nat->Prop} {pm p:Nat} {rem rem':List Tv} {bad bad2 bad':Bool} (h:Tkn w F pm p rem bad bad2) (ht:Tk w' F p rem' bad') (hk:Ai (λ b=>b=p\/w.heap.size<=b) w w'):Tkn w' F pm p rem' bad' bad2:=
 ⟨h.1.keep hk (λ e=>by have:=h.1.lt; rcases e with e | e; exact h.2.2.1 e; omega),ht,h.2.2.1,h.2.2.2.1,λ b hF=>aE (h.2.2.2.2 b hF) hk.size⟩
theorem Tkn.set {w:bA} {F:Nat->Prop} {pm p:Nat} {rem:List Tv} {bad bad2:Bool} (h:Tkn w F pm p rem bad bad2) (b:Bool):Tkn (w.setCell ⟨pm,1,none⟩ (.bool b)) F pm p rem bad b/\Ai (Sm pm p w.heap.size) w (w.setCell ⟨pm,1,none⟩ (.bool b)):=by
 have hk:Ai (λ k=>k=pm) w (w.setCell ⟨pm,1,none⟩ (.bool b)):=Ai.one w pm 1 _;refine ⟨⟨h.1.set 1 (.bool b),h.2.1.keep hk (λ x hx _ e=>h.2.2.2.1 (by rw [<-e]; exact hx)) (λ e=>h.2.2.1 e.symm),h.2.2.1,h.2.2.2.1,λ x hF=>aE (h.2.2.2.2 x hF) hk.size⟩,hk.mono (λ x hx=>.inr (.inl hx))⟩
def Ht (rem:List Tv) (bad bad2:Bool):(Aa×Aa)×List Tv×Bool×Bool:=
 match Eb (Es 1 rem bad).1 with
 | some t=>(t,(Es 1 rem bad).2.1,(Es 1 rem bad).2.2,bad2)
 | none=>(([], []),(Es 1 rem bad).2.1,(Es 1 rem bad).2.2,true)
def Rj (w:bA) (F:Nat->Prop) (pm p:Nat) (r:List Tv×Bool×Bool) (e:Ending) (v:aZ) (w':bA):Prop:=
 e=.returned v/\Tkn w' F pm p r.1 r.2.1 r.2.2/\Ai (Sm pm p w.heap.size) w w'
theorem Lo {S:Nat->Prop} {pm p B:Nat} {w w1 w2:bA} (hS:S=Sm pm p B) (h:Ai S w w1) (hB:B<=w1.heap.size) (k:Ai (Sm pm p w1.heap.size) w1 w2):Ai S w w2:=
 h.trans (k.mono (λ b hb=>by rw [hS]; rcases hb with h' | h' | h'; exact .inl h'; exact .inr (.inl h'); exact .inr (.inr (aM hB h'))))
theorem A7k {pm p B:Nat} {w w1:bA} (hB:B<=w.heap.size) (k:Ai (λ b=>b=p\/w.heap.size<=b) w w1):Ai (Sm pm p B) w w1:=
 k.mono (λ b hb=>by rcases hb with h' | h'; exact .inl h'; exact .inr (.inr (aM hB h')))
theorem Tc {pm p B C:Nat} {w w1:bA} (hB:B<=C) (k:Below C w w1):Ai (Sm pm p B) w w1:=
 (Ai.of_below k).mono (λ b hb=>.inr (.inr (aM hB hb)))
theorem A2w (rem:List Tv) (bad bad2:Bool) (pm p:Nat) (F:Nat->Prop) (w:bA) (h:Tkn w F pm p rem bad bad2): bC aA 228 #[.pointer (some ⟨pm,0,none⟩)] w λ e w'=>∃v,Rj w F pm p (Ht rem bad bad2).2 e v w'/\Me w' F (Ht rem bad bad2).1 v:=by
 have hlt:=h.lt;have hB0:Below w.heap.size w (w.alloc (.cells zs2.toArray 108)):=(aD _ _).alloc (aB _) _;have h0:=h.below hB0;have HQ0:=Ab (Blk.new w zs2 108);obtain ⟨W0,hW0⟩:∃W0,W0=w.alloc (.cells zs2.toArray 108):=⟨_,rfl⟩
 obtain ⟨q,hq⟩:∃q,q=w.heap.size:=⟨_,rfl⟩
 rw [<-hW0] at HQ0 h0 hB0;rw [<-hq] at HQ0 hB0;have HQL:Hq (pm<q/\p<q/\q<W0.heap.size):=Ab ⟨by omega,by omega,by rw [hW0,hq]; simp⟩;have HT0:=Ab h0;have HPA:=Ab (A5k 1 rem bad p F W0 h0.2.1);have HFQ:Hq (∀b,F b->b<q):=Ab (λ b hb=>by rw [hq]; exact h.2.2.2.2 b hb);have c0:W0.cell? ⟨pm,0,none⟩=some (.pointer (some ⟨p,0,none⟩)):=h0.1.cell 0;have HKW:Hq (∀W,Ai (Sm pm p q) w W->Ai (Sm pm p w.heap.size) w W):=Ab (λ W hk=>by rw [<-hq]; exact hk);have HK0:Hq (Ai (Sm pm p q) w W0):=Ab (Tc (by omega) hB0);clear hlt hB0 h0 h;go_enter Tryz.func228,Tryz.ntmps228;go_upto_region 1 with fail;show Code.wp _ _ _ _ (w.alloc (.cells zs2.toArray 108))
 rw [<-hW0,<-hq];clear hW0 hq;go_wp2_with fail;refine HPA.o.mono ?_;rintro e w1 ⟨cs,rfl,hx,ht,hk⟩;have HS:Hq (Ht rem bad bad2=match Eb (Es 1 rem bad).1 with | some t=>(t,(Es 1 rem bad).2.1,(Es 1 rem bad).2.2,bad2) | none=>(([], []),(Es 1 rem bad).2.1,(Es 1 rem bad).2.2,true)):=Ab rfl;generalize Es 1 rem bad=r at*;obtain ⟨x,r1,r2⟩:=r;simp only at*;have ht1:=HT0.o.step ht hk;have HT1:=Ab ht1;have HK1:Hq (Ai (Sm pm p q) w w1):=Ab (HK0.o.trans (A7k (aF HQL.o.2.2) hk));have HQ1:=Ab (HQ0.o.keep hk (λ e=>by have:=HQL.o; rcases e with e | e <;> omega));have HZ1:Hq (q<w1.heap.size):=Ab HQ1.o.lt;have HOF:=Ab (A7N x F cs w1 hx ht1.2.2.2.2);clear hx ht hk ht1 HPA HQ0 HT0 HK0;go_wp2_with fail;refine HOF.o.mono ?_;rintro e w2 ⟨r,ok,rfl,hb,hm⟩;have HT2:=Ab (HT1.o.below hb);have HK2:Hq (Ai (Sm pm p q) w w2):=Ab (HK1.o.trans (Tc (aF HZ1.o) hb));have HQ2:=Ab (HQ1.o.below hb HZ1.o);have HZ2:Hq (q<w2.heap.size/\pm<q/\p<q):=Ab ⟨HQ2.o.lt,HQL.o.1,HQL.o.2.1⟩;clear hb HOF HT1 HK1 HQ1 HZ1 HQL;obtain ⟨v,hta,hv,hfs⟩:∃(z:aZ) (hta:∀W,(Instr.typeAssert r 20 108 true).run aA W=.ok (.tuple #[z,.bool (Eb x).isSome]) W),(∃t,Me w2 F t z/\t=(Ht rem bad bad2).1)/\(Ht rem bad bad2).2=(r1,r2,if (Eb x).isSome then bad2 else true):=by
  rw [HS.o]
  cases hts:Eb x with
  | some t=>
   rw [hts] at hm;obtain ⟨v,rfl,hv⟩:=hm;exact ⟨v,λ W=>Et _ _ _ (by kernel_rfl) W,⟨t,hv,rfl⟩,rfl⟩
  | none=>
   rw [hts] at hm;exact ⟨_,λ W=>A9 _ _ _ _ (by kernel_rfl) A1d hm W,⟨([], []),⟨_,rfl,Sl.nil _ _ _,by simp⟩,rfl⟩,rfl⟩
 obtain ⟨t,⟨bv,rfl,hbv,hbf⟩,et⟩:=hv;obtain ⟨ab,cb,rfl,hcb,hmb⟩:=hbv.form;have HE:=Ab et;have HFS:=Ab hfs;have HBV:=Ab hbv;have HBF:=Ab hbf;generalize (Eb x).isSome=d at*;clear hm hbv hbf et hfs;obtain ⟨q3,hq3⟩:∃q3,q3=w2.heap.size:=⟨_,rfl⟩
 have HG:Hq (Blk (w2.alloc (.cells zs2.toArray 108)) w2.heap.size zs2 108):=Ab (Blk.new _ _ _);have hone:∀u∈ [aZ.string (tx t.1),.slice ab t.2.length cb],u.oneCell'=true:=by intro u hu; simp at hu; rcases hu with rfl | rfl <;> rfl
 have HON:=Ab hone;clear hone;have HTV:Hq (∀W bv,Bs W bv t.2->(0<t.2.length->∀y,bv.ownBlock=some y->F y)->Me W F (Ht rem bad bad2).1 (.agg #[.string (tx t.1),bv])):=Ab (λ W bv h1 h2=>by rw [<-HE.o]; exact ⟨bv,rfl,h1,h2⟩);clear HE;generalize t.2=t2 at*;generalize tx t.1=t1 at*;go_wp2_with ((with_reducible refine zws 5 19 ?_);refine Ag rfl (.tmp 5) (.tmp 19) Bc rfl rfl (vs:= [aZ.string t1,.slice ab t2.length cb]) rfl rfl HG.o (aB _) HON.o ?_);intro w3 h3 k3;have h3':Blk w3 w2.heap.size [aZ.string t1,.slice ab t2.length cb] 108:=by simpa [zs2] using h3
 have hb3:Below w2.heap.size w2 w3:=((aD w2.heap.size w2).alloc (aB _) _).trans (k3.below (λ b hb=>aY hb.symm));have HT3:=Ab (HT2.o.below hb3);have HK3:Hq (Ai (Sm pm p q) w w3):=Ab (HK2.o.trans (Tc (aF HZ2.o.1) hb3));have HQ3:=Ab (HQ2.o.below hb3 HZ2.o.1);have HBV3:=Ab (HBV.o.below hb3);have HNE:Hq (pm≠w2.heap.size/\pm≠q/\w2.heap.size≠q/\pm<q):=Ab (by have:=HZ2.o; exact ⟨by omega,by omega,by omega,by omega⟩);have H3:=Ab h3';have c1:w3.cell? ⟨pm,1,none⟩=some (.bool bad2):=HT3.o.1.cell 1;have f1:=HT3.o.1.frozen 1;obtain ⟨W4,hW4⟩:∃W4,W4=w3.setCell ⟨pm,1,none⟩ (.bool (if d=true then bad2 else true)):=⟨_,rfl⟩
 obtain ⟨ht4,hk4⟩:=HT3.o.set (if d=true then bad2 else true);rw [<-hW4] at ht4 hk4;have HT4:=Ab ht4;have HK4:Hq (Ai (Sm pm p q) w W4):=Ab (Lo rfl HK3.o (aF HQ3.o.lt) hk4);have H4:Hq (Blk W4 w2.heap.size [aZ.string t1,.slice ab t2.length cb] 108):=Ab (by rw [hW4]; exact H3.o.set_other (p:=⟨pm,1,none⟩) (λ e=>HNE.o.1 e.symm) _);have HQ4:Hq (Blk W4 q zs2 108):=Ab (by rw [hW4]; exact HQ3.o.set_other (p:=⟨pm,1,none⟩) (λ e=>HNE.o.2.1 e.symm) _);have HBV4:Hq (Bs W4 (.slice ab t2.length cb) t2):=Ab (HBV3.o.keepF hk4 HBF.o (λ b hb hl hs=>by
  rcases hs with e | e | e
  . exact HT3.o.2.1.notF (by rw [<-e]; exact hb)
  . exact HT3.o.2.2.2.1 (by rw [<-e]; exact hb)
  . omega))
 clear h3 k3 h3' hb3 ht4 hk4;have hd:∀c:Bool,(if d=true then bad2 else true)=c->(if bad2=true then true else !d)=c:=by
  intro c hc; rw [<-hc]; cases d <;> cases bad2 <;> rfl
 generalize w2.heap.size=q3' at*;subst hq3;have hpick:=hd _ rfl;clear hd
 cases bad2 <;> cases d
 all_goals
  simp only [Bool.false_eq_true,if_true,if_false] at hW4;go_upto_region 4 with fail;rw [<-hW4];clear hW4;go_wp2_with (first | ((with_reducible refine zw 32 ?_);refine Aj rfl (.tmp 5) Bc rfl rfl (cs:= [aZ.string t1,.slice ab t2.length cb]) rfl H4.o.cellsAll ?_) | ((with_reducible refine zws 2 32 ?_);refine Ag rfl (.tmp 2) (.tmp 32) Bc rfl rfl (vs:= [aZ.string t1,.slice ab t2.length cb]) rfl rfl HQ4.o (aB _) HON.o ?_));intro w5 h5 k5;have H5:Hq (Blk w5 q [aZ.string t1,.slice ab t2.length cb] 108):=Ab (by simpa [zs2] using h5);have HT5:=Ab (HT4.o.keep k5 (λ b hb e=>by have:=HFQ.o b hb; omega) (λ e=>by have:=HZ2.o; omega) (λ e=>HNE.o.2.1 e));have HK5:Hq (Ai (Sm pm p q) w w5):=Ab (HK4.o.trans (k5.mono (λ b hb=>.inr (.inr (aY hb.symm)))));have HBV5:Hq (Bs w5 (.slice ab t2.length cb) t2):=Ab (HBV4.o.keepF k5 HBF.o (λ b hb hl e=>by have:=HFQ.o b hb; omega));clear h5 k5;go_wp2_with fail;exact bodyPost_ret (Az rfl Bc rfl (cs:= [aZ.string t1,.slice ab t2.length cb]) rfl H5.o.cellsAll) rfl ⟨_,⟨rfl,by rw [HFS.o]; exact HT5.o,HKW.o _ HK5.o⟩,HTV.o _ _ HBV5.o HBF.o⟩
def C6 (t:Aa×Aa):Tv:=.mk 2 1 0 [] [.mk 1 0 0 t.1 [],.mk 1 0 0 t.2 []]
def Gu (w:bA) (x:Tv) (b:Bool) (e:Ending) (w':bA):Prop:=
 ∃cs,e=.returned (.tuple #[.agg cs.toArray,.bool b])/\TvF w' (λ y=>w.heap.size<=y) x cs/\Below w.heap.size w w'
theorem Hx:B6 aA 258:=B6.mk aQ (by kernel_rfl) (by kernel_rfl)
theorem Ez:B6 aA 178:=B6.mk aN (by kernel_rfl) (by kernel_rfl)
theorem Dg:B6 aA 213:=B6.mk Tryz.func213 (by kernel_rfl) (by kernel_rfl)
theorem Fh:B6 aA 259:=B6.mk aR (by kernel_rfl) (by kernel_rfl)
theorem Fs (t:Aa×Aa) (bv:aZ) (w:bA) (hb:Bs w bv t.2) (h1:t.1.length<=1099511627776) (h2:t.2.length<=1099511627776): bC aA 210 #[.iface 108 (.agg #[.string (tx t.1),bv])] w (Gu w (C6 t) (Au (tx t.1))):=by
 obtain ⟨l1,l2⟩:=t;simp only at*;obtain ⟨ab,cb,rfl,hcb,hmb⟩:=hb.form;have hta:∀W,(Instr.typeAssert (.iface 108 (.agg #[.string (tx l1),.slice ab l2.length cb])) 20 108 true).run aA W=.ok (.tuple #[.agg #[.string (tx l1),.slice ab l2.length cb],.bool true]) W:=λ W=>Et _ _ _ (by kernel_rfl) W
 have HZ:=Ab h1;have HZ2:=Ab h2;have HB:=Ab hb;clear h1 h2 hb;go_enter Tryz.func210,Tryz.ntmps210;go_upto_region 4 with fail;clear hta;obtain ⟨w1,hw1⟩:∃w1,w1=w.alloc (.cells zs5.toArray 314):=⟨_,rfl⟩
 obtain ⟨w2,hw2⟩:∃w2,w2=w1.alloc (.cells #[.string (tx l1),.slice ab l2.length cb] 108):=⟨_,rfl⟩
 have hq0:Blk w1 w.heap.size zs5 314:=by rw [hw1]; exact Blk.new _ _ _
 have hz1:w1.heap.size=w.heap.size+1:=by rw [hw1]; simp
 have hm0:Blk w2 w1.heap.size [.string (tx l1),.slice ab l2.length cb] 108:=by rw [hw2]; exact Blk.new _ _ _
 have hz2:w2.heap.size=w.heap.size+2:=by rw [hw2]; simp [hz1]
 have hb1:Below w.heap.size w w1:=by rw [hw1]; exact (aD _ _).alloc (aB _) _
 have hb2:Below w.heap.size w w2:=by rw [hw2]; exact hb1.alloc (by omega) _
 have hq2:Blk w2 w.heap.size zs5 314:=by rw [hw2]; exact hq0.alloc _
 rw [hz1] at hm0;have hbb:Bs w2 (.slice ab l2.length cb) l2:=HB.o.below hb2;show Code.wp _ _ _ _ ((w.alloc (.cells zs5.toArray 314)).alloc (.cells #[.string (tx l1),.slice ab l2.length cb] 108))
 rw [<-hw1,<-hw2];obtain ⟨q,hq⟩:∃q,q=w.heap.size:=⟨_,rfl⟩
 obtain ⟨F,hF⟩:∃F:Nat->Prop,F=λ b=>q+2<=b:=⟨_,rfl⟩
 obtain ⟨wd,hwd⟩:∃wd,wd=w2.drew:=⟨_,rfl⟩
 obtain ⟨p,hp⟩:∃p,p=q+1:=⟨_,rfl⟩
 obtain ⟨X,hX⟩:∃X,X=C6 (l1,l2):=⟨_,rfl⟩
 have HFq:Hq (¬F q):=Ab (by rw [hF]; intro h; omega);have hzd:wd.heap.size=q+2:=by rw [hwd]; simp [hz2,hq]
 have HZD:Hq (∀W,GV F q X wd W->q<W.heap.size/\(∀b,W.heap.size<=b->F b)):=Ab (λ W h=>by
  have:=h.1.size;exact ⟨by omega,λ b hb=>by rw [hF]; show q+2<=b; omega⟩)
 have HM:Hq (∀W,GV F q X wd W->Blk W p [.string (tx l1),.slice ab l2.length cb] 108):=Ab (λ W h=>
  (show Blk wd p _ _ by rw [hwd,hp,hq]; exact hm0.drew).keep h.1 (by rintro (e | e) <;> omega))
 have HQB:Hq (∀W,GV F q X wd W->A5O q W):=Ab (λ W h=>h.2.2 ⟨zs5,by rw [hwd,hq]; exact hq2.drew,rfl⟩);have HBW:Hq (∀W,GV F q X wd W->Bs W (.slice ab l2.length cb) l2):=Ab (λ W h=>
  (show Bs wd _ _ by rw [hwd]; exact hbb.drew).keepF (F:=λ b=>b<q) h.1 (λ hn y hy=>by rw [hq]; exact Sl.own_lt HB.o (by decide) hn y hy) (λ b hb _ hs=>by have hb:b<q:=hb; rcases hs with e | e <;> omega))
 have HFX:Hq (∀b,F b->w.heap.size<=b):=Ab (λ b hb=>by rw [hF] at hb; have:q+2<=b:=hb; omega);have HBD:Hq (∀W,GV F q X wd W->Below w.heap.size w W):=Ab (λ W h=>
  (show Below w.heap.size w wd by rw [hwd]; exact hb2.drew).trans (h.1.below (by rintro b (e | e) <;> omega)))
 have HXE:Hq (X=.mk 2 1 0 [] [.mk 1 0 0 l1 [],.mk 1 0 0 l2 []]):=Ab hX;have HXE2:Hq (X=C6 (l1,l2)):=Ab hX;rw [show w.heap.size=q from hq.symm];rw [<-hp];clear hq0 hm0 hz1 hz2 hb1 hb2 hq2 hbb hw1 hw2 hF hX hzd hp;refine wp_region_held (S:=λ W=>GV F q X wd W) (by kernel_rfl) ?_;change wpAnyH _ _ _ _ _ _ _ _ (bA.drew _);rw [<-hwd];clear hwd;refine zH 0 ?_;refine zH 1 ?_ (v:=.string (tx l1)) (hr:=λ W hW=>by have hc:W.cell? ⟨p,0,none⟩=some (.string (tx l1)):=(HM.o W hW).cell 0; go_simp);refine zH 3 ?_;refine zH 4 ?_ (v:=.slice ab l2.length cb) (hr:=λ W hW=>by have hc:W.cell? ⟨p,1,none⟩=some (.slice ab l2.length cb):=(HM.o W hW).cell 1; go_simp);refine zH 8 ?_;refine zH 9 ?_ (v:=.string (tx l1)) (hr:=λ W hW=>by have hc:W.cell? ⟨p,0,none⟩=some (.string (tx l1)):=(HM.o W hW).cell 0; go_simp);refine Df (G:=GV F q X) (Post:=L5 F q X [.any,.any,.val (.mk 1 0 0 l1 []),.any,.any,.val (.mk 1 0 0 l2 []),.vals [.mk 1 0 0 l1 [],.mk 1 0 0 l2 []],.val (.mk 2 1 0 [] [.mk 1 0 0 l1 [],.mk 1 0 0 l2 []]),.any,.any,.is (.bool (Au (tx l1))),.fin,.is (.bool (Au (tx l1)))]) (ds:= [17,20,21,22,25,3]) (GV.refl _ _ _) GV.trans (λ W W' h g=>GV.trans _ _ _ h g) (λ i v W W' h g=>PK.stable HFq.o h g) [2,5,6,7,10,11,12] 180 rfl (by decide+kernel) (by decide+kernel) ?_ ?_ (GV.refl _ _ _ _) (by decide+kernel)
 . refine zA (λ a W hf hS hd K hK=>?_) ?_
   . have e16:a.eval (.tmp 16)=.string (tx l1):=hf.lit 16 (by decide) rfl;exact A2 (Ah rfl) rfl Hx (vs:=#[.string (tx l1)]) (by simp [e16]) (Mq l1 W HZ.o) (HZD.o W hS).1 (HZD.o W hS).2 hK
   refine zA (λ a W hf hS hd K hK=>?_) ?_
   . have e19:a.eval (.tmp 19)=.slice ab l2.length cb:=hf.lit 19 (by decide) rfl;exact A2 (Ah rfl) rfl Ez (vs:=#[.slice ab l2.length cb]) (by simp [e19]) (Di _ l2 W (HBW.o W hS) HZ2.o) (HZD.o W hS).1 (HZD.o W hS).2 hK
   refine zA (λ a W hf hS hd K hK=>?_) ?_
   . have d17:=(hd 2 (by decide+kernel)).get (s:=17) rfl;have d20:=(hd 5 (by decide+kernel)).get (s:=20) rfl;exact Dk (Ah rfl) rfl Hs (ps:= [.tmp 17,.tmp 20]) rfl (l:= [.mk 1 0 0 l1 [],.mk 1 0 0 l2 []]) ⟨d17,d20,trivial⟩ rfl (by decide) (by decide) (HZD.o W hS).1 (HZD.o W hS).2 hK
   refine zA (λ a W hf hS hd K hK=>?_) ?_
   . have d21:=(hd 6 (by decide+kernel)).get (s:=21) rfl;exact D2 (Ah rfl) rfl Dg d21 (HZD.o W hS).1 (λ v w1 h1 h2=>hK v w1 h1 h2) HFq.o
   refine zA (λ a W hf hS hd K hK=>?_) ?_
   . have e24:a.eval (.tmp 24)=.string (tx l1):=hf.lit 24 (by decide) rfl;exact E5 (Ah rfl) rfl Fh (vs:=#[.string (tx l1),.slice none 0 0]) (by simp only [List.map_toArray,aL,List.map_nil,e24]; rfl) (u:=.bool (Au (tx l1))) ((Iv (tx l1) [] _ W (Sl.nil _ _ _) (by rw [Dq]; have:=HZ.o; unfold maxLen; omega)).mono λ e w1 h=>⟨by rw [h.1]; simp,h.2⟩) (HZD.o W hS).1 hK
   refine zA (λ a W hf hS hd K hK=>?_) ?_
   . have e2:a.eval (.tmp 2)=.pointer (some ⟨q,0,none⟩):=hf.lit 2 (by decide) rfl;have d22:=(hd 7 (by decide+kernel)).get (s:=22) rfl;obtain ⟨cur,hc1,hc2⟩:=HQB.o W hS;rw [<-HXE.o] at d22;exact D1 (Ah rfl) rfl e2 d22 hc1 hc2 HFq.o hK
   refine zA (λ a W hf hS hd K hK=>?_) ?_
   . have d25:=(hd 10 (by decide+kernel)).get (s:=25) rfl;exact A6 (Ah rfl) (Hh rfl) (hK _ _ (GV.refl _ _ _ _) d25)
   exact Cm.nil
 . intro a W hf hS hp;have h3:=(hp 12 (by decide)).get (s:=3) rfl;obtain ⟨v,cs,h5,h6⟩:=(hp 11 (by decide)).fin;have e2:a.eval (.tmp 2)=.pointer (some ⟨q,0,none⟩):=hf.lit 2 (by decide) rfl;go_wp2_with fail;refine bodyPost_ret (Ap rfl Ak (show a.tmps.getD 2 undef=_ from e2) h6.length h5.cellsAll) hf.defers ⟨cs,?_,?_,HBD.o W hS⟩
   . rw [show a.tmps.getD 3 undef=.bool (Au (tx l1)) from h3]
   . exact HXE2.o▸h6.mono HFX.o
end Go.Proofs.YtcnfaghcjlhoiaaGreat
namespace Go.Proofs.YtcnfaghcjlhoiaaGreat
open Go.RowKit Go.Maps
section
section
open Go.WideElems Go.MapKept Go.ChangeMaps Go.ChangeShapes Go.WideShapes
variable {P:bE} {w:bA} {t k e:bB}
end
open Go.MapKept
theorem Of {H:Type} {P:bE} {k:bB} {R:aZ->Option (DataW H×List MemPlace)} {w w':bA} {b n:Nat} {D:DataW H} {S:Nat->Prop} (h:w.ownsMap P k R b n D) (hk:Ai S w w') (hb:¬S b):w'.ownsMap P k R b n D:=by
 obtain ⟨es,clock,h1,hr⟩:=h;exact ⟨es,clock,(hk.block b hb).trans h1,hr⟩
theorem I3 {w w':bA} {b:Nat} (hg:w.grownBy w' (some b)):Ai (λ k=>k=b\/w.heap.size<=k) w w':=
 (Ai.refl _ _).grown hg (λ k hk=>.inr hk) (λ k hk=>by simp only [Option.some.injEq] at hk; exact .inl hk.symm)
end
end Go.Proofs.YtcnfaghcjlhoiaaGreat
