/- Texts of this proof, one behind the other: AesN, AesK, AesT, SeS, SeO. -/
import Derived.Test.YtnihelcjmahmnaaGreatWrB2
import Derived.Test.YtnihelcjmahmnaaGreatWrB3
import Derived.Test.YtnihelcjmahmnaaGreatWrB5
import Derived.Test.YtnihelcjmahmnaaGreatWrB9
import Derived.StillTailTactics
set_option linter.unusedSimpArgs false
set_option linter.unusedVariables false
set_option maxRecDepth 100000
set_option maxHeartbeats 16000000
open Go.Proofs.Tryz renaming prog -> aA
open List renaming getD_eq_getElem?_getD -> aC, length_append -> aD, getElem?_append_right -> aF, append_assoc -> aG, set_append_right -> aH, length_set -> aI, replicate -> aJ, drop_of_length_le -> aK, drop_succ_cons -> aM, range -> aN, flatten_cons -> aO, zipWith -> aQ, nil_append -> aR, getElem?_append_left -> aS, take_append_of_le_length -> aT, take_of_length_le -> aU, set_cons_succ -> aV, append_nil -> aW, drop_eq_getElem_cons -> aX, range_succ -> aY, take_succ_cons -> bA, take_zero -> bB, drop_zero -> bC, length_take -> bD, drop_left -> bE
open Nat renaming le_refl -> aE, add_comm -> aL, zero_add -> aP, mul_zero -> aZ
open Go renaming Value -> bF, World -> bG, Calls -> bH, IntKind -> bI
namespace Go.Proofs.YtnihelcjmahmnaaGreat
open Go.RowKit
def cph (b:Nat) (K:List UInt8):List bF:=.pointer (some ⟨b,0,none⟩)::Ab K
def Tq (p b:Nat) (K:List UInt8):Res:=.all [.blk p (cph b K) 320,.blk b (Ab Ey) 326]
def A6k:List UInt8:=aJ 160 0
def A2K:List UInt8:=aJ 176 0
theorem Jb:A7 aA 34 16:=A7.mk Tryz.underlying34 rfl (by kernel_rfl)
theorem U9 (b:Nat):Tryz.prog.built 320 [(0,.pointer (some ⟨b,0,none⟩))]=some (cph b A2K).toArray:=by kernel_rfl
def Fa (k:List UInt8) (m:Nat):List UInt8:=(Cm k m).1.flatten
theorem Uo (k:List UInt8) (m:Nat):(Cm k m).1.length=m+1:=by
  induction m with
  | zero=>rfl
  | succ m ih=>rw [Cm,aD,ih]; rfl
theorem Ha (k:List UInt8) (hk:k.length=16) (m:Nat):(Fa k m).length=16*(m+1):=by
  induction m with
  | zero=>simp [Fa,Cm,hk]
  | succ m ih=>
    have:Fa k (m+1)=Fa k m++Kc ((Cm k m).1.getD m []) (Cm k m).2 16:=by simp [Fa,Cm]
    rw [this,aD,ih,Fu];omega
theorem Sj (k:List UInt8) (hk:k.length=16) (m:Nat):((Cm k m).1.getD m []).length=16/\∃x,(Cm k m).1=x++ [(Cm k m).1.getD m []]/\x.flatten.length=16*m:=by
  cases m with
  | zero=>exact ⟨hk, [],rfl,rfl⟩
  | succ m=>
    have e:(Cm k (m+1)).1.getD (m+1) []=Kc ((Cm k m).1.getD m []) (Cm k m).2 16:=by
      rw [Cm,aC,aF (by rw [Uo]; omega),Uo];simp
    refine ⟨by rw [e,Fu],(Cm k m).1,by rw [e]; rfl,Ha k hk m⟩
def De (k:List UInt8) (m:Nat):List UInt8:=(Cm k m).1.getD m []
def kkM (k:List UInt8) (m i:Nat):List UInt8:=Fa k m++(Kc (De k m) (Cm k m).2 i++aJ (160-16*m-i) 0)
theorem Rw (k:List UInt8) (hk:k.length=16) (m i:Nat) (h:16*m+i<=160):(kkM k m i).length=176:=by
  rw [kkM,aD,aD,Ha k hk,Fu,List.length_replicate];omega
theorem A3A (k:List UInt8) (m:Nat):kkM k m 16=kkM k (m+1) 0:=by
  have e:Fa k (m+1)=Fa k m++Kc (De k m) (Cm k m).2 16:=by simp [Fa,Cm,De]
  rw [kkM,kkM,e,Kc,aR,aG,show 160-16*m-16=160-16*(m+1)-0 by omega]
def Jr (k:List UInt8) (m i:Nat):UInt8:=
  if i=0 then xB (xB ((De k m).getD i 0) (if 4<=i then (Kc (De k m) (Cm k m).2 i).getD (i-4) 0 else Ey.getD ((De k m).getD (12+(i+1) % 4) 0).toNat 0)) (Cm k m).2
  else xB ((De k m).getD i 0) (if 4<=i then (Kc (De k m) (Cm k m).2 i).getD (i-4) 0 else Ey.getD ((De k m).getD (12+(i+1) % 4) 0).toNat 0)
theorem A2y (k:List UInt8) (m i:Nat):Kc (De k m) (Cm k m).2 (i+1)=Kc (De k m) (Cm k m).2 i++ [Jr k m i]:=rfl
theorem A4L (k:List UInt8) (hk:k.length=16) (m i:Nat) (h:16*m+i<160):(kkM k m i).set (16*(m+1)+i) (Jr k m i)=kkM k m (i+1):=by
  have hr:=Fu (De k m) (Cm k m).2 i;have hf:=Ha k hk m;obtain ⟨c,hc⟩:∃c,160-16*m-i=c+1:=⟨160-16*m-i-1,by omega⟩
  rw [kkM,kkM,A2y,aH _ _ (by omega),aH _ _ (by omega),hc,show 16*(m+1)+i- (Fa k m).length- (Kc (De k m) (Cm k m).2 i).length=0 by omega,show 160-16*m- (i+1)=c by omega,List.replicate_succ];simp
theorem A4K (k:List UInt8) (hk:k.length=16) (m i j:Nat) (hj:j<i):(kkM k m i).getD (16*(m+1)+j) 0=(Kc (De k m) (Cm k m).2 i).getD j 0:=by
  have hr:=Fu (De k m) (Cm k m).2 i;have hf:=Ha k hk m;rw [kkM,aC,aF (by omega),aS (by omega),aC,show 16*(m+1)+j- (Fa k m).length=j by omega]
theorem A3z (k:List UInt8) (hk:k.length=16) (m i:Nat):((kkM k m i).drop (16*m)).take 16=De k m:=by
  obtain ⟨h1,x,h2,h3⟩:=Sj k hk m;have e:Fa k m=x.flatten++De k m:=by rw [Fa,h2]; simp [De]
  rw [kkM,e,aG,List.drop_append_of_le_length (by omega),aK (by omega),aR,aT (by rw [De,h1]; decide),aU (by rw [De,h1]; decide)]
theorem J5 (k:List UInt8) (hk:k.length=16) (m:Nat):(De k m).length=16:=(Sj k hk m).1
theorem A3B (k:List UInt8):kkM k 0 0=k++A6k:=by simp [kkM,Fa,Cm,Kc,A6k]
theorem Wu (l:List UInt8) (i:Nat):Ab (l.drop i)=(Ab l).drop i:=List.map_drop
theorem Wv (l:List UInt8) (i:Nat):Ab (l.take i)=(Ab l).take i:=List.map_take
theorem Vg {b:Nat} {K:List UInt8} {j:Nat} (h:j<K.length):(cph b K)[1+j]?=some (.int .u8 ((K.getD j 0).toNat:Int)):=by
  rw [aL,cph,List.getElem?_cons_succ,Cu h]
theorem A4A (b:Nat) (K:List UInt8) (j:Nat) (x:UInt8):(cph b K).set (1+j) (bV x)=cph b (K.set j x):=by
  rw [aL,cph,aV,B5,cph]
theorem Ra (k:List UInt8) (l:List Res) (w:bG) (h:Ac w l) (hk:k.length=16): bH aA 153 #[Ax k] w λ e w'=>∃p b,e=.returned (.pointer (some ⟨p,0,none⟩))/\Ac w' (Tq p b (Fa k 10)::l):=by
  have HB:=hqZ (A4y _ _ (h.addBlkAt (Ab k) 35 (b:=w.heap.size) rfl));have HK1:Hq ((Ab k).length=16):=hqZ (by rw [Aa,hk]);have HKK:=hqZ hk;clear h hk;unfold Ax;go_enter Tryz.func153,Tryz.ntmps153;go_wp2_with fail;refine HB.o.mono ?_;rintro e w1 ⟨b,rfl,hc⟩;obtain ⟨p,hp⟩:∃p,w1.heap.size=p:=⟨_,rfl⟩
  have HC:=hqZ (hc.addBlkAt (cph b A2K) 320 hp);clear hc HB;go_wp2_with ((with_reducible refine zw 10 ?_);refine Dg rfl rfl (by simp [Act.eval]) (U9 b) ?_);have HL0:=HC.o.blk0.cell 0;refine Ev [] (λ b W=>Ao W w.heap.size 0 (Ab k)) (by kernel_rfl) ?_;generalize hG:bG.drew _=W;have HC:=hqZ (HC.o.drew.cast hG);clear hG hp;refine zT 0 ?_;refine zT 1 ?_ (hr:=λ _ _ _ hW=>ldJ Al rfl HK1.o hW);refine zT 2 ?_;refine zT 3 ?_;refine zT 4 ?_;refine zJ 5 λ K hK=>?_
  refine Dt rfl (.tmp 16) (.tmp 13) Jb rfl rfl (vs:=Ab k) rfl HK1.o HC.o.blk0 (by rw [show (cph b A2K).length=177 by simp [cph,A2K,Aa]]; decide) (Aj _) ?_;intro w3 h3 k3;have h3':Blk w3 p (cph b (kkM k 0 0)) 320:=by
    rw [A3B];have e:(cph b A2K).take 1++Ab k++(cph b A2K).drop (1+16)=cph b (k++A6k):=by
      rw [cph,cph,Dr];rfl
    rw [e] at h3;exact h3
  have HC:=hqZ (HC.o.reblk h3' k3);clear h3 h3' k3;refine zq hK ?_;clear hK K;refine zD ?_;go_wp2_with fail;go_loopw [4,5] (λ vr vn wr=>∃m:Nat,m<=10/\vn=.int .i64 ((m:Int)+1)/\vr=.int .u8 ((Cm k m).2.toNat:Int)/\Ac wr (.blk p (cph b (kkM k m 0)) 320::.blk b (Ab Ey) 326::l)) (λ _ vn _=>11- (intOf vn).toNat)
  case atStart=>exact ⟨0,by omega,rfl,rfl,HC.o.pull3.tail⟩
  case round=>
    obtain ⟨m,hm,rfl,rfl,hc⟩:=hrel;have HC:=hqZ hc;clear hc;obtain ⟨y,hy⟩:∃y,y=(Cm k m).2:=⟨_,rfl⟩
    have HY:=hqZ hy;rw [<-hy];clear hy;by_cases hlt:m<10
    · have hlc:Ao wr p (1+m*16) (Ab (De k m)):=by
        rw [Nat.mul_comm m 16]
        have:=HC.o.blk0.cellsAt (1+16*m) 16
        rwa [aL 1,cph,aM,<-Wu,<-Wv,A3z k HKK.o,aL] at this
      have HLC:=hqZ hlc;have HLL:Hq ((Ab (De k m)).length=16):=hqZ (by rw [Aa,J5 k HKK.o]);have hw:bI.i64.wrap ((m:Int)+1-1)=m:=by rw [bI.wrap_i64]; omega
      have m0:(0:Int)<=(m:Int):=by omega
      have m1:(m:Int)<11:=by omega
      have hd:decide ((m:Int)+1<11)=true:=by simp; omega
      obtain ⟨s,hs⟩:∃s,wr.heap.size=s:=⟨_,rfl⟩
      have HC:=hqZ (HC.o.addBlkAt A3 34 hs);clear hlc;go_wp2_with (first | ((with_reducible refine zw 27 ?_);refine Ah rfl (.tmp 26) Jb rfl rfl (cs:=Ab (De k m)) HLL.o HLC.o ?_) | ((with_reducible refine zws 6 27 ?_);refine Af rfl (.tmp 6) (.tmp 27) Jb rfl rfl (vs:=Ab (De k m)) rfl HLL.o HC.o.blk0 (aE _) (Aj _) ?_));intro wa ha ka;have HC:=hqZ (HC.o.stW (vs:=Ab (De k m)) ha ka rfl);clear ha ka hs;go_wp2_with fail;go_loopw [28] (λ vi wi=>∃i:Nat,i<=16/\vi=.int .i64 i/\Ac wi (.blk s (Ab (De k m)) 34::.blk p (cph b (kkM k m i)) 320::.blk b (Ab Ey) 326::l)) (λ vi _=>16- (intOf vi).toNat)
      case atStart=>exact ⟨0,by omega,rfl,HC.o⟩
      case round=>
        obtain ⟨i,hi,rfl,hc⟩:=hrel;have HC:=hqZ hc;clear hc;have hx:=u8x;by_cases hi16:i<16
        · obtain ⟨X,hX⟩:∃X,X=(De k m).getD i 0:=⟨_,rfl⟩
          have cX:wr.cell? ⟨s,i,none⟩=some (.int .u8 (X.toNat:Int)):=by rw [hX]; exact (HC.o.blk0.cell i).trans (Cu (by rw [J5 k HKK.o]; exact hi16))
          have HX:=hqZ hX;clear hX;obtain ⟨yo,hyo⟩:∃yo,(cph b (kkM k m i))[1+(16*(m+1)+i)]?=some yo:=⟨_,Vg (by rw [Rw k HKK.o m i (by omega)]; omega)⟩
          have cS:wr.cell? ⟨p,1+(m+1)*16+i,none⟩=some yo:=by rw [show 1+(m+1)*16+i=1+(16*(m+1)+i) by omega]; exact (HC.o.swap.blk0.cell _).trans hyo
          have fS:=HC.o.swap.blk0.frozen (1+(m+1)*16+i);have lS:=HC.o.swap.blk0.lt;have lT:=HC.o.blk0.lt;have i0:(0:Int)<=(i:Int):=by omega
          have i1:(i:Int)<16:=by omega
          have m2:(0:Int)<=(m:Int)+1:=by omega
          have m3:(m:Int)+1<11:=by omega
          have m4:((m:Int)+1).toNat=m+1:=by omega
          have HEND:Hq (∀W,Ac W (.blk s (Ab (De k m)) 34::.blk p (cph b (kkM k m i)) 320::.blk b (Ab Ey) 326::l)->∀v,v=Jr k m i->
              Ac (W.setCell ⟨p,1+(m+1)*16+i,none⟩ (.int .u8 (v.toNat:Int))) (.blk s (Ab (De k m)) 34::.blk p (cph b (kkM k m (i+1))) 320::.blk b (Ab Ey) 326::l)):=hqZ (λ W hW v hv=>by
            have h:=hW.swap.set (1+(16*(m+1)+i)) (bV v);rw [A4A] at h;have e:=A4L k HKK.o m i (by omega);rw [<-hv] at e;rw [e] at h;rw [show 1+(m+1)*16+i=1+(16*(m+1)+i) by omega];exact h.swap)
          clear hyo;by_cases h4:4<=i
          · obtain ⟨j,rfl⟩:∃j,i=j+4:=⟨i-4,by omega⟩
            have ej:((j+4:Nat):Int)=(j:Int)+4:=by omega
            have wj:bI.i64.wrap ((j:Int)+4-4)=(j:Int):=by rw [bI.wrap_i64]; omega
            have wj2:bI.i64.wrap ((j:Int)+4+1)=(j:Int)+4+1:=by rw [bI.wrap_i64]; omega
            have nj:((j:Int)+4).toNat=j+4:=by omega
            have hj0:decide ((4:Int)<=(j:Int)+4)=true:=by simp; omega
            have hj1:(((j:Int)+4)==0)=false:=by rw [beq_eq_false_iff_ne]; omega
            have j0:(0:Int)<=(j:Int):=by omega
            have j1:(j:Int)<16:=by omega
            have hd:decide ((j:Int)+4<16)=true:=by simp; omega
            obtain ⟨Y,hY⟩:∃Y,Y=(Kc (De k m) (Cm k m).2 (j+4)).getD j 0:=⟨_,rfl⟩
            have cY:wr.cell? ⟨p,1+(m+1)*16+j,none⟩=some (.int .u8 (Y.toNat:Int)):=by
              rw [hY,<-A4K k HKK.o m (j+4) j (by omega),show 1+(m+1)*16+j=1+(16*(m+1)+j) by omega];exact (HC.o.swap.blk0.cell _).trans (Vg (by rw [Rw k HKK.o m _ (by omega)]; omega))
            have HXY:Hq (xB X Y=Jr k m (j+4)):=hqZ (by
              rw [Jr,if_neg (by omega),if_pos (by omega),HX.o,hY]
              rfl)
            rw [ej] at i0 i1 ⊢;clear hY h4 ej;go_wp2_with fail;exact ⟨⟨j+4+1,by omega,by simp,HEND.o _ HC.o _ HXY.o⟩,by simp [intOf]; omega⟩
          · obtain ⟨YY,hYY⟩:∃Y,Y=(De k m).getD (12+(i+1) % 4) 0:=⟨_,rfl⟩
            obtain ⟨Z,hZ⟩:∃Z,Z=Ey.getD YY.toNat 0:=⟨_,rfl⟩
            have cYY:wr.cell? ⟨s,12+(i+1) % 4,none⟩=some (.int .u8 (YY.toNat:Int)):=by rw [hYY]; exact (HC.o.blk0.cell _).trans (Cu (by rw [J5 k HKK.o]; omega))
            have cP:wr.cell? ⟨p,0,none⟩=some (.pointer (some ⟨b,0,none⟩)):=HC.o.swap.blk0.cell 0;have cZ:wr.cell? ⟨b,YY.toNat,none⟩=some (.int .u8 (Z.toNat:Int)):=by rw [hZ]; exact (HC.o.pull3.blk0.cell _).trans (Cu (by rw [N7]; exact YY.toNat_lt))
            have hYl:(YY.toNat:Int)<256:=by have:=YY.toNat_lt; omega
            have hY0:(0:Int)<=(YY.toNat:Int):=by omega
            have HYY:=hqZ hYY;have HZ:=hqZ hZ;clear hYY hZ;have hi4:i=0\/i=1\/i=2\/i=3:=by omega
            clear h4;rcases hi4 with rfl | rfl | rfl | rfl
            · have e0:((0:Nat):Int)=0:=rfl;have HNX:Hq (xB (xB X Z) y=Jr k m 0):=hqZ (by rw [Jr,if_pos rfl,if_neg (by decide),HX.o,HZ.o,HYY.o,HY.o]);rw [e0] at i0 i1 ⊢;clear e0;simp only [Nat.add_zero] at cS fS HEND;go_wp2_with fail;go_quiet (fail);go_wp2_with fail;exact ⟨⟨1,by omega,rfl,HEND.o _ (HC.o.drewN _) _ HNX.o⟩,by simp [intOf]⟩
            · have e0:((1:Nat):Int)=1:=rfl;have HNX:Hq (xB X Z=Jr k m 1):=hqZ (by rw [Jr,if_neg (by decide),if_neg (by decide),HX.o,HZ.o,HYY.o]);rw [e0] at i0 i1 ⊢;clear e0;go_wp2_with fail;go_quiet (fail);go_wp2_with fail;exact ⟨⟨2,by omega,rfl,HEND.o _ (HC.o.drewN _) _ HNX.o⟩,by simp [intOf]⟩
            · have e0:((2:Nat):Int)=2:=rfl;have HNX:Hq (xB X Z=Jr k m 2):=hqZ (by rw [Jr,if_neg (by decide),if_neg (by decide),HX.o,HZ.o,HYY.o]);rw [e0] at i0 i1 ⊢;clear e0;go_wp2_with fail;go_quiet (fail);go_wp2_with fail;exact ⟨⟨3,by omega,rfl,HEND.o _ (HC.o.drewN _) _ HNX.o⟩,by simp [intOf]⟩
            · have e0:((3:Nat):Int)=3:=rfl;have HNX:Hq (xB X Z=Jr k m 3):=hqZ (by rw [Jr,if_neg (by decide),if_neg (by decide),HX.o,HZ.o,HYY.o]);rw [e0] at i0 i1 ⊢;clear e0;go_wp2_with fail;go_quiet (fail);go_wp2_with fail;exact ⟨⟨4,by omega,rfl,HEND.o _ (HC.o.drewN _) _ HNX.o⟩,by simp [intOf]⟩
        · obtain rfl:i=16:=by omega
          have e16:(((16:Nat):Int)<16)=False:=by simp
          rw [A3A] at HC;go_wp2_with (go_at_call 162; refine (Ia _ _).mono ?_; rintro e w' ⟨rfl,rfl⟩; unfold bV);refine ⟨⟨m+1,by omega,by simp,?_,HC.o.tail⟩,by simp [intOf]; omega⟩;rw [HY.o];rfl
    · obtain rfl:m=10:=by omega
      go_wp2_with fail;go_ret;have e:kkM k 10 0=Fa k 10:=by simp [kkM,Kc]
      have h:=HC.o;rw [e] at h;exact ⟨p,b,rfl,Ac.app.2 h⟩
def E5 (f:Nat->UInt8) (old:List UInt8) (i:Nat):List UInt8:=(aN i).map f++old.drop i
theorem Me (f:Nat->UInt8) (old:List UInt8):E5 f old 0=old:=by simp [E5]
theorem Lw {f:Nat->UInt8} {old:List UInt8} {i:Nat} (h:old.length=16) (hi:i<=16):(E5 f old i).length=16:=by simp [E5,h]; omega
theorem Pb {f:Nat->UInt8} {old:List UInt8} (h:old.length=16):E5 f old 16=(aN 16).map f:=by
  rw [E5,aK (by omega),aW]
theorem S8 {f:Nat->UInt8} {old:List UInt8} {i:Nat} (h:old.length=16) (hi:i<16):(E5 f old i).set i (f i)=E5 f old (i+1):=by
  obtain ⟨x,hx⟩:∃x,old.drop i=x::old.drop (i+1):=⟨_,aX (by omega)⟩
  rw [E5,aH _ _ (by simp),hx,E5,aY];simp
theorem A0c {f:Nat->UInt8} {old:List UInt8} {i j:Nat} (hi:i<=j):(E5 f old i).getD j 0=old.getD j 0:=by
  rw [E5,aC,aF (by simpa using hi),aC,List.getElem?_drop];simp;rw [show i+(j-i)=j by omega]
theorem A3m:∀(L:List (List UInt8)),(∀x∈L,x.length=16)->∀(n j:Nat),j<16->L.flatten.getD (16*n+j) 0=(L.getD n []).getD j 0
  | [],_,n,j,_=>by simp
  | x::L,h,0,j,hj=>by
    have hx:=h x (by simp);rw [aO,aC,aS (by omega),List.getD_cons_zero,aC,aZ,aP]
  | x::L,h,n+1,j,hj=>by
    have hx:=h x (by simp);rw [aO,aC,aF (by omega),List.getD_cons_succ,<-A3m L (λ y hy=>h y (by simp [hy])) n j hj,aC,show 16*(n+1)+j-x.length=16*n+j by omega]
theorem Sk (k:List UInt8) (hk:k.length=16):∀(m:Nat),∀x∈(Cm k m).1,x.length=16
  | 0,x,hx=>by simp [Cm] at hx; rw [hx]; exact hk
  | m+1,x,hx=>by
    rw [Cm] at hx;rcases List.mem_append.1 hx with h | h
    · exact Sk k hk m x h
    · rw [List.mem_singleton.1 h,Fu]
theorem A1W (k:List UInt8) (hk:k.length=16) (n j:Nat) (hj:j<16):(Fa k 10).getD (16*n+j) 0=((M6 k).getD n []).getD j 0:=A3m _ (Sk k hk 10) n j hj
def z16:List UInt8:=aJ 16 0
def A0P (s:List UInt8):Nat->List UInt8
  | 0=>s
  | n+1=>Vu (A0P s n) (4*n)
theorem Pz (s:List UInt8) (n:Nat):(A0P s n).length=s.length:=by
  induction n with
  | zero=>rfl
  | succ n ih=>rw [A0P,Yq,ih]
theorem Lt (s:List UInt8):(T4 s).length=16:=by simp [T4]
def tB (n:Nat) (s:List UInt8):List UInt8:=if n<10 then A0P (T4 s) 4 else T4 s
theorem A2D (n:Nat) (s:List UInt8):(tB n s).length=16:=by
  unfold tB;split
  · rw [Pz,Lt]
  · exact Lt s
theorem A2z (ks:List (List UInt8)) (n:Nat) (s:List UInt8):Sm ks n s=A4n (tB n s) (ks.getD n []):=rfl
theorem Lp (ks:List (List UInt8)) (s:List UInt8) (n:Nat):(Gd ks s n).length=16:=by
  cases n <;> simp [Gd,Sm,Qj]
theorem U6 (p b:Nat) (k s:List UInt8) (l:List Res) (w:bG) (h:Ac w (Tq p b (Fa k 10)::l)) (hk:k.length=16) (hs:s.length=16): bH aA 163 #[.pointer (some ⟨p,0,none⟩),.agg (Ab s).toArray] w λ e w'=>e=.returned (.agg (Ab (Kz k s)).toArray)/\Ac w' (Tq p b (Fa k 10)::l):=by
  have HKK:=hqZ hk;have HSS:=hqZ hs;have HS1:Hq ((Ab s).length=16):=hqZ (by rw [Aa,hs]);have HC0:=hqZ ((((Ac.app.1 h:Ac w (.blk p (cph b (Fa k 10)) 320::.blk b (Ab Ey) 326::l)).addBlkAt (Ab s) 34 (b:=w.heap.size) rfl).addBlkAt A3 34 (b:=w.heap.size+1) (by simp)));have HC:=hqZ (HC0.o.addBlkAt A3 34 (b:=w.heap.size+1+1) (by simp));have hx:=u8x;have hk0:(Fa k 10).length=176:=Ha k hk 10;have HKL:=hqZ hk0;clear h hk hs hk0;go_enter Tryz.func163,Tryz.ntmps163;go_wp2_with (first | ((with_reducible refine zw 12 ?_);refine Ah rfl (.tmp 3) Jb rfl rfl (cs:=Ab s) HS1.o HC0.o.swap.blk0.cellsAll ?_) | ((with_reducible refine zws 5 12 ?_);refine Af rfl (.tmp 5) (.tmp 12) Jb rfl rfl (vs:=Ab s) rfl HS1.o HC.o.blk0 (aE _) (Aj _) ?_));intro w1 h1 k1;have HC:=hqZ ((HC.o.stW (vs:=Ab s) h1 k1 rfl).pull3.tail.p4 [0,2,3,1]);clear h1 k1 HC0;go_wp2_with fail;go_loopw [13] (λ vi wr=>∃i:Nat,i<=16/\vi=.int .i64 i/\Ac wr (.blk (w.heap.size+1+1) (Ab (E5 (λ i=>xB (s.getD i 0) (((M6 k).getD 0 []).getD i 0)) s i)) 34::.blk p (cph b (Fa k 10)) 320::.blk b (Ab Ey) 326::.blk (w.heap.size+1) A3 34::l)) (λ vi _=>16- (intOf vi).toNat)
  case atStart=>exact ⟨0,by omega,rfl,by rw [Me]; exact HC.o⟩
  case round=>
    obtain ⟨i,hi,rfl,hc⟩:=hrel;have HC:=hqZ hc;clear hc;obtain ⟨f1,hf1⟩:∃f1:Nat->UInt8,f1=(λ i=>xB (s.getD i 0) (((M6 k).getD 0 []).getD i 0)):=⟨_,rfl⟩
    have HF1:=hqZ hf1;rw [<-hf1] at HC;by_cases hi16:i<16
    · have i0:(0:Int)<=(i:Int):=by omega
      have i1:(i:Int)<16:=by omega
      have hd:decide ((i:Int)<16)=true:=by simp; omega
      obtain ⟨X,hX⟩:∃X,X=s.getD i 0:=⟨_,rfl⟩
      obtain ⟨Y,hY⟩:∃Y,Y=((M6 k).getD 0 []).getD i 0:=⟨_,rfl⟩
      have cX:wr.cell? ⟨w.heap.size+1+1,i,none⟩=some (.int .u8 (X.toNat:Int)):=by
        rw [hX,<-A0c (f:=f1) (aE i)];exact (HC.o.blk0.cell i).trans (Cu (by rw [Lw HSS.o (by omega)]; omega))
      have fX:=HC.o.blk0.frozen i;have lX:=HC.o.blk0.lt;have cY:wr.cell? ⟨p,1+i,none⟩=some (.int .u8 (Y.toNat:Int)):=by
        have e:=A1W k HKK.o 0 i hi16;rw [aZ,aP] at e;rw [hY,<-e];exact (HC.o.swap.blk0.cell _).trans (Vg (by rw [HKL.o]; omega))
      have HXY:Hq (xB X Y=f1 i):=hqZ (by rw [hX,hY,hf1]);clear hX hY hf1 hi16;go_wp2_with fail;have cYS:(wr.drew.setCell ⟨w.heap.size+1+1,i,none⟩ (.int .u8 ((xB X Y).toNat:Int))).cell? ⟨p,1+i,none⟩=some (.int .u8 (Y.toNat:Int)):=by
        have h:=HC.o.drew.set i (.int .u8 ((xB X Y).toNat:Int));rw [<-cY];exact (h.swap.blk0.cell _).trans (HC.o.swap.blk0.cell _).symm
      refine Ev [12] (λ b W=>W.cell? ⟨p,1+i,none⟩=some (.int .u8 (Y.toNat:Int))/\(b= [false]->W.cell? ⟨w.heap.size+1+1,i,none⟩=some (.int .u8 (X.toNat:Int)))) (by kernel_rfl) ?_;refine zT 0 ?_ (hS:=⟨cY,λ _=>cX⟩);refine zT 1 ?_ (hS:=⟨cY,λ _=>cX⟩);refine zTk 2 [12] ?_ (hr:=λ l W hk hW=>by have c:=hW.2 (W3 hk); go_simp; try rfl) (hS:=⟨cY,λ _=>cX⟩);refine zT 3 ?_ (hS:=⟨cY,λ _=>cX⟩);refine zT 4 ?_ (hS:=⟨cY,λ _=>cX⟩);refine zT 5 ?_ (hS:=⟨cY,λ _=>cX⟩);refine zT 6 ?_ (hS:=⟨cY,λ _=>cX⟩);refine zT 7 ?_ (hS:=⟨cY,λ _=>cX⟩);refine zT 8 ?_ (hS:=⟨cY,λ _=>cX⟩);refine zT 9 ?_ (hS:=⟨cY,λ _=>cX⟩);refine zT 10 ?_ (hS:=⟨cY,λ _=>cX⟩);refine zT 11 ?_ (hS:=⟨cY,λ _=>cX⟩);refine zJ 12 λ K hK=>?_
      go_simp;refine hK _ _ ⟨cYS,λ h=>by simp [D3] at h⟩ ?_;clear hK K;try go_frame
      refine zD ?_;go_wp2_with fail;have hs:=HC.o.set i (bV (xB X Y));rw [B5,HXY.o,S8 HSS.o (by omega),<-HXY.o,HF1.o] at hs;exact ⟨⟨i+1,by omega,by simp,hs.drew⟩,by simp [intOf]; omega⟩
    · obtain rfl:i=16:=by omega
      have e:E5 f1 s 16=Gd (M6 k) s 0:=by rw [Pb HSS.o,hf1]; rfl
      rw [e] at HC;clear hf1 e;go_wp2_with fail;go_loopw [7] (λ vn wr=>∃n:Nat,n<=10/\vn=.int .i64 ((n:Int)+1)/\Ac wr (.blk (w.heap.size+1+1) (Ab (Gd (M6 k) s n)) 34::.blk p (cph b (Fa k 10)) 320::.blk b (Ab Ey) 326::.blk (w.heap.size+1) A3 34::l)) (λ vn _=>11- (intOf vn).toNat)
      case atStart=>exact ⟨0,by omega,rfl,HC.o⟩
      case round=>
        obtain ⟨n,hn,rfl,hc⟩:=hrel;have HC:=hqZ hc;clear hc;by_cases hn10:n<10
        · have hd:decide ((n:Int)+1<11)=true:=by simp; omega
          obtain ⟨S,hS⟩:∃S,S=Gd (M6 k) s n:=⟨_,rfl⟩
          have HSE:=hqZ hS;have HSL:Hq (S.length=16):=hqZ (by rw [hS]; exact Lp _ _ _);rw [<-hS] at HC;clear hS;obtain ⟨T,hT⟩:∃T,wr.heap.size=T:=⟨_,rfl⟩
          have HC:=hqZ (HC.o.addBlkAt A3 34 hT);go_wp2_with fail;clear hT hd;go_loopw [33] (λ vi wr=>∃i:Nat,i<=16/\vi=.int .i64 i/\Ac wr (.blk T (Ab (E5 (λ i=>Ey.getD (S.getD ((i+4*(i % 4)) % 16) 0).toNat 0) z16 i)) 34::.blk (w.heap.size+1+1) (Ab S) 34::.blk p (cph b (Fa k 10)) 320::.blk b (Ab Ey) 326::.blk (w.heap.size+1) A3 34::l)) (λ vi _=>16- (intOf vi).toNat)
          case atStart=>exact ⟨0,by omega,rfl,by rw [Me]; exact HC.o⟩
          case round=>
            obtain ⟨i,hi,rfl,hc⟩:=hrel;have HC:=hqZ hc;clear hc;obtain ⟨f2,hf2⟩:∃f2:Nat->UInt8,f2=(λ i=>Ey.getD (S.getD ((i+4*(i % 4)) % 16) 0).toNat 0):=⟨_,rfl⟩
            have HF2:=hqZ hf2;rw [<-hf2] at HC;by_cases hi16:i<16
            · have i0:(0:Int)<=(i:Int):=by omega
              have i1:(i:Int)<16:=by omega
              have hd:decide ((i:Int)<16)=true:=by simp; omega
              have a1:bI.i64.wrap (4*((i:Int) % 4))=4*((i:Int) % 4):=by rw [bI.wrap_i64]; omega
              have a2:bI.i64.wrap ((i:Int)+4*((i:Int) % 4))=(i:Int)+4*((i:Int) % 4):=by rw [bI.wrap_i64]; omega
              have a3:(0:Int)<=((i:Int)+4*((i:Int) % 4)) % 16:=by omega
              have a4:((i:Int)+4*((i:Int) % 4)) % 16<16:=by omega
              have a5:(((i:Int)+4*((i:Int) % 4)) % 16).toNat=(i+4*(i % 4)) % 16:=by omega
              have a0:(i:Int).tmod 4=(i:Int) % 4:=Int.tmod_eq_emod_of_nonneg i0;have a6:((i:Int)+4*((i:Int) % 4)).tmod 16=((i:Int)+4*((i:Int) % 4)) % 16:=Int.tmod_eq_emod_of_nonneg (by omega);obtain ⟨X,hX⟩:∃X,X=S.getD ((i+4*(i % 4)) % 16) 0:=⟨_,rfl⟩
              obtain ⟨Y,hY⟩:∃Y,Y=Ey.getD X.toNat 0:=⟨_,rfl⟩
              have HY:Hq (Y=f2 i):=hqZ (by rw [hY,hX,hf2]);have cX:wr.cell? ⟨w.heap.size+1+1,(i+4*(i % 4)) % 16,none⟩=some (.int .u8 (X.toNat:Int)):=by
                rw [hX];exact (HC.o.swap.blk0.cell _).trans (Cu (by rw [HSL.o]; omega))
              have cP:wr.cell? ⟨p,0,none⟩=some (.pointer (some ⟨b,0,none⟩)):=HC.o.pull3.blk0.cell 0;have cY:wr.cell? ⟨b,X.toNat,none⟩=some (.int .u8 (Y.toNat:Int)):=by
                rw [hY];exact (HC.o.pull4.blk0.cell _).trans (Cu (by rw [N7]; exact X.toNat_lt))
              obtain ⟨yo,hyo⟩:=Do (l:=E5 f2 z16 i) (i:=i) (by rw [Lw rfl (by omega)]; omega);have cT:=(HC.o.blk0.cell i).trans hyo;have fT:=HC.o.blk0.frozen i;have lT:=HC.o.blk0.lt;have x1:(X.toNat:Int)<256:=by have:=X.toNat_lt; omega
              have x0:(0:Int)<=(X.toNat:Int):=by omega
              clear hX hY hf2 hi16 hyo;go_wp2_with fail;refine wp_region_still_tail 16 (by kernel_rfl) (by kernel_rfl) ?_;simp only [bA,bB,aM,bC];change wpStill _ _ wr.drew _ _ _
              repeat still_step
              refine wpStill_nil ?_;change wpList _ _ _ _ _ wr.drew;go_wp2_with fail;have hs:=HC.o.set i (bV Y);rw [B5,HY.o,S8 rfl (by omega),<-HY.o,HF2.o] at hs;refine ⟨⟨_,_,_,_,_,_,_,_,_,_,_,_,_,_,_,_,_,_,_,_,_,_,⟨i+1,by omega,?_,hs.drew⟩,rfl⟩,by simp [intOf]; omega⟩;simp
            · obtain rfl:i=16:=by omega
              have e:E5 f2 z16 16=T4 S:=by rw [Pb rfl,hf2]; rfl
              rw [e] at HC;clear hf2 e;go_wp2_with fail;go_loopw [10] (λ va wr=>∃j:Nat,j<=4/\(n<9\/j=0)/\va=.int .i64 (4*(j:Int))/\Ac wr (.blk T (Ab (A0P (T4 S) j)) 34::.blk (w.heap.size+1+1) (Ab S) 34::.blk p (cph b (Fa k 10)) 320::.blk b (Ab Ey) 326::.blk (w.heap.size+1) A3 34::l)) (λ va _=>16- (intOf va).toNat)
              case atStart=>exact ⟨0,by omega,.inr rfl,rfl,HC.o⟩
              case round=>
                obtain ⟨j,hj,hjn,rfl,hc⟩:=hrel;have HC:=hqZ hc;clear hc;by_cases hgo:n<9/\j<4
                · have hd1:decide (4*(j:Int)<16)=true:=by simp; omega
                  have hd2:decide ((n:Int)+1<10)=true:=by simp; omega
                  have hw:bI.i64.wrap (4*(j:Int)+4)=4*(j:Int)+4:=by rw [bI.wrap_i64]; omega
                  have hmx:=A4S T (A0P (T4 S) j) (4*j) _ wr HC.o (by rw [Pz,Lt]) (by omega);rw [show ((4*j:Nat):Int)=4*(j:Int) by omega] at hmx;have HMX:=hqZ hmx;have HGO:=hqZ hgo;clear hmx hgo hjn;go_wp2_with fail;refine HMX.o.mono ?_;rintro e w2 ⟨rfl,hc⟩;have HC:=hqZ hc;clear hc HMX;go_wp2_with fail;refine ⟨⟨_,_,_,_,_,_,_,_,_,_,_,⟨j+1,by have:=HGO.o; omega,.inl HGO.o.1,?_,HC.o⟩,rfl⟩,by have:=HGO.o; simp [intOf]; omega⟩;congr 1
                · have HT:Hq (A0P (T4 S) j=tB (n+1) S):=hqZ (by
                    unfold tB;by_cases h9:n<9
                    · rw [if_pos (by omega),show j=4 by omega]
                    · rw [if_neg (by omega),show j=0 by omega]
                      rfl)
                  rw [HT.o] at HC;have hex:(decide (4*(j:Int)<16)=false)\/(decide (4*(j:Int)<16)=true/\decide ((n:Int)+1<10)=false):=by
                    by_cases h9:n<9
                    · left; simp; omega
                    · right; constructor <;> simp <;> omega
                  obtain ⟨Tb,hTb⟩:∃Tb,Tb=tB (n+1) S:=⟨_,rfl⟩
                  have HTE:=hqZ hTb;have HTL:Hq (Tb.length=16):=hqZ (by rw [hTb]; exact A2D _ _);rw [<-hTb] at HC;clear hgo hjn hTb HT;rcases hex with hd1 | ⟨hd1,hd2⟩
                  all_goals
                    go_wp2_with fail;go_loopw [64] (λ vi wr=>∃i:Nat,i<=16/\vi=.int .i64 i/\Ac wr (.blk T (Ab (Tb)) 34::.blk (w.heap.size+1+1) (Ab (E5 (λ i=>xB (Tb.getD i 0) (((M6 k).getD (n+1) []).getD i 0)) S i)) 34::.blk p (cph b (Fa k 10)) 320::.blk b (Ab Ey) 326::.blk (w.heap.size+1) A3 34::l)) (λ vi _=>16- (intOf vi).toNat)
                    case atStart=>exact ⟨0,by omega,rfl,by rw [Me]; exact HC.o⟩
                    case round=>
                      obtain ⟨i,hi,rfl,hc⟩:=hrel;have HC:=hqZ hc;clear hc;obtain ⟨f3,hf3⟩:∃f3:Nat->UInt8,f3=(λ i=>xB (Tb.getD i 0) (((M6 k).getD (n+1) []).getD i 0)):=⟨_,rfl⟩
                      have HF3:=hqZ hf3;rw [<-hf3] at HC;by_cases hi16:i<16
                      · have i0:(0:Int)<=(i:Int):=by omega
                        have i1:(i:Int)<16:=by omega
                        have hd:decide ((i:Int)<16)=true:=by simp; omega
                        have m2:(0:Int)<=(n:Int)+1:=by omega
                        have m3:(n:Int)+1<11:=by omega
                        have m4:((n:Int)+1).toNat=n+1:=by omega
                        obtain ⟨X,hX⟩:∃X,X=Tb.getD i 0:=⟨_,rfl⟩
                        obtain ⟨Y,hY⟩:∃Y,Y=((M6 k).getD (n+1) []).getD i 0:=⟨_,rfl⟩
                        have HXY:Hq (xB X Y=f3 i):=hqZ (by rw [hX,hY,hf3]);have cX:wr.cell? ⟨T,i,none⟩=some (.int .u8 (X.toNat:Int)):=by
                          rw [hX];exact (HC.o.blk0.cell i).trans (Cu (by rw [HTL.o]; omega))
                        have cY:wr.cell? ⟨p,1+(n+1)*16+i,none⟩=some (.int .u8 (Y.toNat:Int)):=by
                          rw [hY,<-A1W k HKK.o (n+1) i hi16,show 1+(n+1)*16+i=1+(16*(n+1)+i) by omega];exact (HC.o.pull3.blk0.cell _).trans (Vg (by rw [HKL.o]; omega))
                        obtain ⟨yo,hyo⟩:=Do (l:=E5 f3 S i) (i:=i) (by rw [Lw HSL.o (by omega)]; omega);have cT:=(HC.o.swap.blk0.cell i).trans hyo;have fT:=HC.o.swap.blk0.frozen i;have lT:=HC.o.swap.blk0.lt;clear hX hY hf3 hi16 hyo;go_wp2_with fail;refine wp_region_still_tail 13 (by kernel_rfl) (by kernel_rfl) ?_;simp only [bA,bB,aM,bC];change wpStill _ _ wr.drew _ _ _
                        repeat still_step
                        refine wpStill_nil ?_;change wpList _ _ _ _ _ wr.drew;go_wp2_with fail;have hs:=HC.o.swap.set i (bV (xB X Y));rw [B5,HXY.o,S8 HSL.o (by omega),<-HXY.o,HF3.o] at hs;refine ⟨⟨_,_,_,_,_,_,_,_,_,_,_,_,_,_,_,_,_,_,_,⟨i+1,by omega,?_,hs.drew.swap⟩,rfl⟩,by simp [intOf]; omega⟩;simp
                      · obtain rfl:i=16:=by omega
                        have e:E5 f3 S 16=Gd (M6 k) s (n+1):=by
                          rw [Pb HSL.o,hf3,HTE.o];show _=Sm (M6 k) (n+1) (Gd (M6 k) s n)
                          rw [A2z,<-HSE.o];rfl
                        rw [e] at HC;have hd:=HC.o.tail;clear hf3 e;go_wp2_with fail;exact ⟨⟨n+1,by omega,by simp,hd⟩,by simp [intOf]; omega⟩
        · obtain rfl:n=10:=by omega
          obtain ⟨O,hO⟩:∃O,O=Gd (M6 k) s 10:=⟨_,rfl⟩
          have HO:Hq (O=Kz k s):=hqZ hO;have HOL:Hq ((Ab O).length=16):=hqZ (by rw [Aa,hO]; exact Lp _ _ _);rw [<-hO] at HC;have hd:decide (((10:Nat):Int)+1<11)=false:=rfl;have HF:=hqZ (HC.o.zP [3]);clear hO;go_wp2_with (first | ((with_reducible refine zw 82 ?_);refine Ah rfl (.tmp 5) Jb rfl rfl (cs:=Ab O) HOL.o HC.o.blk0.cellsAll ?_) | ((with_reducible refine zws 4 82 ?_);refine Af rfl (.tmp 4) (.tmp 82) Jb rfl rfl (vs:=Ab O) rfl HOL.o HF.o.blk0 (aE _) (Aj _) ?_));intro w9 h9 k9;have HF:=hqZ (HF.o.stW (vs:=Ab O) h9 k9 rfl);clear h9 k9;go_wp2_with fail;rw [<-HO.o];exact bodyPost_ret (Aw rfl Jb rfl (cs:=Ab O) HOL.o HF.o.blk0.cellsAll) rfl ⟨rfl,Ac.app.2 HF.o.tail.tail⟩
theorem Ac.ownSet {W:bG} {l:List Res} {e:TypeId} {g cap n:Nat} {cs:List bF} (h:Ac W (.own e 1 (.slice (some ⟨g,0,none⟩) n cap) n cs::l)) (hn:0<n) (i:Nat) (u:bF) (hu:u.oneCell'=true): Ac (W.setCell ⟨g,i,none⟩ u) (.own e 1 (.slice (some ⟨g,0,none⟩) n cap) n (cs.set i u)::l):=
  h.turn λ F hF=>⟨F,⟨hF.1.set hn i u hu,λ b hb=>by have:=hF.2.1 b hb; simpa [bG.setCell] using this,hF.2.2⟩,λ b hb=>.inl hb,(Ai.one W g i u).mono λ k hk=>.inl ((hF.2.2 k).2 (by rw [hk]; rfl))⟩
theorem Ac.ownBSet {W:bG} {l:List Res} {g cap n:Nat} {b:List UInt8} (h:Ac W (.ownB (.slice (some ⟨g,0,none⟩) n cap) b::l)) (hn:b.length=n) (h0:0<n) (i:Nat) (x:UInt8): Ac (W.setCell ⟨g,i,none⟩ (bV x)) (.ownB (.slice (some ⟨g,0,none⟩) n cap) (b.set i x)::l):=by
  subst hn;have h2:Ac W (.own 5 1 (.slice (some ⟨g,0,none⟩) b.length cap) b.length (Ab b)::l):=h;have h3:=h2.ownSet h0 i (bV x) rfl;rw [B5] at h3;have e:(b.set i x).length=b.length:=aI;show Ac _ (.own 5 1 _ (b.set i x).length (Ab (b.set i x))::l)
  rw [e];exact h3
theorem A2F {f:Nat->UInt8} {old:List UInt8} {i:Nat} (hi:i<old.length):(E5 f old i).set i (f i)=E5 f old (i+1):=by
  obtain ⟨x,hx⟩:∃x,old.drop i=x::old.drop (i+1):=⟨_,aX (by omega)⟩
  rw [E5,aH _ _ (by simp),hx,E5,aY];simp
theorem Wi {f:Nat->UInt8} {old:List UInt8} {i:Nat} (hi:i<=old.length):(E5 f old i).length=old.length:=by simp [E5]; omega
theorem A2M (a p:List UInt8) (hp:a.length<=p.length):aQ (λ x y=>x ^^^ y) a p=(aN a.length).map λ i=>xB (a.getD i 0) (p.getD i 0):=by
  apply List.ext_getElem
  · simp; omega
  · intro i h1 h2;simp at h1 h2 ⊢;simp [xB,h1,h2,show i<p.length by omega]
theorem A5w (rest pad:List UInt8) (hp:pad.length=16):E5 (λ i=>xB (rest.getD i 0) (pad.getD i 0)) rest (min 16 rest.length)=aQ (λ x y=>x ^^^ y) (rest.take 16) pad++rest.drop 16:=by
  rw [E5,A2M _ _ (by rw [bD,hp]; omega),bD];congr 1
  · apply List.map_congr_left;intro i hi;have hi:=List.mem_range.1 hi;simp [aC,List.getElem?_take,show i<16 by omega]
  · by_cases h:rest.length<=16
    · rw [Nat.min_eq_right h,aK (aE _),aK h]
    · rw [Nat.min_eq_left (by omega)]
def aB (x:UInt8):UInt8:=x+1
theorem u8a (x:UInt8):((x.toNat:Int)+1) % 256=((aB x).toNat:Int):=by
  rw [aB,UInt8.toNat_add];simp
theorem Nv (f:List UInt8) (n:Nat):(Ik f n).length=f.length:=by
  induction n generalizing f with
  | zero=>rfl
  | succ n ih=>
    rw [Ik];split
    · rw [ih,aI]
    · rw [aI]
theorem Mj (p b:Nat) (k fr body:List UInt8) (v:bF) (l:List Res) (w:bG) (h:Ac w (Tq p b (Fa k 10)::l)) (hk:k.length=16) (hf:fr.length=16) (hv:Bs w v body) (hbl:body.length<=1000000): bH aA 154 #[.pointer (some ⟨p,0,none⟩),.agg (Ab fr).toArray,v] w λ e w'=>∃x,e=.returned x/\Ac w' (.row x (E4 k fr body)::l):=by
  have HKK:=hqZ hk;have HFL:=hqZ hf;have HBL:=hqZ hbl;have HV:Hq (Bs (w.alloc (.cells (Ab fr).toArray 34)) v body):=hqZ (hv.alloc _);obtain ⟨va,vc,rfl,hvc,hvm⟩:=hv.form;have HC:=hqZ (h.addBlkAt (Ab fr) 34 (b:=w.heap.size) rfl);have hx:=u8x;unfold maxLen at hvm;clear h hk hf hv;go_enter Tryz.func154,Tryz.ntmps154;go_wp2_with ((with_reducible refine zw 13 ?_);refine Df rfl (.const (.slice none 0 0)) (.tmp 12) Cl rfl 0 (Own.nil _ _ _ _ _) (λ b hb=>by simp [Act.eval,bF.ownBlock] at hb) HV.o (by unfold maxLen; omega) (by omega) (Nat.zero_le _) ?_);intro v1 w1 ho hk1 hv1;have ho:B6 w1 0 v1 body:=by unfold B6; simpa using ho
  have hb1:Below (w.alloc (.cells (Ab fr).toArray 34)).heap.size (w.alloc (.cells (Ab fr).toArray 34)) w1:=hk1.below (by
    rintro i (h | h)
    · simp [bF.ownBlock] at h
    · simpa using h)
  have HC:=hqZ (HC.o.addOwnB hb1 ho (λ i hi=>⟨by
    rcases (hv1 i hi).1 with h | h
    · simp [bF.ownBlock] at h
    · simpa using h,(hv1 i hi).2⟩))
  obtain ⟨oa,oc,rfl,hoc,hom⟩:=ho.sl.form;unfold maxLen at hom;clear ho hk1 hv1 hb1 HV;go_wp2_with fail;go_loopw [8] (λ va wr=>∃(A:Nat) (D fm rest:List UInt8) (n:Nat),va=.int .i64 A/\(D++rest).length=body.length/\(rest= []/\body.length<=A\/A=D.length)/\A<=body.length+16/\E4 k fr body=D++Cf k n fm rest/\rest.length<=n/\fm.length=16/\
    Ac wr (.ownB (.slice oa body.length oc) (D++rest)::.blk w.heap.size (Ab fm) 34::Tq p b (Fa k 10)::l)) (λ va _=>body.length+16- (intOf va).toNat)
  case atStart=>exact ⟨0, [],fr,body,body.length,rfl,rfl,.inr rfl,by omega,rfl,aE _,HFL.o,HC.o⟩
  case round=>
    obtain ⟨A,D,fm,rest,n,rfl,hlen,hA,hAle,hst,hrn,hfm,hc⟩:=hrel;have HC:=hqZ hc;clear hc;by_cases hlt:A<body.length
    · have hAD:A=D.length:=by rcases hA with ⟨_,h⟩ | h <;> omega
      have hrp:0<rest.length:=by rw [aD] at hlen; omega
      obtain ⟨n,rfl⟩:∃m,n=m+1:=⟨n-1,by omega⟩
      have HLEN:=hqZ hlen;have HAD:=hqZ hAD;have HST:=hqZ hst;have HFM:=hqZ hfm;have HFB:Hq ((Ab fm).length=16):=hqZ (by rw [Aa,hfm]);obtain ⟨pad,hpad⟩:∃x,x=Kz k fm:=⟨_,rfl⟩
      have HPD:=hqZ hpad;have HPL:Hq (pad.length=16):=hqZ (by rw [hpad]; exact Fc _ _);have HPB:Hq ((Ab pad).length=16):=hqZ (by rw [Aa]; exact HPL.o);have hbk:=U6 p b k fm _ wr HC.o.pull3 HKK.o hfm;rw [<-hpad] at hbk;have HBK:=hqZ hbk;have hd:decide ((A:Int)< (body.length:Int))=true:=by simp; omega
      clear hbk hpad hlen hA hst hfm hAD;go_wp2_with ((with_reducible refine zw 21 ?_);refine Ah rfl (.tmp 4) Jb rfl rfl (cs:=Ab fm) HFB.o HC.o.swap.blk0.cellsAll ?_);refine HBK.o.mono ?_;rintro e w2 ⟨rfl,hc⟩;obtain ⟨T,hT⟩:∃T,w2.heap.size=T:=⟨_,rfl⟩
      have HC:=hqZ (hc.addBlkAt A3 34 hT);clear hc HBK;go_wp2_with ((with_reducible refine zws 9 22 ?_);refine Af rfl (.tmp 9) (.tmp 22) Jb rfl rfl (vs:=Ab pad) rfl HPB.o HC.o.blk0 (aE _) (Aj _) ?_);intro w3 h3 k3;have HC:=hqZ (HC.o.stW (vs:=Ab pad) h3 k3 rfl).pull3;clear h3 k3 hT;go_wp2_with fail;obtain ⟨e,he⟩:∃e,e=min 16 rest.length:=⟨_,rfl⟩
      have HE:=hqZ he;have heA:A+e<=body.length:=by have:=HLEN.o; have:=HAD.o; rw [aD] at*; omega
      have hmn:(if (body.length:Int)< (A:Int)+16 then (body.length:Int) else (A:Int)+16)=(A:Int)+(e:Int):=by
        have:=HLEN.o
        have:=HAD.o;rw [aD] at*;split <;> omega
      have he16:e<=16:=by omega
      have her:e<=rest.length:=by omega
      clear he;go_loopw [10] (λ vi wr=>∃j:Nat,j<=e/\vi=.int .i64 ((A:Int)+(j:Int))/\Ac wr (.ownB (.slice oa body.length oc) (D++E5 (λ i=>xB (rest.getD i 0) (pad.getD i 0)) rest j)::.blk T (Ab pad) 34::Tq p b (Fa k 10)::.blk w.heap.size (Ab fm) 34::l)) (λ vi _=>body.length+32- (intOf vi).toNat)
      case atStart=>exact ⟨0,by omega,by simp,by rw [Me]; exact HC.o⟩
      case round=>
        obtain ⟨j,hj,rfl,hc⟩:=hrel;have HC:=hqZ hc;clear hc;obtain ⟨f4,hf4⟩:∃f4:Nat->UInt8,f4=(λ i=>xB (rest.getD i 0) (pad.getD i 0)):=⟨_,rfl⟩
        have HF4:=hqZ hf4;rw [<-hf4] at HC;clear hf4;by_cases hj2:j<e
        · have s1:bI.i64.wrap ((A:Int)+16)=(A:Int)+16:=by rw [bI.wrap_i64]; omega
          have s2:bI.i64.wrap (j:Int)=(j:Int):=by rw [bI.wrap_i64]; omega
          have s3:bI.i64.wrap ((A:Int)+(j:Int)- (A:Int))=(j:Int):=by rw [bI.wrap_i64]; omega
          have s4:bI.i64.wrap ((A:Int)+(j:Int)+1)=(A:Int)+(j:Int)+1:=by rw [bI.wrap_i64]; omega
          have s5:(0:Int)<=(A:Int)+(j:Int):=by omega
          have s6:(A:Int)+(j:Int)< (body.length:Int):=by omega
          have s7:((A:Int)+(j:Int)).toNat=A+j:=by omega
          have s8:(0:Int)<=(j:Int):=by omega
          have s9:(j:Int)<16:=by omega
          have hul:(E5 f4 rest j).length=rest.length:=Wi (by omega);have hDl:(D++E5 f4 rest j).length=body.length:=by have:=HLEN.o; rw [aD] at*; omega
          have hown:=HC.o.ownBOf (v:=.slice oa body.length oc) (b:=D++E5 f4 rest j) (by simp);obtain ⟨g,cap,cur,hge,hq1,hq2,hq3,hq4,hq5,hq6⟩:=Own.form' hown.1 (by omega);simp only [bF.slice.injEq] at hge;obtain ⟨rfl,hq7,rfl⟩:=hge;clear hq1 hq2 hq3 hq4 hq5 hq6 hq7;obtain ⟨X,hX⟩:∃X,X=rest.getD j 0:=⟨_,rfl⟩
          obtain ⟨Y,hY⟩:∃Y,Y=pad.getD j 0:=⟨_,rfl⟩
          have HXY:Hq (xB X Y=f4 j):=hqZ (by rw [hX,hY,HF4.o]);have cX:wr.cell? ⟨g,A+j,none⟩=some (.int .u8 (X.toNat:Int)):=by
            have hsl:=hown.1.sl;rw [hDl] at hsl;obtain ⟨b1,o1,ea,hc⟩:=hsl.addr (by rw [Aa]; omega);simp only [Option.some.injEq,Addr.mk.injEq,and_true] at ea;obtain ⟨rfl,rfl⟩:=ea
            have:=hc (A+j) _ (Cu (l:=D++E5 f4 rest j) (by omega));rw [aP] at this;rw [this,hX,<-A0c (f:=f4) (aE j)]
            have:=HAD.o;rw [aC,aF (by omega),aC,show A+j-D.length=j by omega]
          have cY:wr.cell? ⟨T,j,none⟩=some (.int .u8 (Y.toNat:Int)):=by
            rw [hY];exact (HC.o.swap.blk0.cell j).trans (Cu (by rw [HPL.o]; omega))
          have fX:wr.frozen? ⟨g,A+j,none⟩=false:=by
            have h:=hown.1;unfold B6 at h;rw [hDl] at h;exact h.frozen (by omega) (A+j)
          have lX:g<wr.heap.size:=hown.2 g rfl;have HDL:=hqZ hDl;clear hX hY hown hul hDl;go_wp2_with fail;have cYS:(wr.drew.setCell ⟨g,A+j,none⟩ (.int .u8 ((xB X Y).toNat:Int))).cell? ⟨T,j,none⟩=some (.int .u8 (Y.toNat:Int)):=by
            have h:Ac _ _:=(HC.o.drew:Ac wr.drew (.ownB (.slice (some ⟨g,0,none⟩) body.length oc) (D++E5 f4 rest j)::.blk T (Ab pad) 34::Tq p b (Fa k 10)::.blk w.heap.size (Ab fm) 34::l));have h:=h.ownBSet HDL.o (by omega) (A+j) (xB X Y);rw [<-cY];exact (h.swap.blk0.cell _).trans (HC.o.swap.blk0.cell _).symm
          refine Ev [11] (λ b W=>W.cell? ⟨T,j,none⟩=some (.int .u8 (Y.toNat:Int))/\(b= [false]->W.cell? ⟨g,A+j,none⟩=some (.int .u8 (X.toNat:Int)))) (by kernel_rfl) ?_;refine zT 0 ?_ (hS:=⟨cY,λ _=>cX⟩);refine zT 1 ?_ (hS:=⟨cY,λ _=>cX⟩);refine zT 2 ?_ (hS:=⟨cY,λ _=>cX⟩);refine zTk 3 [11] ?_ (hr:=λ l W hk hW=>by have c:=hW.2 (W3 hk); go_simp; try rfl) (hS:=⟨cY,λ _=>cX⟩);refine zT 4 ?_ (hS:=⟨cY,λ _=>cX⟩);refine zT 5 ?_ (hS:=⟨cY,λ _=>cX⟩);refine zT 6 ?_ (hS:=⟨cY,λ _=>cX⟩);refine zT 7 ?_ (hS:=⟨cY,λ _=>cX⟩);refine zT 8 ?_ (hS:=⟨cY,λ _=>cX⟩);refine zT 9 ?_ (hS:=⟨cY,λ _=>cX⟩);refine zT 10 ?_ (hS:=⟨cY,λ _=>cX⟩);refine zJ 11 λ K hK=>?_
          go_simp;refine hK _ _ ⟨cYS,λ h=>by simp [D3] at h⟩ ?_;clear hK K;try go_frame
          refine zD ?_;go_wp2_with fail;have hs:=HC.o.ownBSet HDL.o (by omega) (A+j) (xB X Y);rw [HXY.o,aH _ _ (by have:=HAD.o; omega),show A+j-D.length=j by (have:=HAD.o; omega),A2F (by omega),<-HXY.o,HF4.o] at hs;exact ⟨⟨j+1,by omega,by simp; omega,hs.drew⟩,by simp [intOf]; omega⟩
        · have hje:j=e:=by omega
          obtain ⟨D2,hD2⟩:∃x,x=D++aQ (λ x y=>x ^^^ y) (rest.take 16) pad:=⟨_,rfl⟩
          obtain ⟨rest2,hr2⟩:∃x,x=rest.drop 16:=⟨_,rfl⟩
          have h2:=HC.o;rw [hje,HF4.o,HE.o,A5w _ _ HPL.o,<-aG,<-hD2,<-hr2] at h2;have HST2:Hq (E4 k fr body=D2++Cf k n (Ik fm 16) rest2):=hqZ (by
            rw [HST.o,Cf,if_neg (by intro h; rw [List.isEmpty_iff.1 h] at hrp; simp at hrp),hD2,hr2,HPD.o,aG])
          have hz:D2.length=D.length+min 16 rest.length:=by rw [hD2]; simp [HPL.o]
          have hr:rest2.length=rest.length-16:=by rw [hr2,List.length_drop]
          have HL2:Hq ((D2++rest2).length=body.length):=hqZ (by have:=HLEN.o; rw [aD] at*; omega);have HA2:Hq ((rest2= []/\body.length<=A+16)\/A+16=D2.length):=hqZ (by
            have:=HLEN.o
            have:=HAD.o;rw [aD] at*;by_cases h:16<=rest.length
            · exact .inr (by omega)
            · exact .inl ⟨List.length_eq_zero_iff.1 (by omega),by omega⟩)
          have HRN2:Hq (rest2.length<=n):=hqZ (by omega);have HC:=hqZ h2.swap.tail.pull3;have hd:decide ((A:Int)+(j:Int)< (A:Int)+(e:Int))=false:=by simp; omega
          clear h2 hz hr hD2 hr2 hj2;go_wp2_with fail;clear hd;go_loopw [11] (λ vn wr=>∃fm2:List UInt8,fm2.length=16/\((∃q:Nat,q<16/\vn=.int .i64 q/\Ik fm2 (q+1)=Ik fm 16)\/(vn=.int .i64 (-1)/\fm2=Ik fm 16))/\Ac wr (.blk w.heap.size (Ab fm2) 34::.ownB (.slice oa body.length oc) (D2++rest2)::Tq p b (Fa k 10)::l)) (λ vn _=>(intOf vn+1).toNat)
          case atStart=>exact ⟨fm,HFM.o,.inl ⟨15,by omega,rfl,rfl⟩,HC.o⟩
          case round=>
            obtain ⟨fm2,hf2,hor,hc⟩:=hrel;have HC:=hqZ hc;have HF2:=hqZ hf2;clear hc hf2;rcases hor with ⟨q,hq,rfl,hnx⟩ | ⟨rfl,hnx⟩
            · obtain ⟨X,hX⟩:∃X,X=fm2.getD q 0:=⟨_,rfl⟩
              have cX:wr.cell? ⟨w.heap.size,q,none⟩=some (.int .u8 (X.toNat:Int)):=by
                rw [hX];exact (HC.o.blk0.cell q).trans (Cu (by rw [HF2.o]; omega))
              have fX:=HC.o.blk0.frozen q;have lX:=HC.o.blk0.lt;have ha:=u8a;have q0:(0:Int)<=(q:Int):=by omega
              have q1:(q:Int)<16:=by omega
              rw [Ik,<-hX] at hnx;have HNX:=hqZ hnx;have HX:=hqZ hX;clear hnx hX;by_cases h0:aB X=0
              · have h00:((aB X).toNat:Int)=0:=by rw [h0]; rfl
                have HH:=hqZ h0;clear h0;go_wp2_with fail;have hs:=HC.o.set q (bV 0);rw [B5] at hs;have hn:Ik (fm2.set q 0) q=Ik fm 16:=by
                  have:=HNX.o;rw [if_pos (show X+1=0 from HH.o)] at this;exact this
                cases q with
                | zero=>exact ⟨⟨fm2.set 0 0,by rw [aI,HF2.o],.inr ⟨rfl,hn⟩,hs⟩,by simp [intOf]⟩
                | succ q=>exact ⟨⟨_,by rw [aI,HF2.o],.inl ⟨q,by omega,by congr 1; omega,hn⟩,hs⟩,by simp [intOf]; omega⟩
              · have h00:¬((aB X).toNat:Int)=0:=by
                  intro h;apply h0
                  have:(aB X).toNat=0:=by omega
                  exact UInt8.toNat_inj.1 this
                have HH:=hqZ h0;clear h0;go_wp2_with fail;have hs:=HC.o.set q (bV (aB X));have hn:fm2.set q (aB X)=Ik fm 16:=by
                  have:=HNX.o;rw [if_neg (show ¬(X+1=0) from HH.o)] at this;exact this
                rw [B5,hn] at hs;exact ⟨⟨A+16,D2,Ik fm 16,rest2,n,rfl,HL2.o,HA2.o,by omega,HST2.o,HRN2.o,by rw [Nv]; exact HFM.o,hs.swap⟩,by simp [intOf]; omega⟩
            · have HNX:=hqZ hnx;clear hnx;go_wp2_with fail;have hs:=HC.o;rw [HNX.o] at hs;exact ⟨⟨A+16,D2,Ik fm 16,rest2,n,rfl,HL2.o,HA2.o,by omega,HST2.o,HRN2.o,by rw [Nv]; exact HFM.o,hs.swap⟩,by simp [intOf]; omega⟩
    · have hrest:rest= []:=by
        rcases hA with h | h
        · exact h.1
        · rw [aD] at hlen;exact List.length_eq_zero_iff.1 (by omega)
      have hD:D++rest=E4 k fr body:=by
        rw [hst,hrest]
        cases n <;> simp [Cf]
      have HF:=HC.o;rw [hD] at HF;have HF:=hqZ HF.ownRow.drop2;clear hlen hA hst hrest hD;go_wp2_with fail;go_ret;exact ⟨_,rfl,HF.o.drop2⟩
end Go.Proofs.YtnihelcjmahmnaaGreat
namespace Go.Proofs.YtnihelcjmahmnaaGreat
open Go.RowKit Go.Maps
theorem Rs.twoS {W:bG} {v1 v2:bF} {r1 r2:List UInt8} {T:TypeId} {g:Nat} (hg:W.heap.size=g) (h1:Bs W v1 r1) (h2:Bs W v2 r2):Rs (W.alloc (.cells #[v1,v2] T)) (.slice (some ⟨g,0,none⟩) 2 2) [r1,r2]:=hg▸Rs.two h1 h2
theorem Rs.threeG {W:bG} {v1 v2 v3:bF} {r1 r2 r3:List UInt8} {T:TypeId} {g:Nat} (hg:W.heap.size=g) (h1:Bs W v1 r1) (h2:Bs W v2 r2) (h3:Bs W v3 r3):Rs (W.alloc (.cells #[v1,v2,v3] T)) (.slice (some ⟨g,0,none⟩) 3 3) [r1,r2,r3]:=hg▸Rs.three h1 h2 h3
theorem Zs (u v:bF) (key b c:List UInt8) (w:bG) (hu:Bs w u key) (hv:Rs w v [b,c]) (hkl:key.length<=1000000) (hrl:(b++c).length<=1000000): bH aA 151 #[u,v] w λ e w'=>∃g cp,e=.returned (.slice (some ⟨g,0,none⟩) (Hf key (b++c)).length cp)/\B6 w' w.heap.size (.slice (some ⟨g,0,none⟩) (Hf key (b++c)).length cp) (Hf key (b++c))/\Below w.heap.size w w'/\32<=cp:=
  (Ii u v key [b,c] w hu hv hkl (by simpa using hrl) (by simp)).mono λ e w' ⟨x,h1,h2,h3⟩=>by
    simp only [aO,List.flatten_nil,aW] at h2;have hl:(Hf key (b++c)).length=32:=Ci _ _;obtain ⟨g,cp,cur,rfl,_,_,hcp,_⟩:=Own.form' h2 (by omega);exact ⟨g,cp,h1,h2,h3,by omega⟩
theorem Hn (k:List UInt8) (u:Nat) (c:UInt8):(P8 k u c).length=16:=Dw _ _
theorem Nl {n:List UInt8} (h:n.length=8):(Ff n).length=16:=by simp [Ff,h]
theorem A0V (q:Nat) (r:Re) (k:List UInt8) (u:Nat) (v:bF) (body:List UInt8) (l:List Res) (w:bG) (h:Ac w (Ju q r::l)) (hk:k.length=16) (hu:u<100) (hv:∀W,Ac W l->Bs W v body) (hbl:body.length<=100000) (hn:r.boxes<1099511627776): bH aA 147 #[.pointer (some ⟨q,0,none⟩),Ax k,.int .i64 u,v] w (Gi q (.real (r.shut k u body).2) (r.shut k u body).1 l):=by
  obtain ⟨sv,hsl,h⟩:=E2.1 h;obtain ⟨seed,keys,boxes⟩:=r;simp only at h hsl hn;obtain ⟨n,hnn⟩:∃n,n=boxes+1:=⟨_,rfl⟩
  obtain ⟨PN,hPN⟩:∃x,x=B7 n:=⟨_,rfl⟩
  obtain ⟨K1,hK1⟩:∃x,x=P8 k u 101:=⟨_,rfl⟩
  obtain ⟨K2,hK2⟩:∃x,x=P8 k u 109:=⟨_,rfl⟩
  obtain ⟨ST,hST⟩:∃x,x=E4 K1 (Ff PN) body:=⟨_,rfl⟩
  obtain ⟨m,hm⟩:∃m,m=Hf K2 (PN++ST):=⟨_,rfl⟩
  have e1:Re.shut ⟨seed,keys,boxes⟩ k u body=(PN++(ST++m.take 16),⟨seed,keys,n⟩):=by simp [Re.shut,A0m,hm,hnn,hST,hK1,hK2,hPN]
  rw [e1];obtain ⟨sa,sc,rfl,_,_⟩:=(h.tail.rowOf (v:=sv) (b:=seed) (by simp)).form;obtain ⟨va,vc,rfl,hvc,hvm⟩:=(hv _ h.tail.tail).form;have HV:=hqZ hv;have HBL:=hqZ hbl;have HSL:=hqZ hsl;have HP1:Hq (∀w,bH aA 152 #[Ax k,.int .i64 u,.string ⟨#[101]⟩] w λ e w'=>e=.returned (Ax K1)/\Below w.heap.size w w'):=hqZ (λ w=>by rw [hK1]; exact Nz k u ⟨#[101]⟩ w hk hu (by decide));have HP2:Hq (∀w,bH aA 152 #[Ax k,.int .i64 u,.string ⟨#[109]⟩] w λ e w'=>e=.returned (Ax K2)/\Below w.heap.size w w'):=hqZ (λ w=>by rw [hK2]; exact Nz k u ⟨#[109]⟩ w hk hu (by decide));have HK1L:Hq (K1.length=16):=hqZ (by rw [hK1]; exact Hn _ _ _);have HK2L:Hq (K2.length=16):=hqZ (by rw [hK2]; exact Hn _ _ _);have HB2:Hq ((Ab K2).length=16):=hqZ (by rw [Aa]; exact HK2L.o);have HKB:Hq ((Ab k).length=16):=hqZ (by rw [Aa,hk]);have HPL:Hq (PN.length=8):=hqZ (by rw [hPN]; exact Bd _);have HPU:Hq (∀w,bH aA 127 #[.int .u64 n] w λ e w'=>∃x,e=.returned x/\B6 w' w.heap.size x PN/\Below w.heap.size w w'):=hqZ (by rw [hPN]; exact Sd n);have HSTR:Hq (∀(p b:Nat) (v:bF) (l:List Res) (w:bG),Ac w (Tq p b (Fa K1 10)::l)->Bs w v body->bH aA 154 #[.pointer (some ⟨p,0,none⟩),.agg (Ab (Ff PN)).toArray,v] w λ e w'=>∃x,e=.returned x/\Ac w' (.row x ST::l)):=
    hqZ (λ p b v l w h hb=>by rw [hST]; exact Mj p b K1 (Ff PN) body v l w h HK1L.o (Nl HPL.o) hb (by omega))
  have HSTL:Hq (ST.length=body.length):=hqZ (by rw [hST]; exact Is _ _ _);have HSUM:Hq (∀(u v:bF) (w:bG),Bs w u K2->Rs w v [PN,ST]->bH aA 151 #[u,v] w λ e w'=>∃g cp,e=.returned (.slice (some ⟨g,0,none⟩) m.length cp)/\B6 w' w.heap.size (.slice (some ⟨g,0,none⟩) m.length cp) m/\Below w.heap.size w w'/\32<=cp):=
    hqZ (λ u v w hu hv=>by rw [hm]; exact Zs u v K2 PN ST w hu hv (by have:=HK2L.o; omega) (by have:=HSTL.o; have:=HPL.o; simp; omega))
  have HML:Hq (m.length=32):=hqZ (by rw [hm]; exact Ci _ _);have hw:bI.u64.wrap ((boxes:Int)+1)=n:=by rw [bI.wrap_u64,hnn]; omega
  have c1:w.cell? ⟨q,2,none⟩=some (.int .u64 boxes):=h.blk0.cell 2;have f1:w.frozen? ⟨q,2,none⟩=false:=h.blk0.frozen 2;have l1:=h.blk0.lt;have HC:=hqZ ((h.set 2 (.int .u64 n)).addBlkAt (Ab k) 35 (b:=w.heap.size) (by simp));simp only [aV,List.set_cons_zero] at HC;unfold Ax at HP1 HP2 ⊢;unfold maxLen at hvm;clear h hsl hn hv hbl hnn hm hST hK1 hK2 hPN e1 hk hu;go_enter Tryz.func147,Tryz.ntmps147;go_wp2_with fail;refine (HPU.o _).mono ?_;rintro e w1 ⟨xp,rfl,ho,hb⟩;obtain ⟨ap,cp,rfl,_,_⟩:=ho.sl.form;have HC:=hqZ (HC.o.freshRow hb ho);clear ho hb c1 f1 l1 hw;go_wp2_with ((with_reducible refine zw 24 ?_);refine Ah rfl (.tmp 5) Al rfl rfl (cs:=Ab k) HKB.o HC.o.swap.blk0.cellsAll ?_);refine (HP1.o _).mono ?_;rintro e w2 ⟨rfl,hb⟩;have HC:=hqZ (HC.o.step hb);clear hb;go_wp2_with fail;refine (Ra K1 _ _ HC.o HK1L.o).mono ?_;rintro e w3 ⟨ci,cb,rfl,hc⟩;have HC:=hqZ hc;clear hc;go_wp2_with fail;refine (N8 PN _ _ (HC.o.rowOf (v:=.slice ap PN.length cp) (b:=PN) (by simp)) HPL.o).mono ?_;rintro e w4 ⟨rfl,hb⟩;have HC:=hqZ (HC.o.step hb);clear hb;go_wp2_with fail;refine (HSTR.o ci cb _ _ _ HC.o (HV.o _ HC.o.tail.tail.tail.tail.tail)).mono ?_;rintro e w5 ⟨xs,rfl,hc⟩;obtain ⟨ax,cx,rfl,_,_⟩:=(hc.rowOf (v:=xs) (b:=ST) (by simp)).form;have HC:=hqZ hc;clear hc;go_wp2_with ((with_reducible refine zw 32 ?_);refine Ah rfl (.tmp 5) Al rfl rfl (cs:=Ab k) HKB.o HC.o.pull3.blk0.cellsAll ?_);refine (HP2.o _).mono ?_;rintro e w6 ⟨rfl,hb⟩;have HC:=hqZ ((HC.o.step hb).addBlkAt A3 35 rfl);clear hb;go_wp2_with ((with_reducible refine zws 11 34 ?_);refine Af rfl (.tmp 11) (.tmp 34) Al rfl rfl (vs:=Ab K2) rfl HB2.o HC.o.blk0 (aE _) (Aj _) ?_);intro w7 h7 k7;have HC:=hqZ ((HC.o.stW (vs:=Ab K2) h7 k7 rfl).blkRow HK2L.o (by unfold maxLen; decide));clear h7 k7;go_wp2_with fail;have HRS:=hqZ (Rs.twoS (T:=22) (g:=w7.heap.size) rfl (HC.o.rowOf (v:=.slice ap PN.length cp) (b:=PN) (by simp)) (HC.o.rowOf (v:=.slice ax ST.length cx) (b:=ST) (by simp)));have HC:=hqZ (HC.o.alloc (.cells #[.slice ap PN.length cp,.slice ax ST.length cx] 22));refine (HSUM.o _ _ _ (HC.o.rowOf (v:=.slice (some ⟨w6.heap.size,0,none⟩) 16 16) (b:=K2) (by simp)) HRS.o).mono ?_;rintro e w8 ⟨g,cm,rfl,ho,hb,hcm⟩;have HC:=hqZ (HC.o.freshRow hb ho);have hcut:=λ W=>Gq g m.length cm (by omega) W
  have hm16:(m.take 16).length=16:=by have:=HML.o; simp; omega
  have HR:=hqZ (Hw (HC.o.rowOf (v:=.slice (some ⟨g,0,none⟩) m.length cm) (b:=m) (by simp)) (by have:=HML.o; omega));clear ho hb HRS hcm;go_wp2_with fail;have HRS:=hqZ (Rs.threeG (T:=22) (g:=w8.heap.size) rfl (HC.o.rowOf (v:=.slice ap PN.length cp) (b:=PN) (by simp)) (HC.o.rowOf (v:=.slice ax ST.length cx) (b:=ST) (by simp)) HR.o);have HC:=hqZ (HC.o.alloc (.cells #[.slice ap PN.length cp,.slice ax ST.length cx,.slice (some ⟨g,0,none⟩) 16 cm] 22));refine (Ig _ _ _ HRS.o (by have:=HPL.o; have:=HSTL.o; have:=HBL.o; simp; omega)).mono ?_;rintro e w9 ⟨xr,rfl,ho,hb⟩;rw [show [PN,ST,m.take 16].flatten=PN++(ST++m.take 16) by simp] at ho;have HC:=hqZ (HC.o.freshRow hb ho);clear ho hb HRS hcut;go_wp2_with fail;go_ret;exact ⟨_,rfl,Ac.swap (E2.2 ⟨_,HSL.o,HC.o.drop2.drop2.drop2.drop2.drop2.zP [1,1]⟩)⟩
theorem A0U (q:Nat) (r:Re) (k:List UInt8) (u n:Nat) (v:bF) (body:List UInt8) (l:List Res) (w:bG) (h:Ac w (Ju q r::l)) (hk:k.length=16) (hu:u<100) (hv:∀W,Ac W l->Bs W v (A0m k u n body)) (hbl:body.length<=100000): bH aA 146 #[.pointer (some ⟨q,0,none⟩),Ax k,.int .i64 u,v] w (Q8 q (.real r) body l):=by
  obtain ⟨PN,hPN⟩:∃x,x=B7 n:=⟨_,rfl⟩
  obtain ⟨K1,hK1⟩:∃x,x=P8 k u 101:=⟨_,rfl⟩
  obtain ⟨K2,hK2⟩:∃x,x=P8 k u 109:=⟨_,rfl⟩
  obtain ⟨ST,hST⟩:∃x,x=E4 K1 (Ff PN) body:=⟨_,rfl⟩
  obtain ⟨m,hm⟩:∃m,m=Hf K2 (PN++ST):=⟨_,rfl⟩
  have e1:A0m k u n body=PN++(ST++m.take 16):=by rw [A0m,hm,hST,hK1,hK2,hPN]
  rw [e1] at hv;have hpl:PN.length=8:=by rw [hPN]; exact Bd _
  have hml:m.length=32:=by rw [hm]; exact Ci _ _
  obtain ⟨nb,hnb⟩:∃nb,nb=body.length:=⟨_,rfl⟩
  have hsl:ST.length=nb:=by rw [hST,hnb]; exact Is _ _ _
  have hLL:(PN++(ST++m.take 16)).length=nb+24:=by simp; omega
  obtain ⟨L,hL⟩:∃L,L=nb+24:=⟨_,rfl⟩
  obtain ⟨E,hE⟩:∃E,E=nb+8:=⟨_,rfl⟩
  obtain ⟨va,vc,rfl,hvc,hvm⟩:=(hv _ h.tail).form;rw [hLL,<-hL] at hvc hv ⊢;have hcutb:∀W,Ac W l->Bs W (.slice va (PN++(ST++m.take 16)).length vc) (PN++(ST++m.take 16)):=λ W hW=>by rw [hLL,<-hL]; exact hv W hW
  obtain ⟨A0,hA0⟩:∃x,x=Hd va vc 0:=⟨_,rfl⟩
  obtain ⟨Am,hAm⟩:∃x,x=Hd va vc 8:=⟨_,rfl⟩
  obtain ⟨Ae,hAe⟩:∃x,x=Hd va vc E:=⟨_,rfl⟩
  obtain ⟨cm,hcm⟩:∃x,x=vc-8:=⟨_,rfl⟩
  obtain ⟨ce,hce⟩:∃x,x=vc-E:=⟨_,rfl⟩
  have HV1:Hq (∀W,Ac W l->Bs W (.slice A0 8 vc) PN):=hqZ λ W hW=>by
    have:=(hcutb W hW).cut 0 8 (by omega) (by omega);rw [<-hA0] at this;simpa [aT,hpl] using this
  have HV2:Hq (∀W,Ac W l->Bs W (.slice Am nb cm) ST):=hqZ λ W hW=>by
    have:=(hcutb W hW).cut 8 E (by omega) (by omega);rw [<-hAm,<-hcm,show E-8=nb by omega,<-hpl,bE,<-hsl,List.take_left] at this;rw [<-hsl];exact this
  have HV3:Hq (∀W,Ac W l->Bs W (.slice Ae 16 ce) (m.take 16)):=hqZ λ W hW=>by
    have:=(hcutb W hW).cut E L (by omega) (by omega);rw [<-hAe,<-hce,show L-E=16 by omega,<-aG,show E=(PN++ST).length by simp; omega,bE,aU (by simp; omega)] at this;exact this
  have q1:∀W,(Instr.sliceAt 22 (.slice va L vc) none (some (.int .i64 8)) none).run aA W=.ok (.slice A0 8 vc) W:=λ W=>by rw [hA0]; exact Y6 va L vc 8 (by omega) W
  have q2:∀W,(Instr.sliceAt 22 (.slice va L vc) (some (.int .i64 8)) (some (.int .i64 E)) none).run aA W=.ok (.slice Am nb cm) W:=λ W=>by
    have:=So va L vc 8 E (by omega) (by omega) W;rw [<-hAm,<-hcm,show E-8=nb by omega] at this;exact this
  have q3:∀W,(Instr.sliceAt 22 (.slice va L vc) (some (.int .i64 E)) none none).run aA W=.ok (.slice Ae 16 ce) W:=λ W=>by
    have:=Y7 va L vc E (by omega) W;rw [<-hAe,<-hce,show L-E=16 by omega] at this;exact this
  have hlt:¬L<24:=by omega
  have hsub:bI.i64.wrap ((L:Int)-16)=(E:Int):=by rw [bI.wrap_i64]; omega
  have HP1:Hq (∀w,bH aA 152 #[Ax k,.int .i64 u,.string ⟨#[101]⟩] w λ e w'=>e=.returned (Ax K1)/\Below w.heap.size w w'):=hqZ (λ w=>by rw [hK1]; exact Nz k u ⟨#[101]⟩ w hk hu (by decide));have HP2:Hq (∀w,bH aA 152 #[Ax k,.int .i64 u,.string ⟨#[109]⟩] w λ e w'=>e=.returned (Ax K2)/\Below w.heap.size w w'):=hqZ (λ w=>by rw [hK2]; exact Nz k u ⟨#[109]⟩ w hk hu (by decide));have HK1L:Hq (K1.length=16):=hqZ (by rw [hK1]; exact Hn _ _ _);have HK2L:Hq (K2.length=16):=hqZ (by rw [hK2]; exact Hn _ _ _);have HB2:Hq ((Ab K2).length=16):=hqZ (by rw [Aa]; exact HK2L.o);have HKB:Hq ((Ab k).length=16):=hqZ (by rw [Aa,hk]);have HPL:=hqZ hpl;have HSTR:Hq (∀(p b:Nat) (v:bF) (l:List Res) (w:bG),Ac w (Tq p b (Fa K1 10)::l)->Bs w v ST->bH aA 154 #[.pointer (some ⟨p,0,none⟩),.agg (Ab (Ff PN)).toArray,v] w λ e w'=>∃x,e=.returned x/\Ac w' (.row x body::l)):=
    hqZ (λ p b v l w h hb=>by
      have:=Mj p b K1 (Ff PN) ST v l w h HK1L.o (Nl HPL.o) hb (by omega);rw [show E4 K1 (Ff PN) ST=body by rw [hST]; exact T3 _ _ _] at this;exact this)
  have HSUM:Hq (∀(u v:bF) (w:bG),Bs w u K2->Rs w v [PN,ST]->bH aA 151 #[u,v] w λ e w'=>∃g cp,e=.returned (.slice (some ⟨g,0,none⟩) m.length cp)/\B6 w' w.heap.size (.slice (some ⟨g,0,none⟩) m.length cp) m/\Below w.heap.size w w'/\32<=cp):=
    hqZ (λ u v w hu hv=>by rw [hm]; exact Zs u v K2 PN ST w hu hv (by have:=HK2L.o; omega) (by simp; omega))
  have HML:=hqZ hml;have HC:=hqZ (h.addBlkAt (Ab k) 35 (b:=w.heap.size) (by simp));unfold Ax at HP1 HP2 ⊢;unfold maxLen at hvm;clear h hsl hv hbl hm hST hK1 hK2 hPN e1 hk hu hpl hml hnb hLL hL hE hcutb hA0 hAm hAe hcm hce;go_enter Tryz.func146,Tryz.ntmps146;go_wp2_with fail;refine Ev [] (λ _ _=>True) (by kernel_rfl) ?_;refine zT 0 ?_;refine zT 1 ?_;refine zT 2 ?_;refine zT 3 ?_;refine zT 4 ?_;refine zT 5 ?_;refine zT 6 ?_;refine zT 7 ?_;refine zT 8 ?_;refine zT 9 ?_;refine zT 10 ?_;refine zT 11 ?_;refine zT 12 ?_;refine zT 13 ?_;refine zT 14 ?_;refine zD ?_;clear q1 q2 q3 hsub;go_wp2_with ((with_reducible refine zw 29 ?_);refine Ah rfl (.tmp 5) Al rfl rfl (cs:=Ab k) HKB.o HC.o.blk0.cellsAll ?_);refine (HP2.o _).mono ?_;rintro e w6 ⟨rfl,hb⟩;have HC:=hqZ ((HC.o.drew.step hb).addBlkAt A3 35 rfl);clear hb;go_wp2_with ((with_reducible refine zws 13 31 ?_);refine Af rfl (.tmp 13) (.tmp 31) Al rfl rfl (vs:=Ab K2) rfl HB2.o HC.o.blk0 (aE _) (Aj _) ?_);intro w7 h7 k7;have HC:=hqZ ((HC.o.stW (vs:=Ab K2) h7 k7 rfl).blkRow HK2L.o (by unfold maxLen; decide));clear h7 k7;go_wp2_with fail;have HRS:=hqZ (Rs.twoS (T:=22) (g:=w7.heap.size) rfl (HV1.o _ HC.o.tail.tail.tail) (HV2.o _ HC.o.tail.tail.tail));have HC:=hqZ (HC.o.alloc (.cells #[.slice A0 8 vc,.slice Am nb cm] 22));refine (HSUM.o _ _ _ (HC.o.rowOf (v:=.slice (some ⟨w6.heap.size,0,none⟩) 16 16) (b:=K2) (by simp)) HRS.o).mono ?_;rintro e w8 ⟨g,cx,rfl,ho,hb,hcx⟩;have HC:=hqZ (HC.o.freshRow hb ho);have hcut:=λ W=>Gq g m.length cx (by omega) W
  have HR:=hqZ (Hw (HC.o.rowOf (v:=.slice (some ⟨g,0,none⟩) m.length cx) (b:=m) (by simp)) (by have:=HML.o; omega));clear ho hb HRS hcx;go_wp2_with fail;refine (L2 _ _ _ _ _ HR.o (HV3.o _ HC.o.tail.tail.tail.tail)).mono ?_;rintro e w9 ⟨rfl,rfl⟩;clear HR hcut;go_wp2_with ((with_reducible refine zw 41 ?_);refine Ah rfl (.tmp 5) Al rfl rfl (cs:=Ab k) HKB.o HC.o.pull3.blk0.cellsAll ?_);refine (HP1.o _).mono ?_;rintro e w10 ⟨rfl,hb⟩;have HC:=hqZ (HC.o.step hb);clear hb;go_wp2_with fail;refine (Ra K1 _ _ HC.o HK1L.o).mono ?_;rintro e w3 ⟨ci,cb,rfl,hc⟩;have HC:=hqZ hc;clear hc;go_wp2_with fail;refine (N8 PN _ _ (HV1.o _ (Ac.app.1 HC.o).tail.tail.tail.tail.tail.tail) HPL.o).mono ?_;rintro e w4 ⟨rfl,hb⟩;have HC:=hqZ (HC.o.step hb);clear hb;go_wp2_with fail;refine (HSTR.o ci cb _ _ _ HC.o (HV2.o _ (Ac.app.1 HC.o).tail.tail.tail.tail.tail.tail)).mono ?_;rintro e w5 ⟨xs,rfl,hc⟩;have HC:=hqZ hc.drop2.drop2.drop2;clear hc;go_wp2_with fail;refine bodyPost_ret (results_tmp2 rfl _ _ _) rfl ⟨_,rfl,HC.o⟩
end Go.Proofs.YtnihelcjmahmnaaGreat
