/- Texts of this proof, one behind the other: KnD, KnB, Ws2, Ws3, Ws4, Wk6, KnE, KnF. -/
import Derived.Test.YtbmjjfhpllpiaaaGreatWsA2
import Derived.Test.YtbmjjfhpllpiaaaGreatWsA3
import Derived.Test.YtbmjjfhpllpiaaaGreatWsA15
import Derived.Test.YtbmjjfhpllpiaaaGreatWsA16
import Derived.Test.YtbmjjfhpllpiaaaGreatWsA18
import Derived.Deep.DeepCutAuto
import Derived.Deep.LoopGhost
set_option linter.unusedSimpArgs false
set_option linter.unusedVariables false
set_option maxRecDepth 100000
set_option maxHeartbeats 16000000
open Go.Proofs.Tryz renaming prog -> aA, func92 -> aS, ntmps92 -> aT
open And renaming intro -> aB
open List renaming mem_append_left -> aC, mem_cons_self -> aE, getElem?_eq_getElem -> aG, take_of_length_le -> aH, getElem?_cons_zero -> aI, mem_of_getElem? -> aJ, prefix_append -> aK, drop_zero -> aL, any_eq_true -> aN, prefix_rfl -> aO, append_assoc -> aP, take_append_of_le_length -> aQ, getElem?_cons_succ -> aR, getElem?_eq_none -> aU, append_nil -> aW, cons_append -> aX, mem_cons_of_mem -> aY, mem_cons -> aZ, not_mem_nil -> bA, mem_append_right -> bB, take_append_drop -> bC, getElem_mem -> bD
open Nat renaming le_refl -> aD, zero_le -> aF, lt_or_ge -> aM, add_sub_cancel_left -> aV
open Go renaming Value -> bE, World -> bF, Calls -> bG
namespace Go.Proofs.YtbmjjfhpllpiaaaGreat
open Go.RowKit Go.Maps
theorem D2 {W:bF} {p q kb bb ob:Nat} {M:Mi} {l:List Res} {av:bE} {vs:List bE} (h:Ac W (.blk p (Fs q kb bb ob av) 134::D5 kb M.keys::D5 ob M.opens::.ownZ 29 1 av M.all.length vs::Br vs M.all::D5 bb M.boxes::l)): Ac W (En p q kb bb ob M::l):=Ef.2 (F9 h)
theorem A2P (f:Fk):(f.cells.drop 0).take 16=Ab f.of_:=by
  have:=f.hof;rw [aL,Fk.cells,aQ (by rw [Aa]; omega),aH (by rw [Aa]; omega)]
def Ep (p q kb bb ob:Nat) (T:Sy) (M:Mi) (l:List Res) (e:Ending) (w':bF):Prop:=
  e=.returned (.tuple #[])/\∃M',Mi.Steps T M M'/\M'.Closed T/\Ac w' (En p q kb bb ob M'::B2 q T::l)
theorem Gl (p q kb bb ob:Nat) (M0:Mi) (T:Sy) (l:List Res) (w:bF) (h:Ac w (En p q kb bb ob M0::B2 q T::l)) (hT:Qh T) (hok:M0.Ok) (hal:M0.all.length<=100000): bG aA 40 #[.pointer (some ⟨p,0,none⟩)] w (Ep p q kb bb ob T M0 l):=by
  have HT:=hqZ hT;have HOK0:=hqZ hok;have HAL0:=hqZ hal;have HC:=hqZ h;obtain ⟨NN,hNN⟩:∃NN,NN=M0.left T+1:=⟨_,rfl⟩
  have HNN:=hqZ hNN;clear h hT hok hal hNN;unfold Ep;go_enter Tryz.func40,Tryz.ntmps40;go_wp2_with fail
  go_loopg [2] NN (λ k again wr=>∃(M:Mi) (ag:Bool),again=.bool ag/\Mi.Steps T M0 M/\M.left T+(if ag=true then 1 else 0)<=k/\(ag=false->M.Closed T)/\Ac wr (En p q kb bb ob M::B2 q T::l))
  case atStart=>exact ⟨M0,true,rfl,.refl _,by rw [HNN.o]; exact aD _,(λ h=>by cases h),HC.o⟩
  case round=>
    obtain ⟨M,ag,rfl,hst,hlt,hcl,hr⟩:=hrel;have HST:=hqZ hst;have HLT:=hqZ hlt;have HCL:=hqZ hcl;have HC:=hqZ hr;clear hst hlt hcl hr
    cases ag with
    | false=>
      have HCL2:Hq (M.Closed T):=hqZ (HCL.o rfl);clear HCL;go_wp2_with fail;go_end0;exact ⟨rfl,M,HST.o,HCL2.o,HC.o⟩
    | true=>
      have HOK:Hq M.Ok:=hqZ (HST.o.ok HOK0.o (by have:=HT.o.nb; omega) (by have:=HT.o.nk; omega));have HLT1:Hq (M.left T+1<=gk):=hqZ (by have:=HLT.o; rw [if_pos rfl] at this; exact this);have HAL:Hq (∀M',Mi.Steps T M M'->M'.all.length<=400000):=hqZ (λ M' s=>by
        have h1:=(HST.o.trans s).all;have h2:=Mi.left_most T M0;have h3:=HT.o.nb;have h4:=HT.o.nk;have h5:=HAL0.o
        omega)
      have HBX:Hq (∀M',Mi.Steps T M M'->M'.boxes=M.boxes):=hqZ (λ M' s=>s.boxes λ bx hb=>(HT.o.body bx hb).1);have HOK2:Hq (∀M',Mi.Steps T M M'->M'.Ok):=hqZ (λ M' s=>s.ok HOK.o (by have:=HT.o.nb; omega) (by have:=HT.o.nk; omega));obtain ⟨U,hU,h2⟩:=Gq.1 (Ef.1 HC.o).swap;have HU:=hqZ hU;have HM:=hqZ (h2.mapVOf (b:=bb) (M:=ksM U) aE);obtain ⟨sa,sc,vs,h3⟩:=Ev h2.swap;have cb:=h3.blk0.cell 2;have HC2:=hqZ h2;simp only [Fs,aR,aI] at cb;clear h2 h3 hU HC;go_wp2_with (at_range; refine S1 _ rfl _ 132 rfl 43 4 P6 W8 Tryz.underlying132 bb _ rfl HM.o ?_);intro w2 left0 hleft hrg hbel;have HC:=hqZ (HC2.o.rngVStart hrg hbel);obtain ⟨r,hr⟩:∃r,r=wr.heap.size:=⟨_,rfl⟩
      rw [<-hr] at HC;rw [<-hr];have HL0:Hq (∀k:KK,k.1∈M.boxes->left0 (kkL k)=true):=hqZ (λ k hk=>by rw [hleft,A3H]; exact (HU.o k).2 hk);clear hrg hbel hleft HM HC2 hr cb;go_wp2_with fail;go_loopw [2] (λ a2 wr=>∃(M':Mi) (ag:Bool) (left:Lit->Bool) (cnt:Nat),a2=.bool ag/\Rd1 T M M' ag (λ k=>left (kkL k))/\Ac wr (Lq aA 43 kkL bb r (ksM U) left cnt::Jf p q kb bb ob M'::B2 q T::l)) (λ _ wr=>wr.rangeLeft bb r)
      case atStart=>exact ⟨M,false,left0,_,rfl,Rd1.start HL0.o,HC.o⟩
      case round=>
        obtain ⟨M1,ag,left,cnt,rfl,hrd,hr⟩:=hrel;have HRD:=hqZ hrd;have HRG:=hqZ hr.rngVOf;have HC:=hqZ hr;clear hr hrd HL0;go_wp2_with (at_next; refine Vo _ rfl _ rfl 43 P6 W8 kkV (λ _ _ h=>A4Q h) bb r _ left cnt rfl HRG.o ?_ ?_)
        · intro hc0 hl0;have HRD2:Hq (Rd2 T M M1 ag 0):=hqZ (HRD.o.done λ k=>hl0 _);have HC:=hqZ (Ef.2 (Gq.2 ⟨U,(by rw [HBX.o M1 HRD.o.st]; exact HU.o),HC.o.rngVEnd⟩:Ac wr (D5 bb M1.boxes::Jf p q kb bb ob M1::B2 q T::l)).swap);clear hc0 hl0 HRD HRG;go_wp2_with fail;go_loopw [2,6] (λ a2 i wr=>∃(M2:Mi) (ag:Bool) (n:Nat),a2=.bool ag/\i=.int .i64 ((n:Int)+1)/\n<=T.keys.length/\Rd2 T M M2 ag n/\Ac wr (En p q kb bb ob M2::B2 q T::l)) (λ _ i _=>T.keys.length+2- (intOf i).toNat)
          case atStart=>exact ⟨M1,ag,0,rfl,by simp,aF _,HRD2.o,HC.o⟩
          case round=>
            obtain ⟨M2,ag2,n,rfl,rfl,hn,hrd,hr⟩:=hrel;have HRD:=hqZ hrd;have HNT:Hq (T.keys.length<=100000):=hqZ HT.o.nk;have hnk:=HNT.o;obtain ⟨sa,sc,vs,h3⟩:=Ev (Ef.1 hr);have ct:=h3.blk0.cell 0;simp only [Fs,aI] at ct;obtain ⟨NK,hNK⟩:∃NK,NK=T.keys.length:=⟨_,rfl⟩
            have HKE:=hqZ (Pk q T _ wr (h3.zP [6]));rw [<-hNK] at HKE hn hnk ⊢;have HNKE:=hqZ hNK;clear HC;have HC:=hqZ h3;have HR:=hqZ hr;clear hrd h3 hr HRD2 hNK;by_cases hlt:n<NK
            · obtain ⟨f,hf⟩:∃f,T.keys[n]?=some f:=⟨_,aG (by rw [<-HNKE.o]; exact hlt)⟩
              have HF:=hqZ hf;have hle:(n:Int)+1<=NK:=by omega
              obtain ⟨K,hK⟩:∃K,K=Ao 107 (n+1):=⟨_,rfl⟩
              have HKD:=hqZ hK;have HK16:Hq (K.length=16):=hqZ (by rw [hK]; exact An _ _);have HKL:Hq ((Ab K).length=16):=hqZ (by rw [Aa]; exact HK16.o);have HNTH:Hq (∀W,bG aA 42 #[.pointer (some ⟨q,0,none⟩),.int .i64 ((n:Int)+1)] W λ e w'=>e=.returned (.agg (Ab K).toArray)/\Below W.heap.size W w'):=hqZ (λ W=>by rw [hK]; exact R3 q (n+1) (by omega) W);have HCAME:Hq (∀W l,Ac W (B2 q T::l)->bG aA 90 #[.pointer (some ⟨q,0,none⟩),.agg (Ab K).toArray] W λ e w'=>e=.returned (.tuple #[.agg f.cells.toArray,.bool true])/\Ac w' (B2 q T::l)):=hqZ (λ W l h=>by rw [hK]; exact Yf q T n f l W h hf (by have:=HNT.o; omega));have HFL:=hqZ f.cells_length;have HFO:=hqZ f.cells_one;have HOF:=hqZ (A2P f);have HO16:=hqZ f.hof;have HOL:Hq ((Ab f.of_).length=16):=hqZ (by rw [Aa]; exact f.hof);clear hf hK;go_wp2_with fail;refine HKE.o.mono ?_;rintro e w4 ⟨rfl,rfl⟩;clear HKE;go_wp2_with fail;refine (HNTH.o _).mono ?_;rintro e w4 ⟨rfl,hb⟩;have HC:=hqZ ((HC.o.step hb).addBlk Bg 43);clear hb HNTH ct HR;go_wp2_with ((with_reducible refine zws 7 71 ?_); refine Af rfl (.tmp 7) (.tmp 71) Am rfl rfl (vs:=Ab K) rfl HKL.o HC.o.blk0 (aD _) (Ak _) ?_);intro w5 h5 k5;have HC:=hqZ (HC.o.stW (vs:=Ab K) h5 k5 rfl);obtain ⟨B7,hB7⟩:∃B,B=w4.heap.size:=⟨_,rfl⟩
              rw [<-hB7] at HC;rw [<-hB7];clear h5 k5 hB7;go_upto_region 15 with fail;go_cut [8,9] from 72 to 81 (λ v8 v9 wx=>∃B8,v8=.pointer (some ⟨B8,0,none⟩)/\v9=.bool true/\Ac wx (.blk B8 f.cells 142::.blk B7 (Ab K) 43::.blk p (Fs q kb bb ob (.slice sa M2.all.length sc)) 134::D5 kb M2.keys::D5 ob M2.opens::.ownZ 29 1 (.slice sa M2.all.length sc) M2.all.length vs::Br vs M2.all::D5 bb M2.boxes::B2 q T::l))
              case first=>
                refine Cx [] (λ b W=>W.cell? ⟨p,0,none⟩=some (.pointer (some ⟨q,0,none⟩))/\Al W B7 0 (Ab K)) (by kernel_rfl) ?_;have HC:=hqZ HC.o.drew;have HS:=hqZ (aB (HC.o.zc (p:=p) (k:=0) (v:=.pointer (some ⟨q,0,none⟩))) (HC.o.zca (p:=B7)));refine zT 0 ?_;refine zT 1 ?_;refine zT 2 ?_;refine zT 3 ?_ (v:=.pointer (some ⟨q,0,none⟩)) (hr:=λ l W hk hW=>by have c:=hW.1; go_simp);refine zT 4 ?_ (v:=.agg (Ab K).toArray) (hr:=λ l W hk hW=>ldJ Am rfl HKL.o hW.2);refine Bb (rs:= [5,9]) (by decide+kernel) (by simp) ?_;refine zC (λ K' hK=>?_) (zC (λ K' hK=>?_) Cq)
                · go_simp;refine (HCAME.o _ _ (HC.o.zP [7])).mono ?_;rintro e w6 ⟨rfl,hc⟩;have HC:=hqZ hc;clear hc;have HS:=hqZ (aB (HC.o.zc (p:=p) (k:=0) (v:=.pointer (some ⟨q,0,none⟩))) (HC.o.zca (p:=B7)));refine zq hK ?_;clear hK K';refine zT 6 ?_;refine zT 7 ?_;refine zT 8 ?_;refine zJ 9 λ K' hK=>?_
                  refine zNp A5j 142 HC.o ?_;intro B8 w7 HC;have HS:=hqZ (aB (HC.o.zc (p:=p) (k:=0) (v:=.pointer (some ⟨q,0,none⟩))) (HC.o.zca (p:=B7)));refine zq hK ?_;clear hK K';refine zJ 10 λ K' hK=>?_
                  refine zWo Gz HFO.o HC.o ?_ (hm:=HFL.o);intro w8 HC;have HS:=hqZ (aB (HC.o.zc (p:=p) (k:=0) (v:=.pointer (some ⟨q,0,none⟩))) (HC.o.zca (p:=B7)));refine zq hK ?_;clear hK K';refine zT 11 ?_;refine zD ?_;go_wp2_with fail;go_meet;exact ⟨_,rfl,rfl,HC.o.zP [0,1,1,1,1,1,1,1,0]⟩
                · refine zNp A5j 142 HC.o ?_;intro B8 w7 HC;have HS:=hqZ (aB (HC.o.zc (p:=p) (k:=0) (v:=.pointer (some ⟨q,0,none⟩))) (HC.o.zca (p:=B7)));refine zq hK ?_;clear hK K';refine zJ 5 λ K' hK=>?_
                  go_simp;refine (HCAME.o _ _ (HC.o.zP [8])).mono ?_;rintro e w6 ⟨rfl,hc⟩;have HC:=hqZ hc;clear hc;have HS:=hqZ (aB (HC.o.zc (p:=p) (k:=0) (v:=.pointer (some ⟨q,0,none⟩))) (HC.o.zca (p:=B7)));refine zq hK ?_;clear hK K';refine zT 6 ?_;refine zT 7 ?_;refine zT 8 ?_;refine zJ 10 λ K' hK=>?_
                  refine zWo Gz HFO.o (HC.o.zP [1]) ?_ (hm:=HFL.o);intro w8 HC;have HS:=hqZ (aB (HC.o.zc (p:=p) (k:=0) (v:=.pointer (some ⟨q,0,none⟩))) (HC.o.zca (p:=B7)));refine zq hK ?_;clear hK K';refine zT 11 ?_;refine zD ?_;go_wp2_with fail;go_meet;exact ⟨_,rfl,rfl,HC.o.zP [0,1,1,1,1,1,1,1,0]⟩
              case rest=>
                obtain ⟨B8,rfl,rfl,hc⟩:=hcut;have HC:=hqZ hc;clear hc;go_upto_region 16 with fail;refine Cx [] (λ b W=>W.cell? ⟨p,1,none⟩=some (.map (some kb))/\Oq W kb M2.keys/\Al W B7 0 (Ab K)/\Al W B8 0 (Ab f.of_)) (by kernel_rfl) ?_;have HC:=hqZ HC.o.drew;have HS:=hqZ (aB (HC.o.zc (p:=p) (k:=1) (v:=.map (some kb))) (aB (HC.o.setAt (b:=kb) (S:=M2.keys) (by simp)) (aB (HC.o.zca (p:=B7)) (HC.o.zr (p:=B8) (o:=0) (vs:=Ab f.of_) HOF.o))));refine zT 0 ?_;refine zT 1 ?_;refine zT 2 ?_;refine zT 3 ?_ (v:=.map (some kb)) (hr:=λ l W hk hW=>by have c:=hW.1; go_simp);refine zT 4 ?_ (v:=.agg (Ab K).toArray) (hr:=λ l W hk hW=>ldJ Am rfl HKL.o hW.2.2.1);by_cases hkn:K∈M2.keys
                · have HKN:Hq (Ao 107 (n+1)∈M2.keys):=hqZ (by rw [<-HKD.o]; exact hkn);refine zT 5 ?_ (v:=.bool true) (hr:=λ l W hk hW=>Dq (.tmp 84) (.tmp 85) rfl hW.2.1 HK16.o rfl (decide_eq_true hkn));clear hkn;refine zT 6 ?_;refine zT 7 ?_;refine zS 8 ?_;refine zS 9 ?_;refine zS 10 ?_;refine zS 11 ?_;refine zT 12 ?_;refine zT 13 ?_;refine zS 14 ?_;refine zS 15 ?_;refine zS 16 ?_;refine zS 17 ?_;refine zS 18 ?_;refine zS 19 ?_;refine zS 20 ?_;refine zT 21 ?_;refine zD ?_;go_wp2_with fail;go_roundw
                  case rel=>
                    exact ⟨M2,ag2,n+1,rfl,by go_num,by omega,HRD.o.pass HF.o (.inl HKN.o),D2 HC.o.tail.tail⟩
                  case measure=>simp [intOf]; omega
                · have HKN:Hq (Ao 107 (n+1)∉M2.keys):=hqZ (by rw [<-HKD.o]; exact hkn);refine zT 5 ?_ (v:=.bool false) (hr:=λ l W hk hW=>Dq (.tmp 84) (.tmp 85) rfl hW.2.1 HK16.o rfl (decide_eq_false hkn));clear hkn;refine zT 6 ?_;refine zT 7 ?_;refine zT 8 ?_;refine zT 9 ?_ (v:=.agg (Ab f.of_).toArray) (hr:=λ l W hk hW=>ldJ Am rfl HOL.o hW.2.2.2);refine zT 10 ?_ (v:=Ay zk);by_cases hz:f.of_=zk
                  · have HZ:=hqZ hz;refine zT 11 ?_ (v:=.bool false) (hr:=λ l W hk hW=>A1A (.tmp 90) (.tmp 91) (k1:=f.of_) (k2:=zk) rfl rfl HO16.o K8 (by simp [hz]) W);clear hz;refine zT 12 ?_;refine zT 13 ?_;refine zS 14 ?_;refine zS 15 ?_;refine zS 16 ?_;refine zS 17 ?_;refine zS 18 ?_;refine zS 19 ?_;refine zS 20 ?_;refine zT 21 ?_;refine zD ?_;go_wp2_with fail;go_roundw
                    case rel=>
                      exact ⟨M2,ag2,n+1,rfl,by go_num,by omega,HRD.o.pass HF.o (.inr (.inl HZ.o)),D2 HC.o.tail.tail⟩
                    case measure=>simp [intOf]; omega
                  · have HZ:=hqZ hz;refine zT 11 ?_ (v:=.bool true) (hr:=λ l W hk hW=>A1A (.tmp 90) (.tmp 91) (k1:=f.of_) (k2:=zk) rfl rfl HO16.o K8 (by simp [hz]) W);clear hz;refine zT 12 ?_;refine zT 13 ?_;refine zT 14 ?_;refine zT 15 ?_;refine zT 16 ?_;refine zT 17 ?_ (v:=.map (some kb)) (hr:=λ l W hk hW=>by have c:=hW.1; go_simp);refine zT 18 ?_;refine zT 19 ?_ (v:=.agg (Ab f.of_).toArray) (hr:=λ l W hk hW=>ldJ Am rfl HOL.o hW.2.2.2);by_cases hof:f.of_∈M2.keys
                    · have HOFK:=hqZ hof;refine zT 20 ?_ (v:=.bool true) (hr:=λ l W hk hW=>Dq (.tmp 98) (.tmp 100) rfl hW.2.1 HO16.o rfl (decide_eq_true hof));clear hof;refine zT 21 ?_;refine zD ?_;clear HS;have HRD3:Hq (Rd2 T M { M2 with keys:=K::M2.keys } true (n+1)):=hqZ (by rw [HKD.o]; exact HRD.o.gain HF.o HKN.o HZ.o HOFK.o);go_upto_region 17 with fail;refine Cx [] (λ b W=>W.cell? ⟨p,1,none⟩=some (.map (some kb))/\Al W B7 0 (Ab K)) (by kernel_rfl) ?_;have HC:=hqZ HC.o.drew;have HS:=hqZ (aB (HC.o.zc (p:=p) (k:=1) (v:=.map (some kb))) (HC.o.zca (p:=B7)));refine zT 0 ?_;refine zT 1 ?_;refine zT 2 ?_;refine zT 3 ?_ (v:=.map (some kb)) (hr:=λ l W hk hW=>by have c:=hW.1; go_simp);refine zT 4 ?_ (v:=.agg (Ab K).toArray) (hr:=λ l W hk hW=>ldJ Am rfl HKL.o hW.2);refine zJ 5 λ K' hK=>?_
                      refine H8 rfl _ _ _ rfl (HC.o.zP [3]) rfl (Ur (c:=107) (HOK2.o M2 HRD.o.st).keys) HK16.o rfl rfl ?_;intro w9 HC;refine zq hK ?_ (hS:=aB (HC.o.zc (p:=p) (k:=1) (v:=.map (some kb))) (HC.o.zca (p:=B7)));clear hK K' HS;refine zD ?_;go_wp2_with fail;go_roundw
                      case rel=>
                        exact ⟨{ M2 with keys:=K::M2.keys },true,n+1,rfl,by go_num,by omega,HRD3.o,D2 (M:= { M2 with keys:=K::M2.keys }) (HC.o.zP [1,1,1,0]).tail.tail⟩
                      case measure=>simp [intOf]; omega
                    · have HOFK:=hqZ hof;refine zT 20 ?_ (v:=.bool false) (hr:=λ l W hk hW=>Dq (.tmp 98) (.tmp 100) rfl hW.2.1 HO16.o rfl (decide_eq_false hof));clear hof;refine zT 21 ?_;refine zD ?_;go_wp2_with fail;go_roundw
                      case rel=>
                        exact ⟨M2,ag2,n+1,rfl,by go_num,by omega,HRD.o.pass HF.o (.inr (.inr HOFK.o)),D2 HC.o.tail.tail⟩
                      case measure=>simp [intOf]; omega
            · obtain rfl:n=NK:=by omega
              have hle:¬(n:Int)+1<=n:=by omega
              cases ag2 with
              | true=>
                go_wp2_with fail;refine HKE.o.mono ?_;rintro e w4 ⟨rfl,rfl⟩;go_wp2_with fail
                go_roundg (M2.left T+1)
                case measure=>have:=HRD.o.lt rfl; have:=HLT1.o; omega
                case rel=>exact ⟨M2,true,rfl,HST.o.trans HRD.o.st,aD _,(λ h=>by cases h),HR.o⟩
              | false=>
                have HCLO:=hqZ (HRD.o.closed (by rw [<-HNKE.o]; exact aD _));go_wp2_with fail;refine HKE.o.mono ?_;rintro e w4 ⟨rfl,rfl⟩;go_wp2_with fail
                go_roundg (M2.left T)
                case measure=>rw [HCLO.o.1]; have:=HLT1.o; omega
                case rel=>exact ⟨M2,false,rfl,HST.o.trans HRD.o.st,by simp,λ _=>HCLO.o.2,HR.o⟩
        · intro K hK16 v w3 cnt2 hsv hls hrg hcc hkp hsz hen;have hen2:(Instr.entry (.pointer (some ⟨r,0,none⟩))).run aA w3=.ok (.tuple #[.agg (Ab K).toArray,v]) w3:=hen;obtain ⟨kn,hkn,hKe⟩:=(HOK.o).boxes K ((HU.o ⟨K,hK16⟩).1 (A0T hsv));have HKN:=hqZ hkn;have HKE:=hqZ hKe;have HK16:=hqZ hK16;have HKL:Hq ((Ab K).length=16):=hqZ (by rw [Aa]; exact hK16);have HKM:Hq (K∈M1.boxes):=hqZ (by rw [HBX.o M1 HRD.o.st]; exact (HU.o ⟨K,hK16⟩).1 (A0T hsv));obtain ⟨ox,hox⟩:=A3v T kn;have HOX:=hqZ hox;have HBOX:Hq (∀v W l,Ac W (B2 q T::l)->Bs W v K->bG aA 89 #[.pointer (some ⟨q,0,none⟩),v] W (A4D q T ox l)):=hqZ (λ v W l h hv=>Ye q T kn ox v l W h (by rw [<-hKe]; exact hv) hkn (by have:=HT.o.nb; omega) (λ bx hb=>(HT.o.body bx hb).2) hox);have h3:=HC.o.rngVTurn hrg hkp;obtain ⟨sa,sc,vs,h4⟩:=Ev h3.swap;have HCC:Hq (cnt2<cnt):=hqZ hcc;have HLE:Hq (wr.rangeLeft bb r=cnt):=hqZ HRG.o.left_eq;have HC:=hqZ (h4.addBlk Bg 43);unfold A4D at HBOX;clear hen hkn hKe hox hrg hkp hsz hsv hls hcc h3 h4 HRG;go_wp2_with ((with_reducible refine zws 3 19 ?_); refine Af rfl (.tmp 3) (.tmp 19) Am rfl rfl (vs:=Ab K) rfl HKL.o HC.o.blk0 (aD _) (Ak _) ?_);intro w5 h5 k5;have HC:=hqZ (HC.o.stW (vs:=Ab K) h5 k5 rfl);obtain ⟨B3,hB3⟩:∃B,B=w3.heap.size:=⟨_,rfl⟩
          rw [<-hB3] at HC;rw [<-hB3];clear h5 k5 hB3 hen2;have HKB:Hq (∀W l,Ac W (.blk B3 (Ab K) 43::l)->Bs W (.slice (some ⟨B3,0,none⟩) 16 16) K):=hqZ (λ W l h=>by
            have:=h.blk0.bs (off:=0) (n:=16) (cap:=16) (by rw [HK16.o]; decide) (aD _) (by unfold maxLen; decide);exact Sl.bs this (by rw [aL,aH (by rw [HK16.o]; decide)]) HK16.o)
          go_upto_region 6 with fail;go_cut [4,5] from 20 to 29 (λ v4 v5 wx=>∃B4 x,v4=.pointer (some ⟨B4,0,none⟩)/\v5=.bool ox.isSome/\(bxO ox x).length=18/\Ac wx (.blk B4 (bxO ox x) 218::A2V ox x::.blk B3 (Ab K) 43::.blk p (Fs q kb bb ob (.slice sa M1.all.length sc)) 134::D5 kb M1.keys::D5 ob M1.opens::.ownZ 29 1 (.slice sa M1.all.length sc) M1.all.length vs::Br vs M1.all::Lq aA 43 kkL bb r (ksM U) (λ z=>left z&& !z.sameKey (kkL ⟨K,hK16⟩)) cnt2::B2 q T::l))
          case first=>
            refine Cx [] (λ b W=>W.cell? ⟨p,0,none⟩=some (.pointer (some ⟨q,0,none⟩))/\Al W B3 0 (Ab K)) (by kernel_rfl) ?_;have HC:=hqZ HC.o.drew;have HS:=hqZ (aB (HC.o.zc (p:=p) (k:=0) (v:=.pointer (some ⟨q,0,none⟩))) (HC.o.zca (p:=B3)));refine zT 0 ?_;refine zT 1 ?_;refine zT 2 ?_;refine zT 3 ?_ (v:=.pointer (some ⟨q,0,none⟩)) (hr:=λ l W hk hW=>by have c:=hW.1; go_simp);refine zT 4 ?_;refine Bb (rs:= [5,9]) (by decide+kernel) (by simp) ?_;refine zC (λ K' hK=>?_) (zC (λ K' hK=>?_) Cq)
            · go_simp;refine (HBOX.o _ _ _ (HC.o.zP [7]) (HKB.o _ _ (HC.o.zP [0]))).mono ?_;rintro e w6 ⟨x,rfl,hxl,hx1,hc⟩;have HXL:=hqZ hxl;have HX1:=hqZ hx1;have HC:=hqZ hc;clear hc hxl hx1;have HS:=hqZ (aB (HC.o.zc (p:=p) (k:=0) (v:=.pointer (some ⟨q,0,none⟩))) (HC.o.zca (p:=B3)));refine zq hK ?_;clear hK K';refine zT 6 ?_;refine zT 7 ?_;refine zT 8 ?_;refine zJ 9 λ K' hK=>?_
              refine zNp Ig 218 HC.o ?_;intro B4 w7 HC;have HS:=hqZ (aB (HC.o.zc (p:=p) (k:=0) (v:=.pointer (some ⟨q,0,none⟩))) (HC.o.zca (p:=B3)));refine zq hK ?_;clear hK K';refine zJ 10 λ K' hK=>?_
              refine zWo Dg HX1.o HC.o ?_ (hm:=HXL.o);intro w8 HC;have HS:=hqZ (aB (HC.o.zc (p:=p) (k:=0) (v:=.pointer (some ⟨q,0,none⟩))) (HC.o.zca (p:=B3)));refine zq hK ?_;clear hK K';refine zT 11 ?_;refine zD ?_;go_wp2_with fail;go_meet;exact ⟨_,_,rfl,rfl,HXL.o,HC.o.zP [0,0,1,1,1,1,1,1,1,0]⟩
            · refine zNp Ig 218 HC.o ?_;intro B4 w7 HC;have HS:=hqZ (aB (HC.o.zc (p:=p) (k:=0) (v:=.pointer (some ⟨q,0,none⟩))) (HC.o.zca (p:=B3)));refine zq hK ?_;clear hK K';refine zJ 5 λ K' hK=>?_
              go_simp;refine (HBOX.o _ _ _ (HC.o.zP [8]) (HKB.o _ _ (HC.o.zP [1]))).mono ?_;rintro e w6 ⟨x,rfl,hxl,hx1,hc⟩;have HXL:=hqZ hxl;have HX1:=hqZ hx1;have HC:=hqZ hc;clear hc hxl hx1;have HS:=hqZ (aB (HC.o.zc (p:=p) (k:=0) (v:=.pointer (some ⟨q,0,none⟩))) (HC.o.zca (p:=B3)));refine zq hK ?_;clear hK K';refine zT 6 ?_;refine zT 7 ?_;refine zT 8 ?_;refine zJ 10 λ K' hK=>?_
              refine zWo Dg HX1.o (HC.o.zP [2]) ?_ (hm:=HXL.o);intro w8 HC;have HS:=hqZ (aB (HC.o.zc (p:=p) (k:=0) (v:=.pointer (some ⟨q,0,none⟩))) (HC.o.zca (p:=B3)));refine zq hK ?_;clear hK K';refine zT 11 ?_;refine zD ?_;go_wp2_with fail;go_meet;exact ⟨_,_,rfl,rfl,HXL.o,HC.o.zP [0,0,1,1,1,1,1,1,1,0]⟩
          case rest=>
            obtain ⟨B4,x,rfl,rfl,hxl,hc⟩:=hcut;have HXL:=hqZ hxl;have HC:=hqZ hc;clear hc hxl HBOX
            cases ox with
            | none=>
              have HCHK:Hq (M1.Chk T K):=hqZ (by
                rw [HKE.o];rcases HOX.o with ⟨_,h⟩ | ⟨_,_,_,_,h⟩
                · exact A4N HKN.o (by have:=HT.o.nb; omega) h
                · cases h)
              clear HOX HXL;simp only [Option.isSome_none];go_upto_region 7 with fail;refine Cx [] (λ b W=>True) (by kernel_rfl) ?_;have HC:=hqZ HC.o.drew;have HS:Hq True:=hqZ trivial;refine zT 0 ?_;refine zT 1 ?_;refine zS 2 ?_;refine zS 3 ?_;refine zS 4 ?_;refine zS 5 ?_;refine zS 6 ?_;refine zS 7 ?_;refine zS 8 ?_;refine zT 9 ?_;refine zT 10 ?_;refine zS 11 ?_;refine zS 12 ?_;refine zS 13 ?_;refine zS 14 ?_;refine zS 15 ?_;refine zS 16 ?_;refine zS 17 ?_;refine zT 18 ?_;refine zD ?_;clear HS;have HSH:Hq (∀W,Ac W (.blk B4 (bxO none x) 218::A2V none x::.blk B3 (Ab K) 43::.blk p (Fs q kb bb ob (.slice sa M1.all.length sc)) 134::D5 kb M1.keys::D5 ob M1.opens::.ownZ 29 1 (.slice sa M1.all.length sc) M1.all.length vs::Br vs M1.all::Lq aA 43 kkL bb r (ksM U) (λ z=>left z&& !z.sameKey (kkL ⟨K,hK16⟩)) cnt2::B2 q T::l)->Ac W (Lq aA 43 kkL bb r (ksM U) (λ z=>left z&& !z.sameKey (kkL ⟨K,hK16⟩)) cnt2::Jf p q kb bb ob M1::B2 q T::l)):=hqZ (λ W h=>(F9 h.tail.tail.tail).swap);go_wp2_with fail;go_roundw
              case rel=>
                exact ⟨M1,ag,_,cnt2,rfl,HRD.o.pass (left':=λ k=>left (kkL k)&& !(kkL k).sameKey (kkL ⟨K,hK16⟩)) ⟨K,hK16⟩ HCHK.o (λ j hj=>Uv hj),HSH.o _ HC.o⟩
              case measure=>
                have h1:=(HSH.o _ HC.o).rngVOf.left_eq;have h2:=HLE.o;have h3:=HCC.o;omega
            | some bx=>
              obtain ⟨i,hi,hik⟩:∃i,T.boxes[i]?=some bx/\K=Ao 98 (i+1):=by
                rcases HOX.o with ⟨h,_⟩ | ⟨i,bx',h1,h2,h3⟩
                · cases h
                · cases h3
                  exact ⟨i,h2,by rw [HKE.o,h1]⟩
              have HI:=hqZ hi;have HIK:=hqZ hik;have hb16:bx.by_.length=16:=by
                obtain ⟨y,hok,_⟩:=Bo.1 (HC.o.zP [9]);exact hok.1.bx bx (aJ hi)
              have HB16:=hqZ hb16;have HBYL:Hq ((Ab bx.by_).length=16):=hqZ (by rw [Aa]; exact hb16);have HBY:Hq (((bxO (some bx) x).drop 0).take 16=Ab bx.by_):=hqZ (by
                rw [aL,bxO,aQ (by rw [Aa]; omega),aH (by rw [Aa]; omega)])
              have HB17:Hq ((bxO (some bx) x)[17]?=some x):=hqZ (by simp [bxO,List.getElem?_append,Aa,hb16]);clear hi hik hb16 HOX;simp only [Option.isSome_some];go_upto_region 7 with fail;refine Cx [] (λ b W=>W.cell? ⟨p,3,none⟩=some (.map (some ob))/\W.cell? ⟨p,1,none⟩=some (.map (some kb))/\Oq W ob M1.opens/\Oq W kb M1.keys/\Al W B3 0 (Ab K)/\Al W B4 0 (Ab bx.by_)) (by kernel_rfl) ?_;have HC:=hqZ HC.o.drew;have HS:=hqZ (aB (HC.o.zc (p:=p) (k:=3) (v:=.map (some ob))) (aB (HC.o.zc (p:=p) (k:=1) (v:=.map (some kb))) (aB (HC.o.setAt (b:=ob) (S:=M1.opens) (by simp)) (aB (HC.o.setAt (b:=kb) (S:=M1.keys) (by simp)) (aB (HC.o.zca (p:=B3)) (HC.o.zr (p:=B4) (o:=0) (vs:=Ab bx.by_) HBY.o))))));refine zT 0 ?_;refine zT 1 ?_;refine zT 2 ?_;refine zT 3 ?_;refine zT 4 ?_;refine zT 5 ?_ (v:=.map (some ob)) (hr:=λ l W hk hW=>by have c:=hW.1; go_simp);refine zT 6 ?_ (v:=.agg (Ab K).toArray) (hr:=λ l W hk hW=>ldJ Am rfl HKL.o hW.2.2.2.2.1);by_cases hop:K∈M1.opens
              · have HOP:=hqZ hop;refine zT 7 ?_ (v:=.bool true) (hr:=λ l W hk hW=>Dq (.tmp 34) (.tmp 35) rfl hW.2.2.1 HK16.o rfl (decide_eq_true hop));clear hop;refine zT 8 ?_;refine zT 9 ?_;refine zT 10 ?_;refine zS 11 ?_;refine zS 12 ?_;refine zS 13 ?_;refine zS 14 ?_;refine zS 15 ?_;refine zS 16 ?_;refine zS 17 ?_;refine zT 18 ?_;refine zD ?_;clear HS;have HSH:Hq (∀W,Ac W (.blk B4 (bxO (some bx) x) 218::A2V (some bx) x::.blk B3 (Ab K) 43::.blk p (Fs q kb bb ob (.slice sa M1.all.length sc)) 134::D5 kb M1.keys::D5 ob M1.opens::.ownZ 29 1 (.slice sa M1.all.length sc) M1.all.length vs::Br vs M1.all::Lq aA 43 kkL bb r (ksM U) (λ z=>left z&& !z.sameKey (kkL ⟨K,hK16⟩)) cnt2::B2 q T::l)->Ac W (Lq aA 43 kkL bb r (ksM U) (λ z=>left z&& !z.sameKey (kkL ⟨K,hK16⟩)) cnt2::Jf p q kb bb ob M1::B2 q T::l)):=hqZ (λ W h=>(F9 h.tail.tail.tail).swap);go_wp2_with fail;go_roundw
                case rel=>
                  exact ⟨M1,ag,_,cnt2,rfl,HRD.o.pass (left':=λ k=>left (kkL k)&& !(kkL k).sameKey (kkL ⟨K,hK16⟩)) ⟨K,hK16⟩ (by show M1.Chk T K; rw [HIK.o]; exact A2e HI.o (by have:=HT.o.nb; omega) (.inl (by rw [<-HIK.o]; exact HOP.o))) (λ j hj=>Uv hj),HSH.o _ HC.o⟩
                case measure=>
                  have h1:=(HSH.o _ HC.o).rngVOf.left_eq;have h2:=HLE.o;have h3:=HCC.o;omega
              · have HOP:=hqZ hop;refine zT 7 ?_ (v:=.bool false) (hr:=λ l W hk hW=>Dq (.tmp 34) (.tmp 35) rfl hW.2.2.1 HK16.o rfl (decide_eq_false hop));clear hop;refine zT 8 ?_;refine zT 9 ?_;refine zT 10 ?_;refine zT 11 ?_;refine zT 12 ?_;refine zT 13 ?_;refine zT 14 ?_ (v:=.map (some kb)) (hr:=λ l W hk hW=>by have c:=hW.2.1; go_simp);refine zT 15 ?_;refine zT 16 ?_ (v:=.agg (Ab bx.by_).toArray) (hr:=λ l W hk hW=>ldJ Am rfl HBYL.o hW.2.2.2.2.2);by_cases hby:bx.by_∈M1.keys
                · have HBYK:=hqZ hby;refine zT 17 ?_ (v:=.bool true) (hr:=λ l W hk hW=>Dq (.tmp 43) (.tmp 45) rfl hW.2.2.2.1 HB16.o rfl (decide_eq_true hby));clear hby;refine zT 18 ?_;refine zD ?_;clear HS;have HRD3:Hq (Rd1 T M (M1.opened i bx) true λ k=>left (kkL k)&& !(kkL k).sameKey (kkL ⟨K,hK16⟩)):=hqZ (HRD.o.open HI.o (by rw [<-HIK.o]; exact HKM.o) (by rw [<-HIK.o]; exact HOP.o) HBYK.o);go_upto_region 8 with fail;refine Cx [] (λ b W=>W.cell? ⟨p,3,none⟩=some (.map (some ob))/\Al W B3 0 (Ab K)) (by kernel_rfl) ?_;have HC:=hqZ HC.o.drew;have HS:=hqZ (aB (HC.o.zc (p:=p) (k:=3) (v:=.map (some ob))) (HC.o.zca (p:=B3)));refine zT 0 ?_;refine zT 1 ?_;refine zT 2 ?_;refine zT 3 ?_ (v:=.map (some ob)) (hr:=λ l W hk hW=>by have c:=hW.1; go_simp);refine zT 4 ?_ (v:=.agg (Ab K).toArray) (hr:=λ l W hk hW=>ldJ Am rfl HKL.o hW.2);refine zJ 5 λ K' hK=>?_
                  refine H8 rfl _ _ _ rfl (HC.o.zP [5]) rfl (Ur (c:=98) (HOK2.o M1 HRD.o.st).opens) HK16.o rfl rfl ?_;intro w9 HC;refine zq hK ?_ (hS:=aB (HC.o.zc (p:=p) (k:=3) (v:=.map (some ob))) (HC.o.zca (p:=B3)));clear hK K' HS;refine zD ?_;have cx:=((HC.o.zB B4).cell 17).trans HB17.o;have hrow:Ac w9 (.row x bx.body::_):=HC.o.zP [2];obtain ⟨xa,xc,rfl,_,_⟩:=(hrow.rowOf (v:=x) (b:=bx.body) aE).form;have h5:Ac w9 (Jf p q kb bb ob { M1 with opens:=K::M1.opens } ::Lq aA 43 kkL bb r (ksM U) (λ z=>left z&& !z.sameKey (kkL ⟨K,hK16⟩)) cnt2::.row (.slice xa bx.body.length xc) bx.body::B2 q T::l):=(F9 (M:= { M1 with opens:=K::M1.opens }) (HC.o.zP [1,2,2,2,0,1,1,1,0]).tail.tail);have HTAKE:=hqZ (Q5 p q kb bb ob { M1 with opens:=K::M1.opens } (λ _=>Lq aA 43 kkL bb r (ksM U) (λ z=>left z&& !z.sameKey (kkL ⟨K,hK16⟩)) cnt2) (.slice xa bx.body.length xc) bx.body (.row (.slice xa bx.body.length xc) bx.body::B2 q T::l) w9 h5 (λ W h=>h.rowOf aE) (.inl (HT.o.body bx (aJ HI.o)).1)
                    ⟨(HOK2.o M1 HRD.o.st).keys,(HOK2.o M1 HRD.o.st).boxes,λ y hy=>(List.mem_cons.1 hy).elim (λ e=>⟨kn,HKN.o,by rw [e]; exact HKE.o⟩) ((HOK2.o M1 HRD.o.st).opens y)⟩
                    (by have:=HAL.o M1 HRD.o.st; show M1.all.length<=_; omega) (by have:=(HT.o.body bx (aJ HI.o)).2; omega))
                  clear h5 hrow HC;go_wp2_with fail;refine HTAKE.o.mono ?_;rintro e w10 ⟨rfl,hc⟩;have HC:=hqZ hc;clear hc HTAKE cx;have HSH:Hq (Ac w10 (Lq aA 43 kkL bb r (ksM U) (λ z=>left z&& !z.sameKey (kkL ⟨K,hK16⟩)) cnt2::Jf p q kb bb ob (M1.opened i bx)::B2 q T::l)):=hqZ (by
                    have h6:=(HC.o.zP [2]).tail;have e1:({ M1 with opens:=K::M1.opens } :Mi).take bx.body=M1.opened i bx:=by rw [HIK.o]; rfl
                    rw [e1] at h6;exact h6.swap)
                  go_wp2_with fail;go_roundw
                  case rel=>exact ⟨_,true,_,cnt2,rfl,HRD3.o,HSH.o⟩
                  case measure=>
                    have h1:=HSH.o.rngVOf.left_eq;have h2:=HLE.o;have h3:=HCC.o;omega
                · have HBYK:=hqZ hby;refine zT 17 ?_ (v:=.bool false) (hr:=λ l W hk hW=>Dq (.tmp 43) (.tmp 45) rfl hW.2.2.2.1 HB16.o rfl (decide_eq_false hby));clear hby;refine zT 18 ?_;refine zD ?_;clear HS;have HSH:Hq (∀W,Ac W (.blk B4 (bxO (some bx) x) 218::A2V (some bx) x::.blk B3 (Ab K) 43::.blk p (Fs q kb bb ob (.slice sa M1.all.length sc)) 134::D5 kb M1.keys::D5 ob M1.opens::.ownZ 29 1 (.slice sa M1.all.length sc) M1.all.length vs::Br vs M1.all::Lq aA 43 kkL bb r (ksM U) (λ z=>left z&& !z.sameKey (kkL ⟨K,hK16⟩)) cnt2::B2 q T::l)->Ac W (Lq aA 43 kkL bb r (ksM U) (λ z=>left z&& !z.sameKey (kkL ⟨K,hK16⟩)) cnt2::Jf p q kb bb ob M1::B2 q T::l)):=hqZ (λ W h=>(F9 h.tail.tail.tail).swap);go_wp2_with fail;go_roundw
                  case rel=>
                    exact ⟨M1,ag,_,cnt2,rfl,HRD.o.pass (left':=λ k=>left (kkL k)&& !(kkL k).sameKey (kkL ⟨K,hK16⟩)) ⟨K,hK16⟩ (by show M1.Chk T K; rw [HIK.o]; exact A2e HI.o (by have:=HT.o.nb; omega) (.inr HBYK.o)) (λ j hj=>Uv hj),HSH.o _ HC.o⟩
                  case measure=>
                    have h1:=(HSH.o _ HC.o).rngVOf.left_eq;have h2:=HLE.o;have h3:=HCC.o;omega
end Go.Proofs.YtbmjjfhpllpiaaaGreat
namespace Go.Proofs.YtbmjjfhpllpiaaaGreat
open Go.RowKit
theorem A3d (v u:bE) (a b:List UInt8) (w:bF) (ha:Bs w v a) (hb:Bs w u b): bG aA 92 #[v,u] w λ e w'=>e=.returned (.bool (decide (a=b)))/\Below w.heap.size w w':=by
  have HA:=hqZ ha;have HB:=hqZ hb;obtain ⟨ad,cap,rfl,hcap,hcm⟩:=ha.form;obtain ⟨bd,cap',rfl,hcap',hcm'⟩:=hb.form;clear ha hb;unfold maxLen at hcm hcm';by_cases hl:a.length=b.length
  · have hne:((a.length:Int) !=(b.length:Int))=false:=by simp [hl]
    have HLL:=hqZ hl;have hle:a.length<=b.length:=by omega
    have hge:b.length<=a.length:=by omega
    clear hl;go_enter aS,aT;go_wp2_with fail;go_loopw [13] (λ i wr=>∃(k n:Nat),k<=a.length/\i=.int .i64 k/\wr=w.drewN n/\∀j,j<k->a[j]?=b[j]?) (λ i _=>a.length- (intOf i).toNat)
    case atStart=>exact ⟨0,0,aF _,rfl,rfl,by simp⟩
    case round=>
      obtain ⟨k,n,hk,rfl,rfl,heq⟩:=hrel;have HE:=hqZ heq;clear heq;by_cases hlt:k<a.length
      · have hlt1:(k:Int)< (a.length:Int):=by omega
        have hltb:k<b.length:=by omega
        have hlt2:(k:Int)< (b.length:Int):=by omega
        obtain ⟨b1,o1,rfl,hc1⟩:=HA.o.addr (by rw [Aa]; omega);obtain ⟨b2,o2,rfl,hc2⟩:=HB.o.addr (by rw [Aa]; omega);have c1:w.cell? ⟨b1,o1+k,none⟩=some (.int .u8 a[k].toNat):=hc1 k _ (Cu a k hlt);have c2:w.cell? ⟨b2,o2+k,none⟩=some (.int .u8 b[k].toNat):=hc2 k _ (Cu b k hltb);clear hc1 hc2;by_cases hx:a[k]=b[k]
        · have hx1:((a[k].toNat:Int) !=(b[k].toNat:Int))=false:=by simp [hx]
          have HX:=hqZ hx;clear hx;have HE':Hq (∀j,j<k+1->a[j]?=b[j]?):=hqZ (by
            intro j hj;rcases aM j k with h | h
            · exact HE.o j h
            · obtain rfl:j=k:=by omega
              rw [aG hlt,aG hltb,HX.o])
          go_wp2_with fail;go_quiet (fail);go_wp2_with fail;go_roundw
          case rel=>exact ⟨k+1,_,by omega,by go_num,rfl,HE'.o⟩
          case measure=>simp [intOf]; omega
        · have hx1:((a[k].toNat:Int) !=(b[k].toNat:Int))=true:=by
            rw [bne_iff_ne];intro e;exact hx (UInt8.toNat_inj.1 (by omega))
          have HX:=hqZ hx;clear hx;have HR:Hq (decide (a=b)=false):=hqZ (by
            rw [decide_eq_false_iff_not];rintro rfl;exact HX.o rfl)
          go_wp2_with fail;go_quiet (fail);go_wp2_with fail;go_ret;rw [HR.o];exact ⟨rfl,by simpa [bF.drewN,Nat.add_assoc] using below_drewN (Below.refl _ w) (n+nq)⟩
      · obtain rfl:k=a.length:=by omega
        have HR:Hq (decide (a=b)=true):=hqZ (by
          rw [decide_eq_true_eq];apply List.ext_getElem?;intro j;rcases aM j a.length with h | h
          · exact HE.o j h
          · rw [aU h,aU (by omega)])
        go_wp2_with fail;go_ret;rw [HR.o];exact ⟨rfl,below_drewN (Below.refl _ _) _⟩
  · have hne:((a.length:Int) !=(b.length:Int))=true:=by rw [bne_iff_ne]; omega
    have HR:Hq (decide (a=b)=false):=hqZ (by rw [decide_eq_false_iff_not]; rintro rfl; exact hl rfl);clear hl;go_enter aS,aT;go_wp2_with fail;go_ret;rw [HR.o];exact ⟨rfl,Below.refl _ _⟩
theorem A0k {x b:List UInt8} {k:Nat} (hk:k+b.length<=x.length) (h:(x.drop k).take b.length=b):Fw x b=true:=by
  unfold Fw;rw [aN];exact ⟨k,List.mem_range.2 (by omega),decide_eq_true h⟩
theorem A0l {x b:List UInt8} {k:Nat} (hk:x.length<k+b.length) (h:∀j,j<k->¬(x.drop j).take b.length=b):Fw x b=false:=by
  unfold Fw;rw [List.any_eq_false];intro i hi;rw [decide_eq_true_eq];exact h i (by have:=List.mem_range.1 hi; omega)
theorem A0m (v u:bE) (x b:List UInt8) (w:bF) (hx:Bs w v x) (hb:Bs w u b) (lx:x.length<=1000000) (lb:b.length<=1000000): bG aA 45 #[v,u] w λ e w'=>e=.returned (.bool (Fw x b))/\Below w.heap.size w w':=by
  have HX:=hqZ hx;have HB:=hqZ hb;obtain ⟨xa,xc,rfl,hcx,hmx⟩:=hx.form;obtain ⟨ba,bc,rfl,hcb,hmb⟩:=hb.form;clear hx hb;unfold maxLen at hmx hmb;go_enter Tryz.func45,Tryz.ntmps45;go_wp2_with fail;go_loopw [5] (λ i wr=>∃(k:Nat),k<=x.length+1/\i=.int .i64 k/\Below w.heap.size w wr/\∀j,j<k->¬(x.drop j).take b.length=b) (λ i _=>x.length+2- (intOf i).toNat)
  case atStart=>exact ⟨0,aF _,rfl,Below.refl _ _,by simp⟩
  case round=>
    obtain ⟨k,hk,rfl,hbl,hno⟩:=hrel;have HBL:=hqZ hbl;have HNO:=hqZ hno;clear hbl hno;by_cases hlt:k+b.length<=x.length
    · have hlt1:(k:Int)+(b.length:Int)<=(x.length:Int):=by omega
      obtain ⟨A,hA⟩:∃A,A=I9 xa xc k:=⟨_,rfl⟩
      obtain ⟨C,hC⟩:∃C,C=xc-k:=⟨_,rfl⟩
      have hcut:∀W,(Instr.sliceAt 29 (.slice xa x.length xc) (some (.int .i64 (k:Int))) (some (.int .i64 ((k:Int)+(b.length:Int)))) none).run aA W=.ok (.slice A b.length C) W:=λ W=>by
        have:=Ng xa x.length xc k (k+b.length) (by omega) (by omega) W;rw [aV,<-hA,<-hC] at this;exact this
      have HR:Hq (Bs wr (.slice A b.length C) ((x.drop k).take b.length)):=hqZ (by
        have:=(HX.o.below HBL.o).cut k (k+b.length) (by omega) hlt;rw [aV,<-hA,<-hC] at this;exact this)
      have HE:=hqZ (A3d _ _ _ _ wr HR.o (HB.o.below HBL.o));clear hA hC;by_cases he:(x.drop k).take b.length=b
      · rw [decide_eq_true he] at HE;have HF:=hqZ (A0k hlt he);clear he;go_wp2_with fail;refine HE.o.mono ?_;rintro e w' ⟨rfl,hb⟩;have HB2:=hqZ (HBL.o.trans (hb.mono HBL.o.size));clear hb;go_wp2_with fail;go_ret;rw [HF.o];exact ⟨rfl,HB2.o⟩
      · rw [decide_eq_false he] at HE;have HN:Hq (∀j,j<k+1->¬(x.drop j).take b.length=b):=hqZ (by
          intro j hj;rcases aM j k with h | h
          · exact HNO.o j h
          · obtain rfl:j=k:=by omega
            exact he)
        clear he;go_wp2_with fail;refine HE.o.mono ?_;rintro e w' ⟨rfl,hb⟩;have HB2:=hqZ (HBL.o.trans (hb.mono HBL.o.size));clear hb;go_wp2_with fail;go_roundw
        case rel=>exact ⟨k+1,by omega,by go_num,HB2.o,HN.o⟩
        case measure=>simp [intOf]; omega
    · have hlt1:¬(k:Int)+(b.length:Int)<=(x.length:Int):=by omega
      have HF:=hqZ (A0l (by omega) HNO.o);go_wp2_with fail;go_ret;rw [HF.o];exact ⟨rfl,HBL.o⟩
end Go.Proofs.YtbmjjfhpllpiaaaGreat
namespace Go.Proofs.YtbmjjfhpllpiaaaGreat
def Sy.Wf (T:Sy):Prop:=∀x∈T.known,∃j,T.keys[j]?=some x.1/\x.2=Ao 107 (j+1)
theorem Sy.made_boxes (s:Sy) (f:Fk):(s.made f).2.boxes=s.boxes:=by
  unfold Sy.made;split <;> rfl
theorem Sy.made_le (s:Sy) (f:Fk):s.Le (s.made f).2:=by
  refine ⟨?_,by rw [Sy.made_boxes]; exact aO⟩;unfold Sy.made;split
  · exact aO
  · exact aK _ _
theorem Sy.Wf.made {s:Sy} (h:s.Wf) (f:Fk):(s.made f).2.Wf:=by
  unfold Sy.made;split
  · exact h
  · intro x hx;rcases Ra hx with rfl | ⟨hx,_⟩
    · exact ⟨s.keys.length,by simp [Sy.add],rfl⟩
    · obtain ⟨j,h1,h2⟩:=h x hx;exact ⟨j,Ht (aK _ _) h1,h2⟩
theorem Sy.Wf.mark {s:Sy} (h:s.Wf) (f:Fk):∃j,(s.made f).2.keys[j]?=some f/\(s.made f).1=Ao 107 (j+1):=by
  unfold Sy.made;split
  · rename_i hh;exact h _ (Gk hh zk)
  · exact ⟨s.keys.length,by simp [Sy.add],rfl⟩
theorem A2F (k:UInt8) (n:Nat):Ao k n≠zk:=by
  intro h
  have:=congrArg (λ l:List UInt8=>l.getD 0 0) h;simp [Ao,zk] at this
theorem Kn.made {s:Sy} {B:List (List UInt8)} {k0 k:List UInt8} (hw:s.Wf) (hk:Kn s B k0 k) (hm:∃j,k=Ao 107 (j+1)) (l:ByteArray) (hl:l.size<=maxLen):Kn (s.made (mkF k l false)).2 B k0 (s.made (mkF k l false)).1/\∃j,(s.made (mkF k l false)).1=Ao 107 (j+1):=by
  obtain ⟨i,hi⟩:=hm;have hkl:k.length=16:=by rw [hi,An]
  obtain ⟨j,h1,h2⟩:=hw.mark (mkF k l false);have ho:(mkF k l false).of_=k:=by rw [A0a hkl hl]
  refine ⟨?_,j,h2⟩;rw [h2];exact .der j _ h1 (by rw [ho,hi]; exact A2F _ _) (by rw [ho]; exact hk.mono (Sy.made_le _ _) λ _ h=>h)
structure A5S (T T':Sy) (k:List UInt8) (kn n:Nat) (body x:List UInt8):Prop where
  le:T.Le T'
  wf:T'.Wf
  bx:∃uk,T'.boxes=T.boxes++ [⟨uk,14,Dy kn n body⟩]/\x=Ao 98 (T.boxes.length+1)/\∀B k0,Kn T B k0 k->Kn T' B k0 uk
theorem A0e {T:Sy} (hT:T.Wf) {k:List UInt8} (hm:∃j,k=Ao 107 (j+1)) (kn n:Nat) (body:List UInt8):∃T',(recBox (.sym T) k kn n body).2=.sym T'/\A5S T T' k kn n body (recBox (.sym T) k kn n body).1:=by
  refine ⟨_,rfl,⟨?_,?_⟩,?_,?_⟩
  · exact (Sy.made_le T _).keys
  · show T.boxes <+:(T.made (mkF k A8 false)).2.boxes++_
    rw [Sy.made_boxes];exact aK _ _
  · exact hT.made _
  · refine ⟨(T.made (mkF k A8 false)).1,?_,?_,λ B k0 h=>?_⟩
    · show (T.made (mkF k A8 false)).2.boxes++_=_
      rw [Sy.made_boxes];rfl
    · show Ao 98 ((T.made (mkF k A8 false)).2.boxes.length+1)=_
      rw [Sy.made_boxes]
    · have h2:=(h.made hT hm A8 (by decide)).1;exact h2.mono ⟨aO,aK _ _⟩ λ _ h=>h
theorem Ji:∀e:Nat,e<100->A0 (.mk 0 0 e [] [])= [0,1,UInt8.ofNat e]:=by decide+kernel
theorem Jj {e:Nat} (h:e<250):UInt8.ofNat e≠255:=by
  intro h2
  have:=congrArg UInt8.toNat h2;simp at this;omega
theorem Ii (l:List UInt8) (h:l.length<128):A0 (.mk 1 0 0 l [])= [64,UInt8.ofNat l.length]++l:=by
  rw [A0];simp [Ei,Dn,h]
theorem A1f {kn n:Nat} {body:List UInt8} (hk:kn<100) (hn:n<100) (hb:body.length<60):Dy kn n body= [129,UInt8.ofNat (8+body.length),0,1,UInt8.ofNat kn,0,1,UInt8.ofNat n,64,UInt8.ofNat body.length]++body:=by
  have h1:Dy kn n body=A0 (.mk 2 1 0 [] [.mk 0 0 kn [] [],.mk 0 0 n [] [],.mk 1 0 0 body []]):=rfl;have h2:Az [.mk 0 0 kn [] [],.mk 0 0 n [] [],.mk 1 0 0 body []]= [0,1,UInt8.ofNat kn]++([0,1,UInt8.ofNat n]++([64,UInt8.ofNat body.length]++body)):=by
    simp only [Az,Ji kn hk,Ji n hn,Ii body (by omega),aW]
  rw [h1,A0];simp only [Ei,show ¬((2:Int)=0) by decide,show ¬((2:Int)=1) by decide,if_false,h2,Dn];rw [if_pos (by simp; omega)];have h3:([0,1,UInt8.ofNat kn]++([0,1,UInt8.ofNat n]++([64,UInt8.ofNat body.length]++body))).length=8+body.length:=by simp; omega
  rw [h3];rfl
theorem A2m {me pe bx:List UInt8} {e n:Nat} (hm:me.length=3) (hp:pe.length=3) (hx:bx.length=16) (he:e<100) (hn:n<100): frB me pe 5 e n bx=([147,37,64,3]++me++ [64,3]++pe++ [0,1,5,0,1,UInt8.ofNat e,0,1,UInt8.ofNat n,64,16])++bx:=by
  have h1:frB me pe 5 e n bx=A0 (.mk 2 19 0 [] [.mk 1 0 0 me [],.mk 1 0 0 pe [],.mk 0 0 5 [] [],.mk 0 0 e [] [],.mk 0 0 n [] [],.mk 1 0 0 bx []]):=rfl;have h2:Az [.mk 1 0 0 me [],.mk 1 0 0 pe [],.mk 0 0 5 [] [],.mk 0 0 e [] [],.mk 0 0 n [] [],.mk 1 0 0 bx []]= [64,3]++me++ [64,3]++pe++ [0,1,5,0,1,UInt8.ofNat e,0,1,UInt8.ofNat n,64,16]++bx:=by
    simp only [Az,Ji 5 (by decide),Ji e he,Ji n hn,Ii me (by omega),Ii pe (by omega),Ii bx (by omega),hm,hp,hx,aW];simp
  rw [h1,A0];simp only [Ei,show ¬((2:Int)=0) by decide,show ¬((2:Int)=1) by decide,if_false,h2,Dn];have h3:([64,3]++me++ [64,3]++pe++ [0,1,5,0,1,UInt8.ofNat e,0,1,UInt8.ofNat n,64,16]++bx).length=37:=by simp [hm,hp,hx]
  rw [h3];simp
theorem Xh {i:Nat} (h:i<250):Ao 98 i= [255,254,98,0,0,0,0,0]++Db i/\∀x∈Db i,x≠255:=by
  refine ⟨rfl,?_⟩
  have:∀i:Nat,i<250->∀x∈Db i,x≠255:=by decide+kernel
  exact this i h
theorem Ta {a b:List UInt8} (h:∀x∈a,x≠255):C1 (a++b)=C1 b:=by
  induction a with
  | nil=>rfl
  | cons x a ih=>
    rw [aX,E9 (λ hh=>h x aE hh.1),ih λ y hy=>h y (aY _ hy)]
theorem A2n {me pe:List UInt8} {e n i:Nat} (hm:me.length=3) (hp:pe.length=3) (hm2:∀x∈me,x≠255) (hp2:∀x∈pe,x≠255) (he:e<100) (hn:n<100) (hi:i<250): Ey (frB me pe 5 e n (Ao 98 i))=true/\Ao 98 i∈De (frB me pe 5 e n (Ao 98 i)):=by
  have hpre:∀x∈([147,37,64,3]++me++ [64,3]++pe++ [0,1,5,0,1,UInt8.ofNat e,0,1,UInt8.ofNat n,64,16]:List UInt8),x≠255:=by
    intro x hx;simp only [List.mem_append,aZ,bA,or_false] at hx;rcases hx with (((hx | hx) | hx) | hx) | hx
    · rcases hx with rfl | rfl | rfl | rfl <;> decide
    · exact hm2 x hx
    · rcases hx with rfl | rfl <;> decide
    · exact hp2 x hx
    · rcases hx with rfl | rfl | rfl | rfl | rfl | rfl | rfl | rfl | rfl | rfl | rfl
      any_goals decide
      · exact Jj (by omega)
      · exact Jj (by omega)
  obtain ⟨e1,h1⟩:=Xh hi;rw [A2m hm hp (An _ _) he hn];refine ⟨?_,?_⟩
  · rw [Yi hpre,e1];show Ey (255::254::98::0::0::0::0::0::Db i)=true
    simp [Ey,A1L h1]
  · unfold De;rw [Ta hpre];have h2:C1 (Ao 98 i)=Ao 98 i::C1 ((Ao 98 i).drop 1):=by
      show C1 (255::(Ao 98 i).drop 1)=_
      rw [C1];have ht:(255::(Ao 98 i).drop 1).take 16=Ao 98 i:=by
        show (Ao 98 i).take 16=Ao 98 i
        exact aH (by rw [An]; omega)
      rw [ht,if_pos (by rw [F8.2 ⟨rfl,by omega,.inr (.inl rfl)⟩]; rfl)]
    rw [h2];exact List.mem_filter.2 ⟨aE,by simp [Ao]⟩
def T0:Sy:=match (Ga (.sym .nil)).s9 with | .sym s=>s
def G8:List UInt8:=Ao 107 2
def Em:List UInt8:=Ao 107 5
def My:List UInt8:=Ao 107 10
def L0:List (List UInt8):=(Ga (.sym .nil)).talk.L
theorem A6a:(Ga (.sym .nil)).talk.s=.sym T0:=rfl
def Bz (L:List (List UInt8)):List (List UInt8):=(L.map De).flatten
def wfB (T:Sy):Bool:=T.known.all λ x=>(List.range T.keys.length).any λ j=>decide (T.keys[j]?=some x.1)&&decide (x.2=Ao 107 (j+1))
theorem A5h {T:Sy} (h:wfB T=true):T.Wf:=by
  intro x hx;have h1:=List.all_eq_true.1 h x hx;obtain ⟨j,_,h2⟩:=List.any_eq_true.1 h1;simp only [Bool.and_eq_true,decide_eq_true_eq] at h2;exact ⟨j,h2.1,h2.2⟩
def A2a (T:Sy) (i:Nat) (k k':List UInt8):Bool:=match T.boxes[i]? with | some bx=>decide (bx.by_=k)&&decide (k'∈Hu bx.body) | none=>false
theorem I7 {T:Sy} {B:List (List UInt8)} {k0 k k':List UInt8} {i:Nat} (h:A2a T i k k'=true) (hm:Ao 98 (i+1)∈B) (hk:Kn T B k0 k):Kn T B k0 k':=by
  unfold A2a at h;split at h
  · rename_i bx hb;simp only [Bool.and_eq_true,decide_eq_true_eq] at h;exact .box i bx k' hb hm (by rw [h.1]; exact hk) h.2
  · cases h
def A2z (T:Sy) (j:Nat) (k:List UInt8):Bool:=match T.keys[j]? with | some f=>decide (f.of_=k)&&decide (f.of_≠zk) | none=>false
theorem Th {T:Sy} {B:List (List UInt8)} {k0 k:List UInt8} {j:Nat} (h:A2z T j k=true) (hk:Kn T B k0 k):Kn T B k0 (Ao 107 (j+1)):=by
  unfold A2z at h;split at h
  · rename_i f hf;simp only [Bool.and_eq_true,decide_eq_true_eq] at h;exact .der j f hf h.2 (by rw [h.1]; exact hk)
  · cases h
theorem A5O:T0.Wf:=A5h (by decide+kernel)
theorem A5L:T0.boxes.length=11:=by decide+kernel
theorem A4g:∀x∈L0,Ey x=true:=by
  have:L0.all Ey=true:=by decide+kernel
  exact λ x hx=>List.all_eq_true.1 this x hx
theorem A5b:∀x∈L0,x.length<=3000:=by
  have:(L0.all λ x=>decide (x.length<=3000))=true:=by decide+kernel
  exact λ x hx=>of_decide_eq_true (List.all_eq_true.1 this x hx)
theorem A4f:∀bx∈T0.boxes,De bx.body= []/\bx.body.length<=2000:=by
  have:(T0.boxes.all λ bx=>(De bx.body).isEmpty&&decide (bx.body.length<=2000))=true:=by decide+kernel
  intro x hx;have h:=List.all_eq_true.1 this x hx;rw [Bool.and_eq_true,decide_eq_true_eq] at h;exact ⟨List.isEmpty_iff.1 h.1,h.2⟩
theorem A4A:(Ga (.sym .nil)).ka=Ao 107 11:=by decide+kernel
theorem A4B:(Ga (.sym .nil)).kb=Ao 107 12:=by decide+kernel
theorem A5c:(Ga (.sym .nil)).sub=My:=by decide+kernel
theorem Nn:∀i∈ [2,5,7,8,9],Ao 98 (i+1)∈Bz L0:=by decide+kernel
theorem A4C:Kn T0 (Bz L0) G8 (Ao 107 9)/\Kn T0 (Bz L0) Em (Ao 107 9):=by
  refine ⟨?_,?_⟩
  · have h1:Kn T0 (Bz L0) G8 (Ao 107 4):=I7 (i:=2) (k:=G8) (by decide+kernel) (Nn 2 (by simp)) .base;exact I7 (i:=8) (by decide+kernel) (Nn 8 (by simp)) h1
  · have h1:Kn T0 (Bz L0) Em (Ao 107 7):=I7 (i:=5) (k:=Em) (by decide+kernel) (Nn 5 (by simp)) .base;exact I7 (i:=7) (by decide+kernel) (Nn 7 (by simp)) h1
theorem A5K {k0:List UInt8} (h:k0=G8\/k0=Em):Kn T0 (Bz L0) k0 My/\Kn T0 (Bz L0) k0 (Ao 107 11)/\Kn T0 (Bz L0) k0 (Ao 107 12):=by
  have h9:Kn T0 (Bz L0) k0 (Ao 107 9):=by
    rcases h with rfl | rfl
    · exact A4C.1
    · exact A4C.2
  have hs:Kn T0 (Bz L0) k0 My:=I7 (i:=9) (by decide+kernel) (Nn 9 (by simp)) h9;exact ⟨hs,Th (j:=10) (by decide+kernel) hs,Th (j:=11) (by decide+kernel) hs⟩
theorem A5M:PS.Mde (.sym T0) (PS.textF paB.data.toList Av) G8 []:=by
  show Ej T0.known (PS.textF paB.data.toList Av)=true/\G6 T0.known (PS.textF paB.data.toList Av) zk=G8
  decide+kernel
theorem A5N:PS.Mde (.sym T0) (PS.textF pbB.data.toList Aw) Em []:=by
  show Ej T0.known (PS.textF pbB.data.toList Aw)=true/\G6 T0.known (PS.textF pbB.data.toList Aw) zk=Em
  decide+kernel
theorem Ff (L:List (List UInt8)) (x:List UInt8):Bz (L++ [x])=Bz L++De x:=by simp [Bz]
structure Qg (T:Sy) (L:List (List UInt8)) (m:Nat):Prop where
  wf:T.Wf
  nb:T.boxes.length=m
  tame:∀x∈L,Ey x=true
  len:∀x∈L,x.length<=3000
  none:∀bx∈T.boxes,De bx.body= []/\bx.body.length<=2000
theorem Qg.rcd {T:Sy} {L:List (List UInt8)} {m:Nat} (h:Qg T L m) {k:List UInt8} (hk:∃j,k=Ao 107 (j+1)) {kn n:Nat} {body:List UInt8} (hb:De (Dy kn n body)= []/\(Dy kn n body).length<=2000) {me pe:List UInt8} {e n2:Nat} (hm:me.length=3) (hp:pe.length=3) (hm2:∀x∈me,x≠255) (hp2:∀x∈pe,x≠255) (he:e<100) (hn:n2<100) (hi:m<200): ∃T',(recBox (.sym T) k kn n body).2=.sym T'/\T.Le T'/\Qg T' (L++ [frB me pe 5 e n2 (recBox (.sym T) k kn n body).1]) (m+1)/\∃uk,T'.boxes[m]?=some ⟨uk,14,Dy kn n body⟩/\Ao 98 (m+1)∈Bz (L++ [frB me pe 5 e n2 (recBox (.sym T) k kn n body).1])/\ ∀k0,Kn T (Bz L) k0 k->Kn T' (Bz (L++ [frB me pe 5 e n2 (recBox (.sym T) k kn n body).1])) k0 uk:=by
  obtain ⟨T',h1,r⟩:=A0e h.wf hk kn n body;obtain ⟨uk,hbx,hx,hkn⟩:=r.bx;rw [h.nb] at hx;obtain ⟨f1,f2⟩:=A2n hm hp hm2 hp2 he hn (i:=m+1) (by omega);rw [hx,Ff];refine ⟨T',h1,r.le,⟨r.wf,by rw [hbx]; simp [h.nb],?_,?_,?_⟩,uk,?_,bB _ f2,λ k0 hk0=>?_⟩
  · intro x hxm;rcases List.mem_append.1 hxm with hxm | hxm
    · exact h.tame x hxm
    · rw [List.mem_singleton.1 hxm]; exact f1
  · intro x hxm;rcases List.mem_append.1 hxm with hxm | hxm
    · exact h.len x hxm
    · rw [List.mem_singleton.1 hxm,A2m hm hp (An _ _) he hn];simp [An,hm,hp]
  · intro b hbm;rw [hbx] at hbm;rcases List.mem_append.1 hbm with hbm | hbm
    · exact h.none b hbm
    · rw [List.mem_singleton.1 hbm]; exact hb
  · rw [hbx,<-h.nb,List.getElem?_append_right (aD _)];simp
  · exact (hkn _ _ hk0).mono (Sy.Le.refl _) λ _ hm=>aC _ hm
theorem Y3 {kn n:Nat} {body:List UInt8} (hk:kn<100) (hn:n<100) (hb:body.length<60) (hf:C1 body= []):De (Dy kn n body)= []:=by
  unfold De;rw [A1f hk hn hb,Ta,hf]
  · rfl
  · intro x hx;simp only [aZ,bA,or_false] at hx;rcases hx with rfl | rfl | rfl | rfl | rfl | rfl | rfl | rfl | rfl | rfl
    any_goals decide
    · exact Jj (by omega)
    · exact Jj (by omega)
    · exact Jj (by omega)
    · exact Jj (by omega)
theorem Xt {kn n:Nat} {body:List UInt8} (hk:kn<100) (hn:n<100) (hb:body.length<60) (hf:C1 body= []):De (Dy kn n body)= []/\(Dy kn n body).length<=2000:=
  ⟨Y3 hk hn hb hf,by rw [A1f hk hn hb]; simp; omega⟩
structure TkI (t:Iw) (T:Sy) (d:Nat) (said:List (List UInt8)):Prop where
  s:t.s=.sym T
  i:Qg T t.L (11+2*d)
  ma:∃j,t.ka=Ao 107 (j+1)
  mb:∃j,t.kb=Ao 107 (j+1)
  kn:∀k0,k0=G8\/k0=Em->Kn T (Bz t.L) k0 My/\Kn T (Bz t.L) k0 t.ka/\Kn T (Bz t.L) k0 t.kb
  pa:PS.Mde (.sym T) (PS.textF paB.data.toList Av) G8 []
  pb:PS.Mde (.sym T) (PS.textF pbB.data.toList Aw) Em []
  said:∀b∈said,∃i bx,T.boxes[i]?=some bx/\Ao 98 (i+1)∈Bz t.L/\(∀k0,k0=G8\/k0=Em->Kn T (Bz t.L) k0 bx.by_)/\∃kn n,bx.body=Dy kn n b
theorem A5Z:TkI (Ga (.sym .nil)).talk T0 0 [] where
  s:=A6a
  i:=⟨A5O,A5L,A4g,A5b,A4f⟩
  ma:=⟨10,A4A⟩
  mb:=⟨11,A4B⟩
  kn:=λ k0 h=>by
    have:=A5K h;show Kn T0 (Bz L0) k0 My/\Kn T0 (Bz L0) k0 (Ga (.sym .nil)).ka/\Kn T0 (Bz L0) k0 (Ga (.sym .nil)).kb
    rw [A4A,A4B];exact this
  pa:=A5M
  pb:=A5N
  said:=λ b hb=>by cases hb
structure Way (T:Sy) (L:List (List UInt8)) (m:Nat) (k k2:List UInt8):Prop where
  i:Qg T L m
  m1:∃j,k=Ao 107 (j+1)
  m2:∃j,k2=Ao 107 (j+1)
theorem Yx {T:Sy} {L:List (List UInt8)} {m:Nat} {k k2:List UInt8} (h:Way T L m k k2) {me pe:List UInt8} {e n e2:Nat} (rk:Bool) {body:List UInt8} (hm:me.length=3) (hp:pe.length=3) (hm2:∀x∈me,x≠255) (hp2:∀x∈pe,x≠255) (he:e<90) (he2:e2<90) (hn:n<90) (hi:m<190) (hb:body.length<60) (hf:C1 body= []) {kn0:List UInt8->Prop} : ∃T',(Dd 5 (.sym T) me pe k e n k2 e2 rk body).s=.sym T'/\T.Le T'/\Way T' (L++ [(Dd 5 (.sym T) me pe k e n k2 e2 rk body).f]++ [(Dd 5 (.sym T) me pe k e n k2 e2 rk body).g]) (m+2) (Dd 5 (.sym T) me pe k e n k2 e2 rk body).k k2/\ (∀k0,Kn T (Bz L) k0 k->Kn T' (Bz (L++ [(Dd 5 (.sym T) me pe k e n k2 e2 rk body).f]++ [(Dd 5 (.sym T) me pe k e n k2 e2 rk body).g])) k0 (Dd 5 (.sym T) me pe k e n k2 e2 rk body).k)/\ (rk=false->∃uk,T'.boxes[m]?=some ⟨uk,14,Dy 1 (n+1) body⟩/\Ao 98 (m+1)∈Bz (L++ [(Dd 5 (.sym T) me pe k e n k2 e2 rk body).f]++ [(Dd 5 (.sym T) me pe k e n k2 e2 rk body).g])/\∀k0,Kn T (Bz L) k0 k->Kn T' (Bz (L++ [(Dd 5 (.sym T) me pe k e n k2 e2 rk body).f]++ [(Dd 5 (.sym T) me pe k e n k2 e2 rk body).g])) k0 uk):=by
  have nil2:∀kn q,kn<100->q<100->De (Dy kn q [])= []/\(Dy kn q []).length<=2000:=λ kn q h1 h2=>Xt h1 h2 (by decide) rfl
  have sub:∀(A:List (List UInt8)) (x:List UInt8),∀y∈Bz A,y∈Bz (A++ [x]):=λ A x y hy=>by rw [Ff]; exact aC _ hy
  cases rk with
  | false=>
    obtain ⟨T1,e1,l1,i1,uk,b1,s1,k1⟩:=h.i.rcd h.m1 (kn:=1) (n:=n+1) (body:=body) (Xt (by decide) (by omega) hb hf) (me:=me) (pe:=pe) (e:=e) (n2:=n+1) hm hp hm2 hp2 (by omega) (by omega) (by omega);obtain ⟨T2,e2',l2,i2,uk2,b2,s2,k2'⟩:=i1.rcd h.m2 (kn:=2) (n:=n+1) (body:= []) (nil2 _ _ (by decide) (by omega)) (me:=pe) (pe:=me) (e:=e2) (n2:=n+1) hp hm hp2 hm2 (by omega) (by omega) (by omega);have ew:Dd 5 (.sym T) me pe k e n k2 e2 false body=⟨.sym T2,k,frB me pe 5 e (n+1) (recBox (.sym T) k 1 (n+1) body).1,frB pe me 5 e2 (n+1) (recBox (.sym T1) k2 2 (n+1) []).1⟩:=by
      simp only [Dd,Bool.false_eq_true,if_false,e1,e2']
    rw [ew];refine ⟨T2,rfl,l1.trans l2,⟨i2,h.m1,h.m2⟩,λ k0 hk=>hk.mono (l1.trans l2) λ y hy=>sub _ _ _ (sub _ _ _ hy),λ _=>⟨uk,Ht l2.boxes b1,sub _ _ _ s1,λ k0 hk=>(k1 k0 hk).mono l2 (sub _ _)⟩⟩
  | true=>
    obtain ⟨T1,e1,l1,i1,uk,b1,s1,k1⟩:=h.i.rcd h.m1 (kn:=3) (n:=n+1) (body:= []) (nil2 _ _ (by decide) (by omega)) (me:=me) (pe:=pe) (e:=e) (n2:=n+1) hm hp hm2 hp2 (by omega) (by omega) (by omega);have w1:=i1.wf.made (mkF k Bh false);have i1':Qg (T1.made (mkF k Bh false)).2 (L++ [frB me pe 5 e (n+1) (recBox (.sym T) k 3 (n+1) []).1]) (m+1):=⟨w1,by rw [Sy.made_boxes]; exact i1.nb,i1.tame,i1.len,by rw [Sy.made_boxes]; exact i1.none⟩;have hmk':∃j,(T1.made (mkF k Bh false)).1=Ao 107 (j+1):=by
      obtain ⟨j,_,hj⟩:=i1.wf.mark (mkF k Bh false);exact ⟨j,hj⟩
    obtain ⟨T2,e2',l2,i2,uk2,b2,s2,k2'⟩:=i1'.rcd h.m2 (kn:=2) (n:=n+1) (body:= []) (nil2 _ _ (by decide) (by omega)) (me:=pe) (pe:=me) (e:=e2) (n2:=n+1) hp hm hp2 hm2 (by omega) (by omega) (by omega);have ew:Dd 5 (.sym T) me pe k e n k2 e2 true body=⟨.sym T2,(T1.made (mkF k Bh false)).1,frB me pe 5 e (n+1) (recBox (.sym T) k 3 (n+1) []).1,frB pe me 5 e2 (n+1) (recBox (.sym (T1.made (mkF k Bh false)).2) k2 2 (n+1) []).1⟩:=by
      simp only [Dd,if_true,e1,PS.derive,PS.lift,e2']
    rw [ew];refine ⟨T2,rfl,(l1.trans (Sy.made_le _ _)).trans l2,⟨i2,hmk',h.m2⟩,λ k0 hk=>?_,λ hh=>by cases hh⟩;have h1:Kn T1 (Bz (L++ [frB me pe 5 e (n+1) (recBox (.sym T) k 3 (n+1) []).1])) k0 k:=hk.mono l1 (sub _ _);exact ((h1.made i1.wf h.m1 Bh (by decide)).1).mono l2 (sub _ _)
theorem A1l (s:PS) (me pe k k2:List UInt8) (e n e2:Nat) (rk:Bool) (body:List UInt8):∃m,PS.Gr m s (Dd 5 s me pe k e n k2 e2 rk body).s:=by
  cases rk
  · have h:=(Dc s k 1 (n+1) body).trans (Dc (recBox s k 1 (n+1) body).2 k2 2 (n+1) []);exact ⟨_,h⟩
  · have h:=((Dc s k 3 (n+1) []).trans (PS.gr_derive (recBox s k 3 (n+1) []).2 k Bh)).trans (Dc ((recBox s k 3 (n+1) []).2.derive k Bh).2 k2 2 (n+1) []);exact ⟨_,h⟩
theorem TkI.say {t:Iw} {T:Sy} {d:Nat} {said:List (List UInt8)} (h:TkI t T d said) (hok:t.Ok d) (hd:d<60) (i rk:Bool) {body:List UInt8} (hb:body.length<60) (hf:C1 body= []): ∃T',TkI (t.say i rk body) T' (d+1) (if rk then said else said++ [body]):=by
  have h1:=hok.ea; have h2:=hok.eb; have h3:=hok.na; have h4:=hok.nb;have na:∀x∈Av,x≠255:=by decide
  have nb:∀x∈Aw,x≠255:=by decide
  have fin:∀(T':Sy) (F G ka kb:List UInt8),T.Le T'->(∃m,PS.Gr m t.s (.sym T'))->Qg T' (t.L++ [F]++ [G]) (11+2*d+2)->(∃j,ka=Ao 107 (j+1))->(∃j,kb=Ao 107 (j+1))->
      (∀k0,Kn T (Bz t.L) k0 t.ka->Kn T' (Bz (t.L++ [F]++ [G])) k0 ka)->(∀k0,Kn T (Bz t.L) k0 t.kb->Kn T' (Bz (t.L++ [F]++ [G])) k0 kb)->
      (rk=false->∃uk,T'.boxes[11+2*d]?=some uk/\Ao 98 (11+2*d+1)∈Bz (t.L++ [F]++ [G])/\(∀k0,k0=G8\/k0=Em->Kn T' (Bz (t.L++ [F]++ [G])) k0 uk.by_)/\∃kn n,uk.body=Dy kn n body)->
      ∀t':Iw,t'.s=.sym T'->t'.L=t.L++ [F]++ [G]->t'.ka=ka->t'.kb=kb->TkI t' T' (d+1) (if rk then said else said++ [body]):=by
    intro T' F G ka kb hl hg hi hka hkb ha hb' hsd t' es eL eka ekb;have sub:∀y∈Bz t.L,y∈Bz (t.L++ [F]++ [G]):=λ y hy=>by rw [Ff,Ff]; exact aC _ (aC _ hy)
    obtain ⟨mm,hg⟩:=hg;rw [h.s] at hg;refine ⟨es,?_,?_,?_,?_,hg.mde h.pa,hg.mde h.pb,?_⟩
    · rw [eL,show 11+2*(d+1)=11+2*d+2 by omega]; exact hi
    · rw [eka]; exact hka
    · rw [ekb]; exact hkb
    · intro k0 hk0;obtain ⟨c1,c2,c3⟩:=h.kn k0 hk0;rw [eL,eka,ekb];exact ⟨c1.mono hl sub,ha k0 c2,hb' k0 c3⟩
    · intro b hbm;rw [eL];have old:b∈said->∃i bx,T'.boxes[i]?=some bx/\Ao 98 (i+1)∈Bz (t.L++ [F]++ [G])/\(∀k0,k0=G8\/k0=Em->Kn T' (Bz (t.L++ [F]++ [G])) k0 bx.by_)/\∃kn n,bx.body=Dy kn n b:=λ hbm=>by
        obtain ⟨i,bx,g1,g2,g3,g4⟩:=h.said b hbm;exact ⟨i,bx,Ht hl.boxes g1,sub _ g2,λ k0 hk0=>(g3 k0 hk0).mono hl sub,g4⟩
      cases rk with
      | true=>exact old hbm
      | false=>
        rcases List.mem_append.1 hbm with hbm | hbm
        · exact old hbm
        · rw [List.mem_singleton.1 hbm];obtain ⟨uk,u1,u2,u3,u4⟩:=hsd rfl;exact ⟨_,uk,u1,u2,u3,u4⟩
  cases i with
  | false=>
    obtain ⟨T',e1,l1,w1,k1,b1⟩:=Yx (kn0:=λ _=>True) ⟨h.i,h.ma,h.mb⟩ (me:=Av) (pe:=Aw) (e:=t.ea) (n:=t.na) (e2:=t.eb) rk (by rfl) (by rfl) na nb (by omega) (by omega) (by omega) (by omega) hb hf;rw [<-h.s] at e1 w1 k1 b1;refine ⟨T',fin T' _ _ _ _ l1 (by rw [<-e1]; exact A1l _ _ _ _ _ _ _ _ _ _) w1.i w1.m1 w1.m2 k1 (λ k0 hk=>hk.mono l1 λ y hy=>by rw [Ff,Ff]; exact aC _ (aC _ hy)) (λ hr=>?_) _ ?_ ?_ ?_ ?_⟩
    · obtain ⟨uk,u1,u2,u3⟩:=b1 hr;exact ⟨_,u1,u2,λ k0 hk0=>u3 k0 (h.kn k0 hk0).2.1,_,_,rfl⟩
    all_goals first | exact e1 | rfl
  | true=>
    obtain ⟨T',e1,l1,w1,k1,b1⟩:=Yx (kn0:=λ _=>True) ⟨h.i,h.mb,h.ma⟩ (me:=Aw) (pe:=Av) (e:=t.eb) (n:=t.nb) (e2:=t.ea) rk (by rfl) (by rfl) nb na (by omega) (by omega) (by omega) (by omega) hb hf;rw [<-h.s] at e1 w1 k1 b1;refine ⟨T',fin T' _ _ _ _ l1 (by rw [<-e1]; exact A1l _ _ _ _ _ _ _ _ _ _) w1.i w1.m2 w1.m1 (λ k0 hk=>hk.mono l1 λ y hy=>by rw [Ff,Ff]; exact aC _ (aC _ hy)) k1 (λ hr=>?_) _ ?_ ?_ ?_ ?_⟩
    · obtain ⟨uk,u1,u2,u3⟩:=b1 hr;exact ⟨_,u1,u2,λ k0 hk0=>u3 k0 (h.kn k0 hk0).2.2,_,_,rfl⟩
    all_goals first | exact e1 | rfl
def Lk (x b:List UInt8):Prop:=∃u v,x=u++b++v
def Mi.see (L:List (List UInt8)):Mi:=L.foldl Mi.take .nil
theorem Kx:∀(L:List (List UInt8)) (M:Mi),(∀x∈L,Ey x=true)->(L.foldl Mi.take M).keys=M.keys/\(L.foldl Mi.take M).opens=M.opens/\(L.foldl Mi.take M).all=M.all++L/\(∀y∈M.boxes,y∈(L.foldl Mi.take M).boxes)/\∀y∈Bz L,y∈(L.foldl Mi.take M).boxes
  | [],M,_=>⟨rfl,rfl,by simp,λ _ h=>h,λ y h=>by simp [Bz] at h⟩
  | x::L,M,h=>by
    obtain ⟨h1,h2,h3,h4,h5⟩:=Kx L (M.take x) λ y hy=>h y (aY _ hy)
    rw [List.foldl_cons];refine ⟨?_,h2,?_,λ y hy=>h4 y (bB _ hy),λ y hy=>?_⟩
    · rw [h1];show Hu x++M.keys=M.keys
      rw [Po (h x aE)];rfl
    · rw [h3];show M.all++ [x]++L=_
      simp
    · have:y∈De x++Bz L:=by simpa [Bz] using hy
      rcases List.mem_append.1 this with hy | hy
      · exact h4 y (aC _ hy)
      · exact h5 y hy
theorem Mi.see_keys {L:List (List UInt8)} (h:∀x∈L,Ey x=true):(Mi.see L).keys= []:=(Kx L .nil h).1
theorem Mi.see_opens {L:List (List UInt8)} (h:∀x∈L,Ey x=true):(Mi.see L).opens= []:=(Kx L .nil h).2.1
theorem Mi.see_all {L:List (List UInt8)} (h:∀x∈L,Ey x=true):(Mi.see L).all=L:=(Kx L .nil h).2.2.1
theorem Mi.see_boxes {L:List (List UInt8)} (h:∀x∈L,Ey x=true):∀y∈Bz L,y∈(Mi.see L).boxes:=(Kx L .nil h).2.2.2.2
theorem Mi.see_snoc (L:List (List UInt8)) (x:List UInt8):Mi.see (L++ [x])=(Mi.see L).take x:=by simp [Mi.see]
theorem Yj {x:List UInt8} {b:List UInt8} (h:Ey x=true):¬Lk x (255::255::b):=by
  rintro ⟨u,v,rfl⟩
  have:=Yk (u:=u) (v:=b++v);simp only [aP,aX] at h;rw [this] at h
  cases h
def Ni (i:UInt8) (b:List UInt8):List UInt8:= [255,255,255,255,250,i]++b
theorem A0g {i:UInt8} {b:List UInt8} (hi:i≠255) (h:C1 b= []):C1 (Ni i b)= []:=by
  show C1 (255::255::255::255::250::i::b)= []
  rw [E9 (by simp),E9 (by simp),E9 (by simp),E9 (by simp),E9 (by simp),E9 (by simp [hi]),h]
theorem A5f {L:List (List UInt8)} (h:∀x∈L,Ey x=true) (i:UInt8) (b:List UInt8):¬ ∃x∈(Mi.see L).all,Lk x (Ni i b):=by
  rintro ⟨x,hx,hs⟩;rw [Mi.see_all h] at hx;exact Yj (h x hx) hs
theorem TkI.told {t:Iw} {T:Sy} {d:Nat} {said:List (List UInt8)} (h:TkI t T d said) (hd:d<60) {k0:List UInt8} (hk:k0=G8\/k0=Em) {M:Mi} (hs:Mi.Steps T { Mi.see t.L with keys:= [k0] } M) (hc:M.Closed T):
    My∈M.keys/\∀b∈said,∃x∈M.all,Lk x b:=by
  have hi0:Mi.Inv T { Mi.see t.L with keys:= [k0] } :=by
    intro i bx _ hm
    have:Ao 98 (i+1)∈(Mi.see t.L).opens:=hm;rw [Mi.see_opens h.i.tame] at this
    cases this
  have hT:T.boxes.length<1099511627776:=by rw [h.i.nb]; omega
  have hi:=hs.inv hT hi0;have hB:∀m∈Bz t.L,m∈M.boxes:=λ m hm=>hs.le.boxes m (Mi.see_boxes h.i.tame m hm)
  have h0:k0∈M.keys:=hs.le.keys k0 aE;refine ⟨(h.kn k0 hk).1.known hc hi hB h0,λ b hb=>?_⟩;obtain ⟨i,bx,h1,h2,h3,kn,n,h4⟩:=h.said b hb;refine ⟨_,Kn.heard h1 h2 (h3 k0 hk) hc hi hB h0,?_⟩;rw [h4];have e:Dy kn n b=Dn 2 1 (Az [.mk 0 0 kn [] [],.mk 0 0 n [] [],.mk 1 0 0 b []]).length++(A0 (.mk 0 0 kn [] [])++(A0 (.mk 0 0 n [] [])++(Dn 1 0 b.length++b))):=by
    have h1:Dy kn n b=A0 (.mk 2 1 0 [] [.mk 0 0 kn [] [],.mk 0 0 n [] [],.mk 1 0 0 b []]):=rfl;rw [h1,A0];simp [Ei,Az,A0]
  exact ⟨Dn 2 1 (Az [.mk 0 0 kn [] [],.mk 0 0 n [] [],.mk 1 0 0 b []]).length++(A0 (.mk 0 0 kn [] [])++(A0 (.mk 0 0 n [] [])++Dn 1 0 b.length)), [],by rw [e]; simp⟩
def Qf (said:List (List UInt8)):Prop:=∀b∈said,∃(i:UInt8) (x:List UInt8),b=Ni i x
theorem Qf.nil:Qf []:=λ _ h=>by cases h
theorem Qf.snoc {said:List (List UInt8)} (h:Qf said) (i:UInt8) (x:List UInt8):Qf (said++ [Ni i x]):=λ b hb=>(List.mem_append.1 hb).elim (h b) λ hb=>⟨i,x,List.mem_singleton.1 hb⟩
theorem Ya {x b:List UInt8} :Fw x b=true↔Lk x b:=by
  unfold Fw Lk;rw [aN];constructor
  · rintro ⟨i,_,hi⟩;refine ⟨x.take i,(x.drop i).drop b.length,?_⟩;have hi:=of_decide_eq_true hi
    conv=>lhs; rw [<-bC i x,<-bC b.length (x.drop i),hi]
    rw [aP]
  · rintro ⟨u,v,rfl⟩;refine ⟨u.length,List.mem_range.2 ?_,?_⟩
    · simp only [List.length_append]; omega
    · rw [decide_eq_true_eq,aP,List.drop_left,List.take_left]
theorem Tt {all:List (List UInt8)} {b:List UInt8} :Ru all b=true↔∃x∈all,Lk x b:=by
  unfold Ru;rw [aN];exact exists_congr λ x=>and_congr_right λ _=>Ya
end Go.Proofs.YtbmjjfhpllpiaaaGreat
namespace Go.Proofs.YtbmjjfhpllpiaaaGreat
open Go.RowKit Go.Maps
def A0D (w:bF) (rows:List (List UInt8)) (p:List UInt8->Bool) (e:Ending) (w':bF):Prop:=
  ∃k:Int,e=.returned (.int .i64 k)/\decide (0<=k)=rows.any p/\ -1<=k/\k<rows.length+1/\Below w.heap.size w w'
theorem Si {p:List UInt8->Bool} {rows:List (List UInt8)} {k:Nat} (h:k<rows.length):(rows.take (k+1)).any p=((rows.take k).any p||p rows[k]):=by
  rw [List.take_succ_eq_append_getElem h,List.any_append];simp
theorem A2v (sv:bE) (vs:List bE) (rows:List (List UInt8)) (p:List UInt8->Bool) (q:Nat) (w:bF) (hs:Sl w 1 sv rows.length vs) (hr:∀(j:Nat) v r,vs[j]?=some v->rows[j]?=some r->Bs w v r) (hcl:∀W v r,Below w.heap.size w W->r∈rows->Bs W v r->bG aA 44 #[v,.pointer (some ⟨q,0,none⟩)] W λ e w'=>e=.returned (.bool (p r))/\Below W.heap.size W w'): bG aA 91 #[sv,.func (Fn.func 44) #[] #[.pointer (some ⟨q,0,none⟩)]] w (A0D w rows p):=by
  obtain ⟨a,c,rfl,hc,hm⟩:=hs.form;have HS:=hqZ hs;have HR:=hqZ hr;have HCL:=hqZ hcl;unfold maxLen at hm;clear hs hr hcl;go_enter Tryz.func91,Tryz.ntmps91;go_wp2_with fail;go_loopw [5,8] (λ _ i wr=>∃k:Nat,k<=rows.length/\i=.int .i64 k/\Below w.heap.size w wr/\(rows.take k).any p=false) (λ _ i _=>rows.length- (intOf i).toNat)
  case atStart=>exact ⟨0,aF _,rfl,Below.refl _ _,by simp⟩
  case round=>
    obtain ⟨k,hk,rfl,hbl,hn⟩:=hrel;have HN:=hqZ hn;have HBL:=hqZ hbl;clear hn hbl;by_cases hlt:k<rows.length
    · obtain ⟨g,o,rfl,hcell⟩:=HS.o.addr (by rw [HS.o.1]; omega);have hkl:k<vs.length:=by rw [HS.o.1]; omega
      obtain ⟨v,hv⟩:∃v,vs[k]?=some v:=⟨_,aG hkl⟩
      have hck:wr.cell? ⟨g,o+k,none⟩=some v:=Bc HBL.o (hcell k v hv);have hrow:=(HR.o k v rows[k] hv (aG hlt)).below HBL.o;have HC:=hqZ (HCL.o wr v rows[k] HBL.o (bD hlt) hrow);obtain ⟨a1,c1,rfl,_,_⟩:=hrow.form;clear hcell hrow hv
      cases he:p rows[k] with
      | true=>
        rw [he] at HC;have HA:Hq (decide ((0:Int)<=(k:Int))=rows.any p):=hqZ (by
          have:rows.any p=true:=List.any_eq_true.2 ⟨rows[k],bD hlt,he⟩;rw [this]; simp)
        clear he;go_wp2_with fail;refine HC.o.mono ?_;rintro e w' ⟨rfl,hb⟩;have HB2:=hqZ (HBL.o.trans (hb.mono HBL.o.size));clear hb;go_wp2_with fail;go_ret;exact ⟨k,rfl,HA.o,by omega,by omega,HB2.o⟩
      | false=>
        rw [he] at HC;have HT:Hq ((rows.take (k+1)).any p=false):=hqZ (by rw [Si hlt,HN.o,he]; rfl);clear he;go_wp2_with fail;refine HC.o.mono ?_;rintro e w' ⟨rfl,hb⟩;have HB2:=hqZ (HBL.o.trans (hb.mono HBL.o.size));clear hb;go_wp2_with fail;go_roundw
        case rel=>exact ⟨k+1,by omega,by go_num,HB2.o,HT.o⟩
        case measure=>simp [intOf]; omega
    · obtain rfl:k=rows.length:=by omega
      have HA:Hq (rows.any p=false):=hqZ (by have:=HN.o; rw [List.take_length] at this; exact this);go_wp2_with fail;go_ret;exact ⟨-1,rfl,by rw [HA.o]; decide,by omega,by omega,HBL.o⟩
theorem A1I (v u:bE) (x b:List UInt8) (q:Nat) (w:bF) (hx:Bs w v x) (hb:Bs w u b) (hq:w.cell? ⟨q,0,none⟩=some u) (lx:x.length<=1000000) (lb:b.length<=1000000): bG aA 44 #[v,.pointer (some ⟨q,0,none⟩)] w λ e w'=>e=.returned (.bool (Fw x b))/\Below w.heap.size w w':=by
  have HS:=hqZ (A0m v u x b w hx hb lx lb);obtain ⟨ua,uc,rfl,_,_⟩:=hb.form;clear hx hb;go_enter Tryz.func44,Tryz.ntmps44;go_wp2_with fail;refine HS.o.mono ?_;rintro e w' ⟨rfl,hb⟩;have HB:=hqZ hb;clear hb;go_wp2_with fail;go_ret;exact ⟨rfl,HB.o⟩
theorem Sr (sv:bE) (vs:List bE) (rows:List (List UInt8)) (p:List UInt8->Bool) (q:Nat) (w:bF) (hs:Sl w 1 sv rows.length vs) (hr:∀(j:Nat) v r,vs[j]?=some v->rows[j]?=some r->Bs w v r) (hcl:∀W v r,Below w.heap.size w W->r∈rows->Bs W v r->bG aA 44 #[v,.pointer (some ⟨q,0,none⟩)] W λ e w'=>e=.returned (.bool (p r))/\Below W.heap.size W w'): bG aA 43 #[sv,.func (Fn.func 44) #[] #[.pointer (some ⟨q,0,none⟩)]] w λ e w'=>e=.returned (.bool (rows.any p))/\Below w.heap.size w w':=by
  have HI:=hqZ (A2v sv vs rows p q w hs hr hcl);obtain ⟨a,c,rfl,hc,hm⟩:=hs.form;unfold A0D at HI;clear hs hr hcl;go_enter Tryz.func43,Tryz.ntmps43;go_wp2_with fail;refine HI.o.mono ?_;rintro e w' ⟨k,rfl,hk,_,_,hb⟩;have HB:=hqZ hb;have HK:=hqZ hk;clear hb hk;go_wp2_with fail;go_ret;have hk:=HK.o;refine ⟨?_,HB.o⟩;rw [<-hk];rfl
theorem Mi.Steps.len {T:Sy} {M M':Mi} (s:Mi.Steps T M M') {n:Nat} (hb:∀bx∈T.boxes,bx.body.length<=n) (h:∀x∈M.all,x.length<=n):∀x∈M'.all,x.length<=n:=by
  induction s with
  | refl=>exact h
  | tail _ s ih=>
    cases s with
    | box i bx hi _ _ _=>
      intro x hx;rcases List.mem_append.1 (show x∈_++ [bx.body] from hx) with hx | hx
      · exact ih x hx
      · rw [List.mem_singleton.1 hx]; exact hb bx (aJ hi)
    | key j f _ _ _ _=>exact ih
theorem Za (q a b c:Nat):Tryz.prog.built 134 [(0,.pointer (some ⟨q,0,none⟩)),(1,.map (some a)),(2,.map (some b)),(3,.map (some c))]=some (Fs q a b c (.slice none 0 0)).toArray:=by kernel_rfl
theorem Ky {W:bF} {l:List Res} {b:Nat} (h:Ac W l) (hb:W.heap.size=b):Ac (W.alloc (.map #[] 0)) (D5 b []::l):=hb▸A1J h
theorem A1w (q:Nat) (l:List Res) (w:bF) (h:Ac w l): bG aA 9 #[.pointer (some ⟨q,0,none⟩)] w λ e w'=>∃p kb bb ob,e=.returned (.pointer (some ⟨p,0,none⟩))/\Ac w' (En p q kb bb ob .nil::l):=by
  have h1:=Ky h (b:=w.heap.size) rfl;have h2:=Ky h1 (b:=w.heap.size+1) (by simp);have h3:=Ky h2 (b:=w.heap.size+2) (by simp);have h4:=h3.addBlkAt (Fs q w.heap.size (w.heap.size+1) (w.heap.size+2) (.slice none 0 0)) 134 (b:=w.heap.size+3) (by simp);have h5:=(h4.addEmpX.addNil 29 1).ownToZ;have h6:=h5.zP [2,4,2,0,0,0];have HC:=hqZ (D2 (M:=.nil) (vs:= []) h6);clear h h1 h2 h3 h4 h5 h6;go_enter Tryz.func9,Tryz.ntmps9;have hmm:= @run_makeMap aA;go_wp2_with ((with_reducible refine zw 7 ?_); refine Cp rfl rfl (pv:= [(0,.pointer (some ⟨q,0,none⟩)),(1,.map (some w.heap.size)),(2,.map (some (w.heap.size+1))),(3,.map (some (w.heap.size+2)))]) (by simp only [List.map_toArray,List.map_cons,List.map_nil]; rfl) (Za _ _ _ _) ?_);go_ret;exact ⟨_,_,_,_,rfl,HC.o⟩
theorem A1x (p q kb bb ob:Nat) (M:Mi) (T:Sy) (v:bE) (b:List UInt8) (l:List Res) (w:bF) (h:Ac w (En p q kb bb ob M::B2 q T::l)) (hv:∀W,Ac W l->Bs W v b) (hT:Qh T) (hok:M.Ok) (hal:M.all.length+1<=100000) (hbl:b.length<=3000): bG aA 10 #[.pointer (some ⟨p,0,none⟩),v] w (Ep p q kb bb ob T (M.take b) l):=by
  have HTK:=hqZ (Q5 p q kb bb ob M (D5 bb) v b (B2 q T::l) w (Ef.1 h) (λ W hW=>hv W hW.tail) (.inr rfl) hok (by omega) (by omega));have HCL:=hqZ (λ W (hW:Ac W (En p q kb bb ob (M.take b)::B2 q T::l))=>Gl p q kb bb ob (M.take b) T l W hW hT (hok.take b) (by show (M.all++ [b]).length<=_; simp; omega));obtain ⟨ba,bc,rfl,_,_⟩:=(hv w h.tail.tail).form;unfold Ep at HCL ⊢;clear h hv hT hok hal hbl;go_enter Tryz.func10,Tryz.ntmps10;go_wp2_with fail;refine HTK.o.mono ?_;rintro e w1 ⟨rfl,hc⟩;have HC:=hqZ (Ef.2 hc);clear hc;go_wp2_with fail;refine (HCL.o _ HC.o).mono ?_;rintro e w2 ⟨rfl,hr⟩;have HR:=hqZ hr;clear hr;go_wp2_with fail;go_end0;exact ⟨rfl,HR.o⟩
theorem W9 (p q kb bb ob:Nat) (M:Mi) (T:Sy) (k:List UInt8) (l:List Res) (w:bF) (h:Ac w (En p q kb bb ob M::B2 q T::l)) (hk:Pq 107 k) (hT:Qh T) (hok:M.Ok) (hal:M.all.length<=100000): bG aA 14 #[.pointer (some ⟨p,0,none⟩),.agg (Ab k).toArray] w (Ep p q kb bb ob T { M with keys:=k::M.keys } l):=by
  have HCL:=hqZ (λ W (hW:Ac W (En p q kb bb ob { M with keys:=k::M.keys } ::B2 q T::l))=>Gl p q kb bb ob { M with keys:=k::M.keys } T l W hW hT (hok.learn hk) hal);have HK16:Hq (k.length=16):=hqZ (by obtain ⟨n,_,rfl⟩:=hk; exact An _ _);have HKL:Hq ((Ab k).length=16):=hqZ (by rw [Aa]; exact HK16.o);have HFW:Hq (Few M.keys):=hqZ (Ur (c:=107) hok.keys);obtain ⟨sa,sc,vs,h3⟩:=Ev (Ef.1 h);have HC:=hqZ (h3.addBlkAt (Ab k) 43 (b:=w.heap.size) rfl);unfold Ep at HCL ⊢;clear h h3 hk hT hok hal;go_enter Tryz.func14,Tryz.ntmps14;go_upto_region 1 with fail;refine Cx [] (λ b W=>W.cell? ⟨p,1,none⟩=some (.map (some kb))/\Al W w.heap.size 0 (Ab k)) (by kernel_rfl) ?_;have HC:=hqZ HC.o.drew;have HS:=hqZ (aB (HC.o.zc (p:=p) (k:=1) (v:=.map (some kb))) (HC.o.zca (p:=w.heap.size)));refine zT 0 ?_;refine zT 1 ?_;refine zT 2 ?_;refine zT 3 ?_ (v:=.map (some kb)) (hr:=λ l W hk hW=>by have c:=hW.1; go_simp);refine zT 4 ?_ (v:=.agg (Ab k).toArray) (hr:=λ l W hk hW=>ldJ Am rfl HKL.o hW.2);refine zJ 5 λ K' hK=>?_
  refine H8 rfl _ _ _ rfl (HC.o.zP [2]) rfl HFW.o HK16.o rfl rfl ?_;intro w9 HC;refine zq hK ?_ (hS:=aB (HC.o.zc (p:=p) (k:=1) (v:=.map (some kb))) (HC.o.zca (p:=w.heap.size)));clear hK K' HS;refine zD ?_;have HM:=hqZ (D2 (M:= { M with keys:=k::M.keys }) (HC.o.zP [1,1,0]).tail);clear HC;go_wp2_with fail;refine (HCL.o _ HM.o).mono ?_;rintro e w2 ⟨rfl,hr⟩;have HR:=hqZ hr;clear hr;go_wp2_with fail;go_end0;exact ⟨rfl,HR.o⟩
theorem Ti (p q kb bb ob:Nat) (M:Mi) (T:Sy) (k:List UInt8) (l:List Res) (w:bF) (h:Ac w (En p q kb bb ob M::B2 q T::l)) (hk:k.length=16) (hT:Qh T) (hok:M.Ok) (hal:M.all.length<=100000): bG aA 11 #[.pointer (some ⟨p,0,none⟩),.agg (Ab k).toArray] w λ e w'=>∃M',e=.returned (.bool (decide (k∈M'.keys)))/\Mi.Steps T M M'/\M'.Closed T/\Ac w' (En p q kb bb ob M'::B2 q T::l):=by
  have HKL:Hq ((Ab k).length=16):=hqZ (by rw [Aa]; exact hk);have HK16:=hqZ hk;have hb:=h.addBlkAt (Ab k) 43 (b:=w.heap.size) rfl;have HCL:=hqZ (Gl p q kb bb ob M T (.blk w.heap.size (Ab k) 43::l) _ (hb.zP [1,1,0]) hT hok hal);unfold Ep at HCL;clear h hb hk hT hok hal;go_enter Tryz.func11,Tryz.ntmps11;go_wp2_with fail;refine HCL.o.mono ?_;rintro e w2 ⟨rfl,M',hst,hcl,hc⟩;have HST:=hqZ hst;have HCLO:=hqZ hcl;obtain ⟨sa,sc,vs,h3⟩:=Ev (Ef.1 hc);have HC:=hqZ h3;clear hst hcl hc h3 HCL;go_upto_region 2 with fail;refine Cx [] (λ b W=>W.cell? ⟨p,1,none⟩=some (.map (some kb))/\Oq W kb M'.keys/\Al W w.heap.size 0 (Ab k)) (by kernel_rfl) ?_;have HC:=hqZ HC.o.drew;have HS:=hqZ (aB (HC.o.zc (p:=p) (k:=1) (v:=.map (some kb))) (aB (HC.o.setAt (b:=kb) (S:=M'.keys) (by simp)) (HC.o.zca (p:=w.heap.size))));refine zT 0 ?_;refine zT 1 ?_;refine zT 2 ?_;refine zT 3 ?_ (v:=.map (some kb)) (hr:=λ l W hk hW=>by have c:=hW.1; go_simp);refine zT 4 ?_ (v:=.agg (Ab k).toArray) (hr:=λ l W hk hW=>ldJ Am rfl HKL.o hW.2.2);obtain ⟨r,hr⟩:∃r,r=decide (k∈M'.keys):=⟨_,rfl⟩
  have HR:=hqZ hr;refine zT 5 ?_ (v:=.bool r) (hr:=λ l W hk hW=>Dq (.tmp 10) (.tmp 11) rfl hW.2.1 HK16.o rfl HR.o.symm);clear hr;refine zT 6 ?_;refine zD ?_;clear HS;go_wp2_with fail;go_ret;have h9:=(D2 (M:=M') HC.o).zP [2];exact ⟨M',by rw [<-HR.o]; rfl,HST.o,HCLO.o,h9.tail⟩
theorem Z5 (p q kb bb ob:Nat) (M:Mi) (T:Sy) (l:List Res) (w:bF) (h:Ac w (En p q kb bb ob M::B2 q T::l)) (hT:Qh T) (hok:M.Ok) (hal:M.all.length<=100000) (hk:M.keys= []): bG aA 12 #[.pointer (some ⟨p,0,none⟩)] w λ e w'=>e=.returned (.slice none 0 0)/\Ac w' (En p q kb bb ob M::B2 q T::l):=by
  have HCL:=hqZ (Gl p q kb bb ob M T l w h hT hok hal);have HNK:Hq (T.keys.length<=100000):=hqZ hT.nk;have HKN:=hqZ hk;unfold Ep at HCL;clear h hT hok hal hk;go_enter Tryz.func12,Tryz.ntmps12;go_wp2_with fail;refine HCL.o.mono ?_;rintro e w2 ⟨rfl,M',hst,hcl,hc⟩;rw [hst.none HKN.o] at hc;have HC:=hqZ hc;clear hst hcl hc HCL;go_wp2_with fail;go_loopw [3,4] (λ x i wr=>∃n:Nat,x=.slice none 0 0/\i=.int .i64 ((n:Int)+1)/\n<=T.keys.length/\Ac wr (En p q kb bb ob M::B2 q T::l)) (λ _ i _=>T.keys.length+2- (intOf i).toNat)
  case atStart=>exact ⟨0,rfl,by simp,aF _,HC.o⟩
  case round=>
    obtain ⟨n,rfl,rfl,hn,hr⟩:=hrel;have hnk:=HNK.o;obtain ⟨sa,sc,vs,h3⟩:=Ev (Ef.1 hr);have ct:=h3.blk0.cell 0;simp only [Fs,aI] at ct;obtain ⟨NK,hNK⟩:∃NK,NK=T.keys.length:=⟨_,rfl⟩
    have HKE:=hqZ (Pk q T _ wr (h3.zP [6]));rw [<-hNK] at HKE hn hnk ⊢;clear HC;have HC:=hqZ h3;have HR:=hqZ hr;clear h3 hr hNK;by_cases hlt:n<NK
    · have hle:(n:Int)+1<=NK:=by omega
      obtain ⟨K,hK⟩:∃K,K=Ao 107 (n+1):=⟨_,rfl⟩
      have HK16:Hq (K.length=16):=hqZ (by rw [hK]; exact An _ _);have HKL:Hq ((Ab K).length=16):=hqZ (by rw [Aa]; exact HK16.o);have HNTH:Hq (∀W,bG aA 42 #[.pointer (some ⟨q,0,none⟩),.int .i64 ((n:Int)+1)] W λ e w'=>e=.returned (.agg (Ab K).toArray)/\Below W.heap.size W w'):=hqZ (λ W=>by rw [hK]; exact R3 q (n+1) (by omega) W);clear hK;go_wp2_with fail;refine HKE.o.mono ?_;rintro e w4 ⟨rfl,rfl⟩;clear HKE;go_wp2_with fail;refine (HNTH.o _).mono ?_;rintro e w4 ⟨rfl,hb⟩;have HC:=hqZ ((HC.o.step hb).addBlk Bg 43);clear hb HNTH ct HR;go_wp2_with ((with_reducible refine zws 5 22 ?_); refine Af rfl (.tmp 5) (.tmp 22) Am rfl rfl (vs:=Ab K) rfl HKL.o HC.o.blk0 (aD _) (Ak _) ?_);intro w5 h5 k5;have HC:=hqZ (HC.o.stW (vs:=Ab K) h5 k5 rfl);obtain ⟨B7,hB7⟩:∃B,B=w4.heap.size:=⟨_,rfl⟩
      rw [<-hB7] at HC;rw [<-hB7];clear h5 k5 hB7;go_upto_region 7 with fail;refine Cx [] (λ b W=>W.cell? ⟨p,1,none⟩=some (.map (some kb))/\Oq W kb M.keys/\Al W B7 0 (Ab K)) (by kernel_rfl) ?_;have HC:=hqZ HC.o.drew;have HS:=hqZ (aB (HC.o.zc (p:=p) (k:=1) (v:=.map (some kb))) (aB (HC.o.setAt (b:=kb) (S:=M.keys) (by simp)) (HC.o.zca (p:=B7))));refine zT 0 ?_;refine zT 1 ?_;refine zT 2 ?_;refine zT 3 ?_ (v:=.map (some kb)) (hr:=λ l W hk hW=>by have c:=hW.1; go_simp);refine zT 4 ?_ (v:=.agg (Ab K).toArray) (hr:=λ l W hk hW=>ldJ Am rfl HKL.o hW.2.2);refine zT 5 ?_ (v:=.bool false) (hr:=λ l W hk hW=>Dq (.tmp 26) (.tmp 27) rfl hW.2.1 HK16.o rfl (by rw [HKN.o]; exact decide_eq_false (by simp)));refine zD ?_;clear HS;go_wp2_with fail;go_roundw
      case rel=>exact ⟨n+1,rfl,by go_num,by omega,D2 HC.o.tail⟩
      case measure=>simp [intOf]; omega
    · obtain rfl:n=NK:=by omega
      have hle:¬(n:Int)+1<=n:=by omega
      go_wp2_with fail;refine HKE.o.mono ?_;rintro e w4 ⟨rfl,rfl⟩;go_wp2_with fail;go_ret;exact ⟨rfl,HR.o⟩
theorem Q4 (p q kb bb ob:Nat) (M:Mi) (T:Sy) (v:bE) (b:List UInt8) (l:List Res) (w:bF) (h:Ac w (En p q kb bb ob M::B2 q T::l)) (hv:∀W,Ac W l->Bs W v b) (hbl:b.length<=1000) (hT:Qh T) (hok:M.Ok) (hal:M.all.length<=100000) (hlen:∀x∈M.all,x.length<=3000): bG aA 13 #[.pointer (some ⟨p,0,none⟩),v] w λ e w'=>∃M',e=.returned (.bool (Ru M'.all b))/\Mi.Steps T M M'/\M'.Closed T/\Ac w' (En p q kb bb ob M'::B2 q T::l):=by
  have hb:=h.addBlkAt [v] 29 (b:=w.heap.size) rfl;have HCL:=hqZ (Gl p q kb bb ob M T (.blk w.heap.size [v] 29::l) _ (hb.zP [1,1,0]) hT hok hal);have HLEN:Hq (∀M',Mi.Steps T M M'->∀x∈M'.all,x.length<=3000):=hqZ (λ M' s=>s.len (λ bx hb=>by have:=(hT.body bx hb).2; omega) hlen);have HV:=hqZ hv;have HBL:=hqZ hbl;obtain ⟨ba,bc,rfl,_,_⟩:=(hv w h.tail.tail).form;unfold Ep at HCL;clear h hb hv hbl hT hok hal hlen;go_enter Tryz.func13,Tryz.ntmps13;go_wp2_with fail;refine HCL.o.mono ?_;rintro e w2 ⟨rfl,M',hst,hcl,hc⟩;have HST:=hqZ hst;have HCLO:=hqZ hcl;obtain ⟨sa,sc,vs,h3⟩:=Ev (Ef.1 hc);have ct:=h3.blk0.cell 4;simp only [Fs,aR,aI] at ct;have HC:=hqZ h3;obtain ⟨AL,hAL⟩:∃AL,AL=M'.all:=⟨_,rfl⟩
  have hsl:=(h3.ownZOf (e:=29) (sz:=1) (n:=M'.all.length) (v:=.slice sa M'.all.length sc) (cs:=vs) (by simp)).sl;have hsm:∀(j:Nat) v r,vs[j]?=some v->M'.all[j]?=some r->Bs w2 v r:=λ j v r h1 h2=>Gs (h3.zP [4]) j h1 h2
  have hcell:w2.cell? ⟨w.heap.size,0,none⟩=some (.slice ba b.length bc):=by
    have:=(h3.zB w.heap.size).cell 0;simpa using this
  have hbv:Bs w2 (.slice ba b.length bc) b:=HV.o w2 (h3.zP [7]).tail.tail.tail.tail.tail.tail.tail.tail;have HCON:=hqZ (Sr (.slice sa M'.all.length sc) vs M'.all (λ x=>Fw x b) w.heap.size w2 hsl hsm (λ W v r hb hr hv=>A1I v _ r b w.heap.size W hv (hbv.below hb) (Bc hb hcell) (by have:=HLEN.o M' hst r hr; omega) (by have:=HBL.o; omega)));have HAL:=hqZ hAL;obtain ⟨R,hR⟩:∃R,R=M'.all.any (λ x=>Fw x b):=⟨_,rfl⟩
  rw [<-hR] at HCON;have HR:Hq (Ru M'.all b=R):=hqZ (by rw [hR]; rfl);obtain ⟨NA,hNA⟩:∃NA,NA=M'.all.length:=⟨_,rfl⟩
  rw [<-hNA] at HCON ct;clear hst hcl hc h3 HCL hAL hsl hsm hcell hbv hR hNA;go_wp2_with fail;refine HCON.o.mono ?_;rintro e w3 ⟨rfl,hb⟩;have HC:=hqZ (HC.o.step hb);clear hb HCON ct;go_wp2_with fail;go_ret;have h9:=(D2 (M:=M') HC.o).zP [2];exact ⟨M',by rw [HR.o]; rfl,HST.o,HCLO.o,h9.tail⟩
end Go.Proofs.YtbmjjfhpllpiaaaGreat
