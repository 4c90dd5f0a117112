/- Texts of this proof, one behind the other: KnG. -/
import Derived.Test.YtbmjjfhpllpiaaaGreatWsA15
import Derived.Test.YtbmjjfhpllpiaaaGreatWsA18
import Derived.Test.YtbmjjfhpllpiaaaGreatWsA20
import Derived.Deep.DeepCutAuto
set_option linter.unusedSimpArgs false
set_option linter.unusedVariables false
set_option maxRecDepth 100000
set_option maxHeartbeats 16000000
open List renaming mem_cons_self -> aA, getElem_mem -> aB, getElem?_cons_zero -> aC, getElem?_cons_succ -> aD, getElem?_eq_getElem -> aE, length_append -> aF, mem_of_mem_take -> aG
open Go renaming World -> aH
namespace Go.Proofs.YtbmjjfhpllpiaaaGreat
open Go.RowKit Go.Maps
theorem Sa (v0:Value) (k2:Int) (l:List Sg) (w:aH) (h:Sl w 3 v0 l.length (l.map Sg.cells).flatten) (hn:∀x∈l,Bs w x.v x.body): Calls Tryz.prog 3 #[v0,.int .i64 k2] w λ e w'=>e=.returned (.bool true)/\Below w.heap.size w w':=by
  obtain ⟨al,cl,rfl,hcl,hml⟩:=h.form;have HSL:=hqZ h;have HN:=hqZ hn;obtain ⟨s,hs⟩:∃s,s=PS.sym .nil:=⟨_,rfl⟩
  obtain ⟨m,hm⟩:∃m,m=Ga s:=⟨_,rfl⟩
  have hz:s.sz<=900:=by rw [hs]; decide
  have HSY:Hq (∀(W:aH) (l:List Res),Ac W l->Calls Tryz.prog 5 #[] W λ e w'=>∃q,e=.returned (.pointer (some ⟨q,0,none⟩))/\Ac w' (pvR q s::l)):=hqZ (λ W l h=>by
    rw [hs];exact Pn l W h)
  have HME:Hq (∀(q:Nat) (W:aH) (l:List Res),Ac W (pvR q s::l)->Calls Tryz.prog 6 #[.iface 24 (.pointer (some ⟨q,0,none⟩))] W λ e w'=>∃pp,e=.returned (.pointer (some ⟨pp,0,none⟩))/\Ac w' (Jm pp q m.sub m.talk::l)):=hqZ (λ q W l h=>by
    have:=Pp q s l W h hz;rw [<-hm] at this;rw [show pvV s q=.iface 24 (.pointer (some ⟨q,0,none⟩)) by rw [hs]; rfl] at this;exact this)
  have HOK0:Hq (m.talk.Ok 0):=hqZ (by rw [hm,hs]; exact A3T (s:=.sym .nil) (λ x hx=>by cases hx) (by decide));have HTK0:Hq (TkI m.talk T0 0 []):=hqZ (by rw [hm,hs]; exact A5Z);have HSUB:Hq (m.sub=My):=hqZ (by rw [hm,hs]; exact A5c);obtain ⟨key,hkey⟩:∃key,key=m.sub:=⟨_,rfl⟩
  obtain ⟨t0,ht0⟩:∃t0,t0=m.talk:=⟨_,rfl⟩
  rw [<-ht0] at HOK0 HTK0;rw [<-hkey] at HSUB;simp only [<-hkey,<-ht0] at HME;have HKL:Hq (key.length=16):=hqZ (by rw [HSUB.o]; exact An _ _);have HSAY:=hqZ (λ (pp q:Nat) (t:Iw) (d:Nat) (i rk:Bool) (bv:Value) (body:List UInt8) (l:List Res) (w:aH) (h:Ac w (Jm pp q key t::l)) (hok:t.Ok d) (hd:d<60) (hv:∀W,Ac W l->Bs W bv body) (hb:body.length<=2048)=>A0t pp q key t d i rk bv body l w h hok hd HKL.o hv hb);unfold maxLen at hml;have HC:=hqZ (Ac.start w);clear h hn hs hm hz hkey ht0;go_enter Tryz.func3,Tryz.ntmps3;go_wp2_with fail;refine (Vk _ _ HC.o).mono ?_;rintro e w1 ⟨rfl,hc⟩;have HC:=hqZ hc;clear hc;by_cases hll:(30:Int)<l.length
  · go_wp2_with fail;go_ret;exact ⟨rfl,HC.o.baseOf (w0:=w) (by simp)⟩
  go_wp2_with fail;refine (HSY.o _ _ HC.o).mono ?_;rintro e w2 ⟨q,rfl,hc⟩;have HC:=hqZ hc;clear hc HSY;go_wp2_with fail;refine (HME.o _ _ _ HC.o).mono ?_;rintro e w3 ⟨pp,rfl,hc⟩;have HC:=hqZ (hc.addEmpX.addNilAt 29 1 rfl);clear hc HME;go_wp2_with fail;go_loopw [7,30] (λ sv i wr=>∃(k d:Nat) (t:Iw) (T:Sy) (said:List (List UInt8)) (vs:List Value),k<=l.length/\i=.int .i64 k/\d<=k/\t.Ok d/\TkI t T d said/\Qf said/\said.length<=k/\(∀b∈said,b.length<=60)/\Ac wr (.ownZ 29 1 sv said.length vs::Br vs said::Jm pp q key t:: [.base w])) (λ _ i _=>l.length- (intOf i).toNat)
  case atStart=>exact ⟨0,0,t0,T0, [], [],Nat.zero_le _,rfl,Nat.le_refl _,HOK0.o,HTK0.o,Qf.nil,Nat.le_refl _,(λ b hb=>by cases hb),HC.o⟩
  case round=>
    obtain ⟨k,d,t,T,said,vs,hk,rfl,hdk,hok,htk,hsa,hsn,hsb,hr⟩:=hrel;obtain ⟨sa,sc,rfl,_,_⟩:=(hr.ownZOf aA).sl.form;have HOK:=hqZ hok;have HTK:=hqZ htk;have HSA:=hqZ hsa;have HSN:=hqZ hsn;have HSB:=hqZ hsb;obtain ⟨SN,hSN⟩:∃SN,SN=said.length:=⟨_,rfl⟩
    rw [<-hSN] at hr HSN;rw [<-hSN];have HSNE:=hqZ hSN;have hr2:=hr;clear hok htk hsa hsn hsb hSN HC;by_cases hlt:k<l.length
    · obtain ⟨e,he⟩:∃e,e=l[k]:=⟨_,rfl⟩
      have hem:e∈l:=by rw [he]; exact aB hlt
      have hin:=HN.o e hem;obtain ⟨ab,cb,hxv,hcb,hmb⟩:=hin.form;obtain ⟨bl,ol,hal,hcell⟩:=HSL.o.addr (by rw [HSL.o.1]; omega);subst hal;have hbw:=hr.baseOf (w0:=w) (by simp);have hel:∀(j:Nat) u,e.cells[j]?=some u->wr.cell? ⟨bl,ol+k*3+j,none⟩=some u:=by
        intro j u hj;have hj':j<3:=by have:=(List.getElem?_eq_some_iff.1 hj).1; simpa [Sg.cells] using this
        have:=hcell (k*3+j) u (by rw [Ms (n:=3) Sg.cells l (λ _ _=>rfl) k j hlt hj',<-he]; exact hj);rw [Nat.add_assoc];exact Bc hbw this
      obtain ⟨xe,xk,xv,xb⟩:=e;simp only at hxv hin hcb;subst hxv;have e0:=hel 0 (.int .i64 xe) rfl;have e1:=hel 1 (.bool xk) rfl;have e2:=hel 2 (.slice ab xb.length cb) rfl;rw [Nat.add_zero] at e0;have hki:(k:Int)<l.length:=by omega
      have HIN:=hqZ hin;obtain ⟨ii,y,hy,hyi⟩:=A2j xe;have HYI:=hqZ hyi;have HB:Hq (Ac (wr.alloc (.cells #[.int .i64 xe,.bool xk,.slice ab xb.length cb] 31)) (.blk wr.heap.size [.int .i64 xe,.bool xk,.slice ab xb.length cb] 31::.ownZ 29 1 (.slice sa SN sc) SN vs::Br vs said::Jm pp q key t:: [.base w])):=hqZ (hr.addBlk [.int .i64 xe,.bool xk,.slice ab xb.length cb] 31);obtain ⟨ba,hba⟩:∃ba,ba=wr.heap.size:=⟨_,rfl⟩
      have HBA:=hqZ hba;rw [<-hba] at HB;have HINB:Hq (∀W l,Ac W (.base w::l)->Bs W (.slice ab xb.length cb) xb):=hqZ (λ W l hW=>HIN.o.below (hW.baseOf (w0:=w) (by simp)));clear he hem hcell hel hbw hin hr hr2 hmb hyi hba;by_cases hbl:(40:Int)<xb.length
      · go_wp2_with fail;go_roundw
        case rel=>exact ⟨k+1,d,t,T,said,vs,by omega,by go_num,by omega,HOK.o,HTK.o,HSA.o,by rw [<-HSNE.o]; have:=HSN.o; omega,HSB.o,by rw [<-HSNE.o]; exact HB.o.tail⟩
        case measure=>simp [intOf]; omega
      · have HFI:=hqZ (Pj (.slice ab xb.length cb) xb _ _ HB.o (λ W hW=>HIN.o.below (hW.baseOf (w0:=w) (by simp))) (by omega));obtain ⟨NF,hNF⟩:∃NF,NF=(C1 xb).length:=⟨_,rfl⟩
        rw [<-hNF] at HFI;have HNF:=hqZ hNF;clear hNF;go_wp2_with fail;refine HFI.o.mono ?_;rintro e w7 ⟨x,rfl,hc⟩;obtain ⟨fa,fc,rfl,_,_⟩:=hc.slf;have HB:=hqZ hc.tail;have e3:=hc.tail.blk0.cell 0;have e4:=hc.tail.blk0.cell 1;have e5:=hc.tail.blk0.cell 2;simp only [aC,aD] at e3 e4 e5;rw [HBA.o] at e3 e4 e5;clear hc HFI e0 e1 e2;by_cases hnf:NF=0
        · have hne:((NF:Int) !=0)=false:=by simp [hnf]
          have HFB:Hq (C1 xb= []):=hqZ (List.eq_nil_of_length_eq_zero (by rw [<-HNF.o,hnf]));clear hnf;have hk30:k<30:=by omega
          have hw8:IntKind.u8.wrap (k:Int)=k:=by rw [IntKind.wrap_u8]; omega
          have hbl40:xb.length<=40:=by omega
          have HL40:=hqZ hbl40;have HK30:=hqZ hk30;have HB6:Hq (Ac (w7.alloc (.cells #[.int .u8 255,.int .u8 255,.int .u8 255,.int .u8 255,.int .u8 250,.int .u8 (k:Int)] 5)) (.own 5 1 (.slice (some ⟨w7.heap.size,0,none⟩) 6 6) 6 [.int .u8 255,.int .u8 255,.int .u8 255,.int .u8 255,.int .u8 250,.int .u8 (k:Int)]::.blk ba [.int .i64 xe,.bool xk,.slice ab xb.length cb] 31::.ownZ 29 1 (.slice sa SN sc) SN vs::Br vs said::Jm pp q key t:: [.base w])):=hqZ (HB.o.addOwn (B:=0) ((Below.refl _ _).alloc (Nat.le_refl _) _) (Own.at_ (n:=6) rfl (Nat.zero_le _) rfl (by simp [Value.oneCell']) (by unfold maxLen; decide)) (λ b hb=>by
            simp only [Value.ownBlock,Option.map_some,Option.some.injEq] at hb;subst hb
            simp))
          have HOW:Hq (Own _ 0 5 1 _ 6 _/\_):=hqZ (HB6.o.ownOf aA);have HBX:=hqZ (HINB.o _ _ (HB6.o.zP [5]));have e9:=HB6.o.tail.blk0.cell 2;simp only [aC,aD] at e9;rw [HBA.o] at e9;have HSC:=hqZ (Xy k (by omega) xb);have HSLN:=hqZ (A1H (UInt8.ofNat k) xb);have HSF:Hq (C1 (Ni (UInt8.ofNat k) xb)= []):=hqZ (A0g (by
            intro e
            have:=congrArg UInt8.toNat e;rw [UInt8.toNat_ofNat'] at this;have h2:k % 2 ^ 8=k:=Nat.mod_eq_of_lt (by omega);rw [h2] at this;simp at this
            omega) HFB.o)
          obtain ⟨B,hB⟩:∃B,B=Ni (UInt8.ofNat k) xb:=⟨_,rfl⟩
          rw [<-hB] at HSC HSLN HSF;have HBE:=hqZ hB;clear hB hk30;go_wp2_with ((with_reducible refine zw 51 ?_); refine Do rfl (.tmp 48) (.tmp 50) Dl rfl 0 HOW.o.1 HOW.o.2 HBX.o (by unfold maxLen; omega) (by omega) (Nat.zero_le _) ?_);intro v8 w8 ho hk8 hv8;obtain ⟨a8,c8,rfl,_,_⟩:=ho.sl.form;have h8:=HB6.o.append ho (by simpa using hk8) (by simpa using hv8);rw [HSC.o,<-HSLN.o] at h8;rw [<-HSLN.o];have HB8:Hq (Ac w8 (.row (.slice a8 B.length c8) B::.blk ba [.int .i64 xe,.bool xk,.slice ab xb.length cb] 31::.ownZ 29 1 (.slice sa SN sc) SN vs::Br vs said::Jm pp q key t:: [.base w])):=hqZ (Ac.ownRow h8);have e6:=HB8.o.tail.blk0.cell 0;have e7:=HB8.o.tail.blk0.cell 1;simp only [aC,aD] at e6 e7;rw [HBA.o] at e6 e7;have HS1:=hqZ (HSAY.o pp q t d ii xk (.slice a8 B.length c8) B _ w8 (HB8.o.zP [4]) HOK.o (by omega) (λ W hW=>hW.rowOf aA) (by rw [HSLN.o]; omega));rw [<-HYI.o] at HS1;obtain ⟨T2,htk2⟩:=HTK.o.say HOK.o (by omega) ii xk (body:=B) (by rw [HSLN.o]; omega) HSF.o;obtain ⟨t2,ht2⟩:∃t2,t2=t.say ii xk B:=⟨_,rfl⟩
          rw [<-ht2] at HS1 htk2;have HTK2:=hqZ htk2;clear ho hk8 hv8 h8 HB6 HOW HBX e3 e4 e5 e9 htk2 ht2 HB hw8;go_wp2_with fail;refine HS1.o.mono ?_;rintro e w9 ⟨rfl,hc,ho1⟩;have HO1:=hqZ ho1;have HC9:Hq (Ac w9 (Jm pp q key t2::.row (.slice a8 B.length c8) B::.blk ba [.int .i64 xe,.bool xk,.slice ab xb.length cb] 31::.ownZ 29 1 (.slice sa SN sc) SN vs::Br vs said:: [.base w])):=hqZ hc;have e8:=(HC9.o.zB ba).cell 1;simp only [aC,aD] at e8;rw [HBA.o] at e8;clear ho1 hc HS1 HB8 e6 e7
          cases xk with
          | true=>
            have HTK3:Hq (TkI t2 T2 (d+1) said):=HTK2;clear HTK2;go_wp2_with fail;go_roundw
            case rel=>
              have h9:=(HC9.o.zP [1,1]).tail.tail.zP [1,1,0];exact ⟨k+1,d+1,t2,T2,said,vs,by omega,by go_num,by omega,HO1.o,HTK3.o,HSA.o,by rw [<-HSNE.o]; have:=HSN.o; omega,HSB.o,by rw [<-HSNE.o]; exact h9⟩
            case measure=>simp [intOf]; omega
          | false=>
            have HTK3:Hq (TkI t2 T2 (d+1) (said++ [B])):=HTK2;have HM1:Hq (SN+1<=maxLen):=hqZ (by have:=HSN.o; unfold maxLen; omega);have HM2:Hq ((SN+1)*24<=140737488355328):=hqZ (by have:=HSN.o; omega);clear HTK2;go_upto_region 16 with fail;clear e8;refine Ah ?_;(iterate 2 refine zV ?_);refine Ad (λ K hK=>?_);refine zN (λ b=>.slice (some ⟨b,0,none⟩) 1 1) [.slice a8 B.length c8] 29 HC9.o ?_;intro b18 w10 HC;refine zqp hK ?_;clear hK K;refine Ad (λ K hK=>?_);refine Yb rfl (.tmp 64) (.tmp 66) L7 rfl rfl rfl (HC.o.zP [4]) (HC.o.blk0.slS rfl (by intro u hu; simp only [List.mem_cons,List.not_mem_nil,or_false] at hu; rcases hu with rfl <;> rfl)) (by decide) HM1.o HM2.o ?_;intro v11 w11 hc;obtain ⟨qg,qo,qn,rfl,_⟩:=(hc.ownZOf (e:=29) (sz:=1) (v:=v11) (n:=SN+1) (cs:=vs++ [.slice a8 B.length c8]) aA).form (by omega);have HC:=hqZ hc;clear hc;refine zqp hK ?_;clear hK K;refine zV ?_;refine wpList_nil ?_;go_wp2_with fail;go_roundw
            case rel=>
              have h9:=D8 ((HC.o.zP [5,3]));have h10:=(h9.zP [2,3]).tail.tail.zP [1,0];refine ⟨k+1,d+1,t2,T2,said++ [B],vs++ [.slice a8 B.length c8],by omega,by go_num,by omega,HO1.o,HTK3.o,?_,?_,?_,?_⟩
              · rw [HBE.o]; exact HSA.o.snoc _ _
              · rw [aF,<-HSNE.o]; have:=HSN.o; simp; omega
              · intro b hb;rcases List.mem_append.1 hb with hb | hb
                · exact HSB.o b hb
                · rw [List.mem_singleton.1 hb,HSLN.o]; have:=HL40.o; omega
              · rw [show (said++ [B]).length=SN+1 by rw [aF,<-HSNE.o]; rfl];exact h10
            case measure=>simp [intOf]; omega
        · have hne:((NF:Int) !=0)=true:=by simp; omega
          clear hnf;go_wp2_with fail;go_roundw
          case rel=>exact ⟨k+1,d,t,T,said,vs,by omega,by go_num,by omega,HOK.o,HTK.o,HSA.o,by rw [<-HSNE.o]; have:=HSN.o; omega,HSB.o,by rw [<-HSNE.o]; exact HB.o.tail⟩
          case measure=>simp [intOf]; omega
    · have hkl:k=l.length:=by omega
      have hd30:d<=30:=by omega
      have hsn30:SN<=30:=by have:=HSN.o; omega
      have HTAB:=hqZ (HTK.o.tabOk HOK.o (by omega));have HNB:Hq (T.boxes.length+T.keys.length<=90000):=hqZ (by
        have h1:=HTK.o.i.nb;have h2:=HOK.o.sz;rw [HTK.o.s] at h2
        have:=(PS.sz_keys (s:=T) (n:=80000) (by omega)).1
        omega)
      have HTX:=hqZ (HTK.o.text_any HOK.o (by omega) q);have HTOLD:Hq (∀(i:Bool) (M:Mi),Mi.Steps T { Mi.see t.L with keys:= [if i then Em else G8] } M->M.Closed T->My∈M.keys/\∀b∈said,Ru M.all b=true):=hqZ (λ i M hs hc=>by
        have:=HTK.o.told (by omega) (k0:=if i then Em else G8) (by cases i <;> simp) hs hc;exact ⟨this.1,λ b hb=>Tt.2 (this.2 b hb)⟩)
      have h1:=hr2.zP [2];obtain ⟨z,qa,ra,qc,rc,h5⟩:=Md h1;rw [HTK.o.s] at h5;obtain ⟨ta,tc,ts,h6⟩:=Hw h5;have h7:=(h6.zP [3,3,3,3,3,3,3,3]).tail.tail.tail.tail.tail.tail.tail.tail;obtain ⟨PX,hPX⟩:∃x,x=Da z.ps z.c0 z.c1 (.pointer (some ⟨z.p0,0,none⟩)) (.pointer (some ⟨z.p1,0,none⟩)) key (.slice ta t.L.length tc):=⟨_,rfl⟩
      rw [<-hPX] at h7;have HPK:Hq ((PX.drop 5).take 16=Ab key):=hqZ (by rw [hPX]; exact A1D _ _ _ _ _ HKL.o _);have HP21:Hq (PX[21]?=some (.slice ta t.L.length tc)):=hqZ (by rw [hPX]; exact Rk _ _ _ _ _ HKL.o _);have HKC:Hq ((Ab key).length=16):=hqZ (by rw [Aa]; exact HKL.o);have htame:=HTK.o.i.tame;have hlen:=HTK.o.i.len;have hLL:=HOK.o.L;obtain ⟨L,hL⟩:∃L,L=t.L:=⟨_,rfl⟩
      rw [<-hL] at h7 HP21 htame hlen hLL HTOLD;obtain ⟨n,hn⟩:∃n,n=L.length:=⟨_,rfl⟩
      rw [<-hn] at h7 HP21 hLL;have HTAME:=hqZ htame;have HLEN:=hqZ hlen;have HNL:=hqZ hn;have hn68:n<=68:=by omega
      have HC:Hq (Ac wr (.blk pp PX 45::.ownZ 29 1 (.slice ta n tc) n ts::Br ts L::B2 q T::.ownZ 29 1 (.slice sa SN sc) SN vs::Br vs said:: [.base w])):=hqZ h7;clear h1 h5 h6 h7 hPX hL hn htame hlen hr hr2 HSAY HTK0 HOK0;have HNEW:=hqZ (A1w q _ _ HC.o);clear HC;go_wp2_with fail;refine HNEW.o.mono ?_;rintro e w2 ⟨p,kb,bb,ob,rfl,hc⟩;have HC:Hq (Ac w2 (En p q kb bb ob .nil::B2 q T::.blk pp PX 45::.ownZ 29 1 (.slice ta n tc) n ts::Br ts L::.ownZ 29 1 (.slice sa SN sc) SN vs::Br vs said:: [.base w])):=hqZ (hc.zP [0,3]);have c21:=((HC.o.zB pp).cell 21).trans HP21.o;clear hc HNEW;go_wp2_with fail;go_loopw [76] (λ i wr=>∃k:Nat,k<=n/\i=.int .i64 k/\Ac wr (En p q kb bb ob (Mi.see (L.take k))::B2 q T::.blk pp PX 45::.ownZ 29 1 (.slice ta n tc) n ts::Br ts L::.ownZ 29 1 (.slice sa SN sc) SN vs::Br vs said:: [.base w])) (λ i _=>n- (intOf i).toNat)
      case atStart=>exact ⟨0,Nat.zero_le _,rfl,HC.o⟩
      case round=>
        obtain ⟨k3,hk3,rfl,hr⟩:=hrel;have HR:=hqZ hr;clear hr HC c21;by_cases hlt3:k3<n
        · obtain ⟨bl,ol,v,hal,hcv,htv,hbv⟩:=Vc (HR.o.zP [3,3]) HNL.o hlt3;obtain ⟨va,vc,rfl,_,_⟩:=hbv.form;subst hal;have hk3i:(k3:Int)<n:=by omega
          obtain ⟨X,hX⟩:∃X,X=L[k3]'(by rw [<-HNL.o]; exact hlt3):=⟨_,rfl⟩
          rw [<-hX] at hbv hcv htv;have HXM:Hq (X∈L):=hqZ (by rw [hX]; exact aB _);have HXG:Hq (L[k3]?=some X):=hqZ (by rw [hX]; exact aE _);have HXT:Hq (Mi.see (L.take (k3+1))=(Mi.see (L.take k3)).take X):=hqZ (by rw [List.take_add_one,HXG.o]; exact Mi.see_snoc _ _);have HSEE:=hqZ (A1x p q kb bb ob (Mi.see (L.take k3)) T (.slice va X.length vc) X _ wr HR.o (λ W hW=>Gs (hW.zP [2]) k3 htv HXG.o) HTAB.o (Mi.see_ok _) (by
            rw [Mi.see_all (λ x hx=>HTAME.o x (aG hx)),List.length_take]; omega) (HLEN.o X HXM.o))
          have HNK:Hq (((Mi.see (L.take k3)).take X).keys= []):=hqZ (by rw [<-HXT.o]; exact Mi.see_keys λ x hx=>HTAME.o x (aG hx));unfold Ep at HSEE;clear hbv htv hX;go_wp2_with fail;refine HSEE.o.mono ?_;rintro e w5 ⟨rfl,M1,hst,_,hc⟩;rw [hst.none HNK.o,<-HXT.o] at hc;have HR5:=hqZ hc;clear hst hc HSEE hcv;go_wp2_with fail;go_roundw
          case rel=>exact ⟨k3+1,by omega,by go_num,HR5.o⟩
          case measure=>simp [intOf]; omega
        · have HLT:Hq (L.take k3=L):=hqZ (List.take_of_length_le (by rw [<-HNL.o]; omega));have h9:=HR.o;rw [HLT.o] at h9;obtain ⟨M,hM⟩:∃M,M=Mi.see L:=⟨_,rfl⟩
          rw [<-hM] at h9;have HMK:Hq (M.keys= []):=hqZ (by rw [hM]; exact Mi.see_keys HTAME.o);have HMO:Hq M.Ok:=hqZ (by rw [hM]; exact Mi.see_ok _);have HMA:Hq (M.all=L):=hqZ (by rw [hM]; exact Mi.see_all HTAME.o);have HMN:Hq (M.all.length<=68):=hqZ (by rw [HMA.o,<-HNL.o]; exact hn68);have HML:Hq (∀x∈M.all,x.length<=3000):=hqZ (by rw [HMA.o]; exact HLEN.o);rw [<-hM] at HTOLD;have HC:=hqZ h9;have HUNS:Hq (∀b∈said,Ru M.all b=false):=hqZ (λ b hb=>by
            rw [Bool.eq_false_iff];intro hs;obtain ⟨i,x,rfl⟩:=HSA.o b hb
            have:=Tt.1 hs;rw [hM] at this;exact A5f HTAME.o i x this)
          have HKEY:=hqZ (Ti p q kb bb ob M T key _ wr HC.o HKL.o HTAB.o HMO.o (by have:=HMN.o; omega));have HCK:Hq (Al wr pp 5 (Ab key)):=hqZ (HC.o.zr (p:=pp) (o:=5) (n:=16) (vs:=Ab key) HPK.o);clear h9 hM HR hk3;go_wp2_with ((with_reducible refine zw 88 ?_); refine Ag rfl (.tmp 87) Am rfl rfl (cs:=Ab key) HKC.o HCK.o ?_);refine HKEY.o.mono ?_;rintro e w5 ⟨M1,rfl,hst,_,hc⟩;rw [hst.none HMK.o] at hc ⊢;rw [HMK.o,show decide (key∈([]:List (List UInt8)))=false by simp];have HC:=hqZ hc;have HKEYS:=hqZ (Z5 p q kb bb ob M T _ w5 HC.o HTAB.o HMO.o (by have:=HMN.o; omega) HMK.o);clear hst hc HKEY HCK;go_wp2_with fail;refine HKEYS.o.mono ?_;rintro e w6 ⟨rfl,hc⟩;have HC:=hqZ hc;clear hc HKEYS;go_wp2_with fail;go_loopw [98] (λ i wr=>∃k:Nat,k<=SN/\i=.int .i64 k/\Ac wr (En p q kb bb ob M::B2 q T::.blk pp PX 45::.ownZ 29 1 (.slice ta n tc) n ts::Br ts L::.ownZ 29 1 (.slice sa SN sc) SN vs::Br vs said:: [.base w])) (λ i _=>SN- (intOf i).toNat)
          case atStart=>exact ⟨0,Nat.zero_le _,rfl,HC.o⟩
          case round=>
            obtain ⟨k4,hk4,rfl,hr⟩:=hrel;have HR:=hqZ hr;clear hr HC;by_cases hlt4:k4<SN
            · obtain ⟨bl4,ol4,v,hal,hcv,htv,hbv⟩:=Vc (HR.o.zP [5,5]) HSNE.o hlt4;obtain ⟨va,vc,rfl,_,_⟩:=hbv.form;subst hal;have hk4i:(k4:Int)<SN:=by omega
              obtain ⟨X,hX⟩:∃X,X=said[k4]'(by rw [<-HSNE.o]; exact hlt4):=⟨_,rfl⟩
              rw [<-hX] at hbv hcv htv;have HXM:Hq (X∈said):=hqZ (by rw [hX]; exact aB _);have HXG:Hq (said[k4]?=some X):=hqZ (by rw [hX]; exact aE _);have HSAYS:=hqZ (Q4 p q kb bb ob M T (.slice va X.length vc) X _ wr HR.o (λ W hW=>Gs (hW.zP [4]) k4 htv HXG.o) (by have:=HSB.o X HXM.o; omega) HTAB.o HMO.o (by have:=HMN.o; omega) HML.o);clear hbv htv hX;go_wp2_with fail;refine HSAYS.o.mono ?_;rintro e w7 ⟨M3,rfl,hst,_,hc⟩;rw [hst.none HMK.o] at hc ⊢;rw [HUNS.o X HXM.o];have HC:=hqZ hc;clear hst hc HSAYS hcv;go_wp2_with fail;go_roundw
              case rel=>exact ⟨k4+1,by omega,by go_num,HC.o⟩
              case measure=>simp [intOf]; omega
            · have HC:=hqZ HR.o;clear HR;obtain ⟨i2,y2,hy2,hyi2⟩:=A2j k2;obtain ⟨K0,hK0⟩:∃K0,K0=if i2=true then Em else G8:=⟨_,rfl⟩
              have HX:Hq ((y2=0/\K0=G8)\/(y2=1/\K0=Em)):=hqZ (by cases i2 <;> simp_all);have HTOLD2:Hq (∀M1:Mi,Mi.Steps T { M with keys:=K0::M.keys } M1->M1.Closed T->My∈M1.keys/\∀b∈said,Ru M1.all b=true):=hqZ (λ M1 h1 h2=>by
                rw [HMK.o,hK0] at h1;exact HTOLD.o i2 M1 h1 h2)
              have HLE:=hqZ (λ (k:List UInt8) (hk:Pq 107 k) (l:List Res) (W:aH) (hW:Ac W (En p q kb bb ob M::B2 q T::l))=>W9 p q kb bb ob M T k l W hW hk HTAB.o HMO.o (by have:=HMN.o; omega));unfold Ep at HLE;have HM0:Hq (({ M with keys:=K0::M.keys } :Mi).Ok):=hqZ (HMO.o.learn (by
                rcases HX.o with ⟨_,rfl⟩ | ⟨_,rfl⟩
                · exact ⟨2,by decide,rfl⟩
                · exact ⟨5,by decide,rfl⟩))
              clear hyi2 hK0;go_upto_region 32 with fail;go_cut [] from 106 to 120 (λ wx=>∃M2,Mi.Steps T { M with keys:=K0::M.keys } M2/\M2.Closed T/\Ac wx (En p q kb bb ob M2::B2 q T::.blk pp PX 45::.ownZ 29 1 (.slice ta n tc) n ts::Br ts L::.ownZ 29 1 (.slice sa SN sc) SN vs::Br vs said:: [.base w]))
              case first=>
                rcases HX.o with ⟨rfl,rfl⟩ | ⟨rfl,rfl⟩
                · refine Cx [] (λ b W=>True) (by kernel_rfl) ?_;have HC:=hqZ HC.o.drew;have HS:Hq True:=hqZ trivial;refine zT 0 ?_;refine zT 1 ?_;refine zT 3 ?_;refine zT 4 ?_ (v:=.int .i64 0);refine zT 8 ?_;refine zT 9 ?_ (v:=.int .i64 0);refine Bb (rs:= [2,7]) (by decide+kernel) (by simp) ?_;refine zC (λ K' hK=>?_) (zC (λ K' hK=>?_) Cq)
                  · refine zN (λ b=>.slice (some ⟨b,0,none⟩) 2 2) [.string ⟨#[112,97]⟩,.string ⟨#[112,98]⟩] 9 HC.o ?_;intro b2 w2 HC;refine zq hK ?_;clear hK K';refine zT 5 ?_ (v:=.pointer (some ⟨b2,0,none⟩));refine Bb (rs:= [6,7]) (by decide+kernel) (by simp) ?_;refine zC (λ K' hK=>?_) (zC (λ K' hK=>?_) Cq)
                    · refine Cd (.string ⟨#[112,97]⟩) _ rfl (by have c:aH.cell? _ ⟨b2,0,none⟩=some (.string ⟨#[112,97]⟩):=(HC.o.zB b2).cell 0; go_simp; try rfl) ?_;refine zq hK ?_;clear hK K';refine zJ 7 λ K' hK=>?_
                      refine zN (λ b=>.slice (some ⟨b,0,none⟩) 2 2) [.string ⟨#[97,110,110]⟩,.string ⟨#[98,111,98]⟩] 9 HC.o ?_;intro b7 w7 HC;refine zq hK ?_;clear hK K';refine zT 10 ?_ (v:=.pointer (some ⟨b7,0,none⟩));refine zJ 11 λ K' hK=>?_
                      refine Cd (.string ⟨#[97,110,110]⟩) _ rfl (by have c:aH.cell? _ ⟨b7,0,none⟩=some (.string ⟨#[97,110,110]⟩):=(HC.o.zB b7).cell 0; go_simp; try rfl) ?_;refine zq hK ?_;clear hK K';refine zJ 12 λ K' hK=>?_
                      go_simp;refine (HTX.o.1 _ _ (HC.o.zP [3])).mono ?_;rintro e w12 ⟨rfl,hc⟩;have HC:=hqZ hc;clear hc;refine zq hK ?_;clear hK K';refine zJ 13 λ K' hK=>?_
                      go_simp;refine (HLE.o G8 ⟨2,by decide,rfl⟩ _ _ (HC.o.zP [3])).mono ?_;rintro e w13 ⟨rfl,M2,hst,hcl2,hc⟩;have HC:=hqZ hc;have HST:=hqZ hst;have HCL2:=hqZ hcl2;clear hc hst hcl2;refine zq hK ?_;clear hK K';refine zD ?_;go_wp2_with fail;go_meet;exact ⟨M2,HST.o,HCL2.o,(HC.o.zP [2,2]).tail.tail⟩
                    · refine zN (λ b=>.slice (some ⟨b,0,none⟩) 2 2) [.string ⟨#[97,110,110]⟩,.string ⟨#[98,111,98]⟩] 9 HC.o ?_;intro b7 w7 HC;refine zq hK ?_;clear hK K';refine zT 10 ?_ (v:=.pointer (some ⟨b7,0,none⟩));refine Bb (rs:= [6,11]) (by decide+kernel) (by simp) ?_;refine zC (λ K' hK=>?_) (zC (λ K' hK=>?_) Cq)
                      · refine Cd (.string ⟨#[112,97]⟩) _ rfl (by have c:aH.cell? _ ⟨b2,0,none⟩=some (.string ⟨#[112,97]⟩):=(HC.o.zB b2).cell 0; go_simp; try rfl) ?_;refine zq hK ?_;clear hK K';refine zJ 11 λ K' hK=>?_
                        refine Cd (.string ⟨#[97,110,110]⟩) _ rfl (by have c:aH.cell? _ ⟨b7,0,none⟩=some (.string ⟨#[97,110,110]⟩):=(HC.o.zB b7).cell 0; go_simp; try rfl) ?_;refine zq hK ?_;clear hK K';refine zJ 12 λ K' hK=>?_
                        go_simp;refine (HTX.o.1 _ _ (HC.o.zP [3])).mono ?_;rintro e w12 ⟨rfl,hc⟩;have HC:=hqZ hc;clear hc;refine zq hK ?_;clear hK K';refine zJ 13 λ K' hK=>?_
                        go_simp;refine (HLE.o G8 ⟨2,by decide,rfl⟩ _ _ (HC.o.zP [3])).mono ?_;rintro e w13 ⟨rfl,M2,hst,hcl2,hc⟩;have HC:=hqZ hc;have HST:=hqZ hst;have HCL2:=hqZ hcl2;clear hc hst hcl2;refine zq hK ?_;clear hK K';refine zD ?_;go_wp2_with fail;go_meet;exact ⟨M2,HST.o,HCL2.o,(HC.o.zP [2,2]).tail.tail⟩
                      · refine Cd (.string ⟨#[97,110,110]⟩) _ rfl (by have c:aH.cell? _ ⟨b7,0,none⟩=some (.string ⟨#[97,110,110]⟩):=(HC.o.zB b7).cell 0; go_simp; try rfl) ?_;refine zq hK ?_;clear hK K';refine zJ 6 λ K' hK=>?_
                        refine Cd (.string ⟨#[112,97]⟩) _ rfl (by have c:aH.cell? _ ⟨b2,0,none⟩=some (.string ⟨#[112,97]⟩):=(HC.o.zB b2).cell 0; go_simp; try rfl) ?_;refine zq hK ?_;clear hK K';refine zJ 12 λ K' hK=>?_
                        go_simp;refine (HTX.o.1 _ _ (HC.o.zP [3])).mono ?_;rintro e w12 ⟨rfl,hc⟩;have HC:=hqZ hc;clear hc;refine zq hK ?_;clear hK K';refine zJ 13 λ K' hK=>?_
                        go_simp;refine (HLE.o G8 ⟨2,by decide,rfl⟩ _ _ (HC.o.zP [3])).mono ?_;rintro e w13 ⟨rfl,M2,hst,hcl2,hc⟩;have HC:=hqZ hc;have HST:=hqZ hst;have HCL2:=hqZ hcl2;clear hc hst hcl2;refine zq hK ?_;clear hK K';refine zD ?_;go_wp2_with fail;go_meet;exact ⟨M2,HST.o,HCL2.o,(HC.o.zP [2,2]).tail.tail⟩
                  · refine zN (λ b=>.slice (some ⟨b,0,none⟩) 2 2) [.string ⟨#[97,110,110]⟩,.string ⟨#[98,111,98]⟩] 9 HC.o ?_;intro b7 w7 HC;refine zq hK ?_;clear hK K';refine zT 10 ?_ (v:=.pointer (some ⟨b7,0,none⟩));refine Bb (rs:= [2,11]) (by decide+kernel) (by simp) ?_;refine zC (λ K' hK=>?_) (zC (λ K' hK=>?_) Cq)
                    · refine zN (λ b=>.slice (some ⟨b,0,none⟩) 2 2) [.string ⟨#[112,97]⟩,.string ⟨#[112,98]⟩] 9 HC.o ?_;intro b2 w2 HC;refine zq hK ?_;clear hK K';refine zT 5 ?_ (v:=.pointer (some ⟨b2,0,none⟩));refine Bb (rs:= [6,11]) (by decide+kernel) (by simp) ?_;refine zC (λ K' hK=>?_) (zC (λ K' hK=>?_) Cq)
                      · refine Cd (.string ⟨#[112,97]⟩) _ rfl (by have c:aH.cell? _ ⟨b2,0,none⟩=some (.string ⟨#[112,97]⟩):=(HC.o.zB b2).cell 0; go_simp; try rfl) ?_;refine zq hK ?_;clear hK K';refine zJ 11 λ K' hK=>?_
                        refine Cd (.string ⟨#[97,110,110]⟩) _ rfl (by have c:aH.cell? _ ⟨b7,0,none⟩=some (.string ⟨#[97,110,110]⟩):=(HC.o.zB b7).cell 0; go_simp; try rfl) ?_;refine zq hK ?_;clear hK K';refine zJ 12 λ K' hK=>?_
                        go_simp;refine (HTX.o.1 _ _ (HC.o.zP [3])).mono ?_;rintro e w12 ⟨rfl,hc⟩;have HC:=hqZ hc;clear hc;refine zq hK ?_;clear hK K';refine zJ 13 λ K' hK=>?_
                        go_simp;refine (HLE.o G8 ⟨2,by decide,rfl⟩ _ _ (HC.o.zP [3])).mono ?_;rintro e w13 ⟨rfl,M2,hst,hcl2,hc⟩;have HC:=hqZ hc;have HST:=hqZ hst;have HCL2:=hqZ hcl2;clear hc hst hcl2;refine zq hK ?_;clear hK K';refine zD ?_;go_wp2_with fail;go_meet;exact ⟨M2,HST.o,HCL2.o,(HC.o.zP [2,2]).tail.tail⟩
                      · refine Cd (.string ⟨#[97,110,110]⟩) _ rfl (by have c:aH.cell? _ ⟨b7,0,none⟩=some (.string ⟨#[97,110,110]⟩):=(HC.o.zB b7).cell 0; go_simp; try rfl) ?_;refine zq hK ?_;clear hK K';refine zJ 6 λ K' hK=>?_
                        refine Cd (.string ⟨#[112,97]⟩) _ rfl (by have c:aH.cell? _ ⟨b2,0,none⟩=some (.string ⟨#[112,97]⟩):=(HC.o.zB b2).cell 0; go_simp; try rfl) ?_;refine zq hK ?_;clear hK K';refine zJ 12 λ K' hK=>?_
                        go_simp;refine (HTX.o.1 _ _ (HC.o.zP [3])).mono ?_;rintro e w12 ⟨rfl,hc⟩;have HC:=hqZ hc;clear hc;refine zq hK ?_;clear hK K';refine zJ 13 λ K' hK=>?_
                        go_simp;refine (HLE.o G8 ⟨2,by decide,rfl⟩ _ _ (HC.o.zP [3])).mono ?_;rintro e w13 ⟨rfl,M2,hst,hcl2,hc⟩;have HC:=hqZ hc;have HST:=hqZ hst;have HCL2:=hqZ hcl2;clear hc hst hcl2;refine zq hK ?_;clear hK K';refine zD ?_;go_wp2_with fail;go_meet;exact ⟨M2,HST.o,HCL2.o,(HC.o.zP [2,2]).tail.tail⟩
                    · refine Cd (.string ⟨#[97,110,110]⟩) _ rfl (by have c:aH.cell? _ ⟨b7,0,none⟩=some (.string ⟨#[97,110,110]⟩):=(HC.o.zB b7).cell 0; go_simp; try rfl) ?_;refine zq hK ?_;clear hK K';refine zJ 2 λ K' hK=>?_
                      refine zN (λ b=>.slice (some ⟨b,0,none⟩) 2 2) [.string ⟨#[112,97]⟩,.string ⟨#[112,98]⟩] 9 HC.o ?_;intro b2 w2 HC;refine zq hK ?_;clear hK K';refine zT 5 ?_ (v:=.pointer (some ⟨b2,0,none⟩));refine zJ 6 λ K' hK=>?_
                      refine Cd (.string ⟨#[112,97]⟩) _ rfl (by have c:aH.cell? _ ⟨b2,0,none⟩=some (.string ⟨#[112,97]⟩):=(HC.o.zB b2).cell 0; go_simp; try rfl) ?_;refine zq hK ?_;clear hK K';refine zJ 12 λ K' hK=>?_
                      go_simp;refine (HTX.o.1 _ _ (HC.o.zP [3])).mono ?_;rintro e w12 ⟨rfl,hc⟩;have HC:=hqZ hc;clear hc;refine zq hK ?_;clear hK K';refine zJ 13 λ K' hK=>?_
                      go_simp;refine (HLE.o G8 ⟨2,by decide,rfl⟩ _ _ (HC.o.zP [3])).mono ?_;rintro e w13 ⟨rfl,M2,hst,hcl2,hc⟩;have HC:=hqZ hc;have HST:=hqZ hst;have HCL2:=hqZ hcl2;clear hc hst hcl2;refine zq hK ?_;clear hK K';refine zD ?_;go_wp2_with fail;go_meet;exact ⟨M2,HST.o,HCL2.o,(HC.o.zP [2,2]).tail.tail⟩
                · refine Cx [] (λ b W=>True) (by kernel_rfl) ?_;have HC:=hqZ HC.o.drew;have HS:Hq True:=hqZ trivial;refine zT 0 ?_;refine zT 1 ?_;refine zT 3 ?_;refine zT 4 ?_ (v:=.int .i64 1);refine zT 8 ?_;refine zT 9 ?_ (v:=.int .i64 1);refine Bb (rs:= [2,7]) (by decide+kernel) (by simp) ?_;refine zC (λ K' hK=>?_) (zC (λ K' hK=>?_) Cq)
                  · refine zN (λ b=>.slice (some ⟨b,0,none⟩) 2 2) [.string ⟨#[112,97]⟩,.string ⟨#[112,98]⟩] 9 HC.o ?_;intro b2 w2 HC;refine zq hK ?_;clear hK K';refine zT 5 ?_ (v:=.pointer (some ⟨b2,1,none⟩));refine Bb (rs:= [6,7]) (by decide+kernel) (by simp) ?_;refine zC (λ K' hK=>?_) (zC (λ K' hK=>?_) Cq)
                    · refine Cd (.string ⟨#[112,98]⟩) _ rfl (by have c:aH.cell? _ ⟨b2,1,none⟩=some (.string ⟨#[112,98]⟩):=(HC.o.zB b2).cell 1; go_simp; try rfl) ?_;refine zq hK ?_;clear hK K';refine zJ 7 λ K' hK=>?_
                      refine zN (λ b=>.slice (some ⟨b,0,none⟩) 2 2) [.string ⟨#[97,110,110]⟩,.string ⟨#[98,111,98]⟩] 9 HC.o ?_;intro b7 w7 HC;refine zq hK ?_;clear hK K';refine zT 10 ?_ (v:=.pointer (some ⟨b7,1,none⟩));refine zJ 11 λ K' hK=>?_
                      refine Cd (.string ⟨#[98,111,98]⟩) _ rfl (by have c:aH.cell? _ ⟨b7,1,none⟩=some (.string ⟨#[98,111,98]⟩):=(HC.o.zB b7).cell 1; go_simp; try rfl) ?_;refine zq hK ?_;clear hK K';refine zJ 12 λ K' hK=>?_
                      go_simp;refine (HTX.o.2 _ _ (HC.o.zP [3])).mono ?_;rintro e w12 ⟨rfl,hc⟩;have HC:=hqZ hc;clear hc;refine zq hK ?_;clear hK K';refine zJ 13 λ K' hK=>?_
                      go_simp;refine (HLE.o Em ⟨5,by decide,rfl⟩ _ _ (HC.o.zP [3])).mono ?_;rintro e w13 ⟨rfl,M2,hst,hcl2,hc⟩;have HC:=hqZ hc;have HST:=hqZ hst;have HCL2:=hqZ hcl2;clear hc hst hcl2;refine zq hK ?_;clear hK K';refine zD ?_;go_wp2_with fail;go_meet;exact ⟨M2,HST.o,HCL2.o,(HC.o.zP [2,2]).tail.tail⟩
                    · refine zN (λ b=>.slice (some ⟨b,0,none⟩) 2 2) [.string ⟨#[97,110,110]⟩,.string ⟨#[98,111,98]⟩] 9 HC.o ?_;intro b7 w7 HC;refine zq hK ?_;clear hK K';refine zT 10 ?_ (v:=.pointer (some ⟨b7,1,none⟩));refine Bb (rs:= [6,11]) (by decide+kernel) (by simp) ?_;refine zC (λ K' hK=>?_) (zC (λ K' hK=>?_) Cq)
                      · refine Cd (.string ⟨#[112,98]⟩) _ rfl (by have c:aH.cell? _ ⟨b2,1,none⟩=some (.string ⟨#[112,98]⟩):=(HC.o.zB b2).cell 1; go_simp; try rfl) ?_;refine zq hK ?_;clear hK K';refine zJ 11 λ K' hK=>?_
                        refine Cd (.string ⟨#[98,111,98]⟩) _ rfl (by have c:aH.cell? _ ⟨b7,1,none⟩=some (.string ⟨#[98,111,98]⟩):=(HC.o.zB b7).cell 1; go_simp; try rfl) ?_;refine zq hK ?_;clear hK K';refine zJ 12 λ K' hK=>?_
                        go_simp;refine (HTX.o.2 _ _ (HC.o.zP [3])).mono ?_;rintro e w12 ⟨rfl,hc⟩;have HC:=hqZ hc;clear hc;refine zq hK ?_;clear hK K';refine zJ 13 λ K' hK=>?_
                        go_simp;refine (HLE.o Em ⟨5,by decide,rfl⟩ _ _ (HC.o.zP [3])).mono ?_;rintro e w13 ⟨rfl,M2,hst,hcl2,hc⟩;have HC:=hqZ hc;have HST:=hqZ hst;have HCL2:=hqZ hcl2;clear hc hst hcl2;refine zq hK ?_;clear hK K';refine zD ?_;go_wp2_with fail;go_meet;exact ⟨M2,HST.o,HCL2.o,(HC.o.zP [2,2]).tail.tail⟩
                      · refine Cd (.string ⟨#[98,111,98]⟩) _ rfl (by have c:aH.cell? _ ⟨b7,1,none⟩=some (.string ⟨#[98,111,98]⟩):=(HC.o.zB b7).cell 1; go_simp; try rfl) ?_;refine zq hK ?_;clear hK K';refine zJ 6 λ K' hK=>?_
                        refine Cd (.string ⟨#[112,98]⟩) _ rfl (by have c:aH.cell? _ ⟨b2,1,none⟩=some (.string ⟨#[112,98]⟩):=(HC.o.zB b2).cell 1; go_simp; try rfl) ?_;refine zq hK ?_;clear hK K';refine zJ 12 λ K' hK=>?_
                        go_simp;refine (HTX.o.2 _ _ (HC.o.zP [3])).mono ?_;rintro e w12 ⟨rfl,hc⟩;have HC:=hqZ hc;clear hc;refine zq hK ?_;clear hK K';refine zJ 13 λ K' hK=>?_
                        go_simp;refine (HLE.o Em ⟨5,by decide,rfl⟩ _ _ (HC.o.zP [3])).mono ?_;rintro e w13 ⟨rfl,M2,hst,hcl2,hc⟩;have HC:=hqZ hc;have HST:=hqZ hst;have HCL2:=hqZ hcl2;clear hc hst hcl2;refine zq hK ?_;clear hK K';refine zD ?_;go_wp2_with fail;go_meet;exact ⟨M2,HST.o,HCL2.o,(HC.o.zP [2,2]).tail.tail⟩
                  · refine zN (λ b=>.slice (some ⟨b,0,none⟩) 2 2) [.string ⟨#[97,110,110]⟩,.string ⟨#[98,111,98]⟩] 9 HC.o ?_;intro b7 w7 HC;refine zq hK ?_;clear hK K';refine zT 10 ?_ (v:=.pointer (some ⟨b7,1,none⟩));refine Bb (rs:= [2,11]) (by decide+kernel) (by simp) ?_;refine zC (λ K' hK=>?_) (zC (λ K' hK=>?_) Cq)
                    · refine zN (λ b=>.slice (some ⟨b,0,none⟩) 2 2) [.string ⟨#[112,97]⟩,.string ⟨#[112,98]⟩] 9 HC.o ?_;intro b2 w2 HC;refine zq hK ?_;clear hK K';refine zT 5 ?_ (v:=.pointer (some ⟨b2,1,none⟩));refine Bb (rs:= [6,11]) (by decide+kernel) (by simp) ?_;refine zC (λ K' hK=>?_) (zC (λ K' hK=>?_) Cq)
                      · refine Cd (.string ⟨#[112,98]⟩) _ rfl (by have c:aH.cell? _ ⟨b2,1,none⟩=some (.string ⟨#[112,98]⟩):=(HC.o.zB b2).cell 1; go_simp; try rfl) ?_;refine zq hK ?_;clear hK K';refine zJ 11 λ K' hK=>?_
                        refine Cd (.string ⟨#[98,111,98]⟩) _ rfl (by have c:aH.cell? _ ⟨b7,1,none⟩=some (.string ⟨#[98,111,98]⟩):=(HC.o.zB b7).cell 1; go_simp; try rfl) ?_;refine zq hK ?_;clear hK K';refine zJ 12 λ K' hK=>?_
                        go_simp;refine (HTX.o.2 _ _ (HC.o.zP [3])).mono ?_;rintro e w12 ⟨rfl,hc⟩;have HC:=hqZ hc;clear hc;refine zq hK ?_;clear hK K';refine zJ 13 λ K' hK=>?_
                        go_simp;refine (HLE.o Em ⟨5,by decide,rfl⟩ _ _ (HC.o.zP [3])).mono ?_;rintro e w13 ⟨rfl,M2,hst,hcl2,hc⟩;have HC:=hqZ hc;have HST:=hqZ hst;have HCL2:=hqZ hcl2;clear hc hst hcl2;refine zq hK ?_;clear hK K';refine zD ?_;go_wp2_with fail;go_meet;exact ⟨M2,HST.o,HCL2.o,(HC.o.zP [2,2]).tail.tail⟩
                      · refine Cd (.string ⟨#[98,111,98]⟩) _ rfl (by have c:aH.cell? _ ⟨b7,1,none⟩=some (.string ⟨#[98,111,98]⟩):=(HC.o.zB b7).cell 1; go_simp; try rfl) ?_;refine zq hK ?_;clear hK K';refine zJ 6 λ K' hK=>?_
                        refine Cd (.string ⟨#[112,98]⟩) _ rfl (by have c:aH.cell? _ ⟨b2,1,none⟩=some (.string ⟨#[112,98]⟩):=(HC.o.zB b2).cell 1; go_simp; try rfl) ?_;refine zq hK ?_;clear hK K';refine zJ 12 λ K' hK=>?_
                        go_simp;refine (HTX.o.2 _ _ (HC.o.zP [3])).mono ?_;rintro e w12 ⟨rfl,hc⟩;have HC:=hqZ hc;clear hc;refine zq hK ?_;clear hK K';refine zJ 13 λ K' hK=>?_
                        go_simp;refine (HLE.o Em ⟨5,by decide,rfl⟩ _ _ (HC.o.zP [3])).mono ?_;rintro e w13 ⟨rfl,M2,hst,hcl2,hc⟩;have HC:=hqZ hc;have HST:=hqZ hst;have HCL2:=hqZ hcl2;clear hc hst hcl2;refine zq hK ?_;clear hK K';refine zD ?_;go_wp2_with fail;go_meet;exact ⟨M2,HST.o,HCL2.o,(HC.o.zP [2,2]).tail.tail⟩
                    · refine Cd (.string ⟨#[98,111,98]⟩) _ rfl (by have c:aH.cell? _ ⟨b7,1,none⟩=some (.string ⟨#[98,111,98]⟩):=(HC.o.zB b7).cell 1; go_simp; try rfl) ?_;refine zq hK ?_;clear hK K';refine zJ 2 λ K' hK=>?_
                      refine zN (λ b=>.slice (some ⟨b,0,none⟩) 2 2) [.string ⟨#[112,97]⟩,.string ⟨#[112,98]⟩] 9 HC.o ?_;intro b2 w2 HC;refine zq hK ?_;clear hK K';refine zT 5 ?_ (v:=.pointer (some ⟨b2,1,none⟩));refine zJ 6 λ K' hK=>?_
                      refine Cd (.string ⟨#[112,98]⟩) _ rfl (by have c:aH.cell? _ ⟨b2,1,none⟩=some (.string ⟨#[112,98]⟩):=(HC.o.zB b2).cell 1; go_simp; try rfl) ?_;refine zq hK ?_;clear hK K';refine zJ 12 λ K' hK=>?_
                      go_simp;refine (HTX.o.2 _ _ (HC.o.zP [3])).mono ?_;rintro e w12 ⟨rfl,hc⟩;have HC:=hqZ hc;clear hc;refine zq hK ?_;clear hK K';refine zJ 13 λ K' hK=>?_
                      go_simp;refine (HLE.o Em ⟨5,by decide,rfl⟩ _ _ (HC.o.zP [3])).mono ?_;rintro e w13 ⟨rfl,M2,hst,hcl2,hc⟩;have HC:=hqZ hc;have HST:=hqZ hst;have HCL2:=hqZ hcl2;clear hc hst hcl2;refine zq hK ?_;clear hK K';refine zD ?_;go_wp2_with fail;go_meet;exact ⟨M2,HST.o,HCL2.o,(HC.o.zP [2,2]).tail.tail⟩
              case rest=>
                obtain ⟨M2,hst,hcl2,hc⟩:=hcut;have HST:=hqZ hst;have HCL2:=hqZ hcl2;have HC:=hqZ hc;have HTD:=hqZ (HTOLD2.o M2 hst hcl2);have HM2O:Hq M2.Ok:=hqZ (hst.ok HM0.o (by have:=HTAB.o.nb; omega) (by have:=HTAB.o.nk; omega));have HM2L:Hq (∀x∈M2.all,x.length<=3000):=hqZ (hst.len (λ bx hb=>by have:=(HTAB.o.body bx hb).2; omega) HML.o);have HM2N:Hq (M2.all.length<=100000):=hqZ (by
                  have h1:=hst.all;have h2:=Mi.left_most T { M with keys:=K0::M.keys };have h3:=HNB.o;have h5:({ M with keys:=K0::M.keys } :Mi).all.length<=68:=HMN.o
                  omega)
                clear hst hcl2 hc;go_wp2_with fail;go_loopw [122] (λ i wr=>∃k:Nat,k<=SN/\i=.int .i64 k/\Ac wr (En p q kb bb ob M2::B2 q T::.blk pp PX 45::.ownZ 29 1 (.slice ta n tc) n ts::Br ts L::.ownZ 29 1 (.slice sa SN sc) SN vs::Br vs said:: [.base w])) (λ i _=>SN- (intOf i).toNat)
                case atStart=>exact ⟨0,Nat.zero_le _,rfl,HC.o⟩
                case round=>
                  obtain ⟨k4,hk4,rfl,hr⟩:=hrel;have HR:=hqZ hr;clear hr HC;by_cases hlt4:k4<SN
                  · obtain ⟨bl4,ol4,v,hal,hcv,htv,hbv⟩:=Vc (HR.o.zP [5,5]) HSNE.o hlt4;obtain ⟨va,vc,rfl,_,_⟩:=hbv.form;subst hal;have hk4i:(k4:Int)<SN:=by omega
                    obtain ⟨X,hX⟩:∃X,X=said[k4]'(by rw [<-HSNE.o]; exact hlt4):=⟨_,rfl⟩
                    rw [<-hX] at hbv hcv htv;have HXM:Hq (X∈said):=hqZ (by rw [hX]; exact aB _);have HXG:Hq (said[k4]?=some X):=hqZ (by rw [hX]; exact aE _);have HSAYS:=hqZ (Q4 p q kb bb ob M2 T (.slice va X.length vc) X _ wr HR.o (λ W hW=>Gs (hW.zP [4]) k4 htv HXG.o) (by have:=HSB.o X HXM.o; omega) HTAB.o HM2O.o HM2N.o HM2L.o);clear hbv htv hX;go_wp2_with fail;refine HSAYS.o.mono ?_;rintro e w7 ⟨M3,rfl,hst,_,hc⟩;rw [HCL2.o.steps hst] at hc ⊢;rw [HTD.o.2 X HXM.o];have HC:=hqZ hc;clear hst hc HSAYS hcv;go_wp2_with fail;go_roundw
                    case rel=>exact ⟨k4+1,by omega,by go_num,HC.o⟩
                    case measure=>simp [intOf]; omega
                  · have HC:=hqZ HR.o;clear HR;have HKEY:=hqZ (Ti p q kb bb ob M2 T key _ wr HC.o HKL.o HTAB.o HM2O.o HM2N.o);have HCK:Hq (Al wr pp 5 (Ab key)):=hqZ (HC.o.zr (p:=pp) (o:=5) (n:=16) (vs:=Ab key) HPK.o);go_wp2_with ((with_reducible refine zw 135 ?_); refine Ag rfl (.tmp 134) Am rfl rfl (cs:=Ab key) HKC.o HCK.o ?_);refine HKEY.o.mono ?_;rintro e w5 ⟨M1,rfl,hst,_,hc⟩;rw [HCL2.o.steps hst] at hc ⊢;rw [show decide (key∈M2.keys)=true from decide_eq_true (by rw [HSUB.o]; exact HTD.o.1)];have HC:=hqZ hc;clear hst hc HKEY HCK;go_wp2_with fail;go_ret;exact ⟨rfl,HC.o.baseOf (w0:=w) (by simp)⟩
end Go.Proofs.YtbmjjfhpllpiaaaGreat
