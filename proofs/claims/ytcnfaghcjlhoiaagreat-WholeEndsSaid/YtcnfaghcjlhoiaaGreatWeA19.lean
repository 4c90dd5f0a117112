/- Texts of this proof, one behind the other: Top8. -/
import Derived.Test.YtcnfaghcjlhoiaaGreatWeA18
set_option linter.unusedSimpArgs false
set_option linter.unusedVariables false
set_option maxRecDepth 100000
set_option maxHeartbeats 16000000
open Go.Proofs.Tryz renaming prog -> aA
open Go renaming Value -> aB, World -> aC, Calls -> aD
open List renaming take_zero -> aO, drop_zero -> aP
namespace Go.Proofs.YtcnfaghcjlhoiaaGreat
open Go.RowKit Go.Maps
section
def mkU (nm uk:Aa):Us:=if h:uk.length=16 then ⟨tx nm,uk,h,300,3000,true⟩ else ⟨tx nm,zk,rfl,300,3000,true⟩
theorem Q7 {nm uk:Aa} (h:uk.length=16):(mkU nm uk).key=uk:=by rw [mkU,dif_pos h]
theorem Cg (nm uk:Aa):(mkU nm uk).name=tx nm:=by unfold mkU; split <;> rfl
theorem Da (nm uk:Aa):(mkU nm uk).life=300:=by unfold mkU; split <;> rfl
theorem Cw (nm uk:Aa):(mkU nm uk).renew=3000:=by unfold mkU; split <;> rfl
theorem Sn (nm uk:Aa):(mkU nm uk).mesh=true:=by unfold mkU; split <;> rfl
theorem Pb (u:Us) (h1:u.name=tx Ay) (h2:u.life=300) (h3:u.renew=3000):Jo [] u=([u],0)/\Fc [u]/\Qm [u] (tx Ay)=u.cells/\Qn [u] (tx Ay)=0:=by
 obtain ⟨nm,k,kl,lf,rn,me⟩:=u;simp only at h1 h2 h3;subst h1 h2 h3;refine ⟨by kernel_rfl,?_,by kernel_rfl,by kernel_rfl⟩;exact List.pairwise_singleton _ _
theorem Pc (u v:Us) (h1:u.name=tx Ay) (g1:v.name=tx A0) (g2:v.life=300) (g3:v.renew=3000):Jo [u] v=([u,v],0)/\Fc [u,v]/\Qm [u,v] (tx A0)=v.cells/\Qn [u,v] (tx A0)=0:=by
 obtain ⟨nm,k,kl,lf,rn,me⟩:=u;obtain ⟨nm2,k2,kl2,lf2,rn2,me2⟩:=v;simp only at h1 g1 g2 g3;subst h1 g1 g2 g3;refine ⟨by kernel_rfl,?_,by kernel_rfl,by kernel_rfl⟩;refine List.pairwise_cons.2 ⟨?_,List.pairwise_singleton _ _⟩;intro x hx;simp only [List.mem_cons,List.not_mem_nil,or_false] at hx;subst hx;show Kc (tx Ay) (tx A0)<0
 decide+kernel
theorem Lf:Fv Bu:=by
 intro x hx
 have:∀o∈Bu,o=none:=by
  intro o ho;simp only [Bu,I7,List.map_replicate] at ho
  have:=List.eq_of_mem_replicate ho;rw [this];rfl
 exact absurd (this _ hx) (by simp)
theorem Ke {D:List (Option CrD)} {d:CrD} (h:Fv D) (hd:d.2.1.length<=140737488351232):Fv (Fp D d).1:=by
 unfold Fp;split
 . exact h
 . intro x hx;rcases List.mem_or_eq_of_mem_set hx with hx | hx
   . exact h x hx
   . cases hx
     exact hd
theorem Xi (k nm tk:Aa):(Fp Bu ((Ee k nm).cr Ax tk)).2=0/\Ja (Fp Bu ((Ee k nm).cr Ax tk)).1 (tx Ax)=some (tx Ax,tk,k,5,310,3010):=
 ⟨by kernel_rfl,by kernel_rfl⟩
theorem A3c (k nm tk nk t2:Aa):(Fp (Fp Bu ((Ee k nm).cr Ax tk)).1 ((Hk nk).cr A0 t2)).2=0/\Ja (Fp (Fp Bu ((Ee k nm).cr Ax tk)).1 ((Hk nk).cr A0 t2)).1 (tx A0)=some (tx A0,t2,nk,2,310,0):=
 ⟨by kernel_rfl,by kernel_rfl⟩
def Ph.c1 (p:Ph) (nm:Aa):Cli:=(Cli.new (tx nm)).logged p.uk p.no
section
variable {s:PS} {K nm:Aa} {pw:ByteArray} {p:Ph} (ok:V4 s K nm pw p) (hz:s.sz<=10000) (hnl:nm.length<=200) (hnr:Au (tx nm)=true) (huk:p.uk.length=16)
include ok hz hnl
theorem A2X (q kp bp:Nat) (L:List Us) (u:Us) (hu:u.key=p.uk) (hn:u.name=tx nm) (hlf:u.life=300) (hrn:u.renew=3000) (hm:u.mesh=true) (hL:Fc L) (hl:L.length<=32) (ha:(Jo L u).2=0) (hpw:pw.size<=1000) (l:List Res) (w:aC) (h:Ad w (Ck kp s.knd q bp K::Bg bp L::pvR q s::l)): aD aA 22 #[.pointer (some ⟨kp,0,none⟩),.string (tx nm),.string pw,.int .i64 300,.int .i64 3000,.bool true] w λ e w'=>e=.returned (.int .i64 0)/\Ad w' (Ck kp s.knd q bp K::Bg bp (Jo L u).1::pvR q p.sa::l):=by
 have e1:s.text pw.data.toList u.name.data.toList=(p.uk,p.sa):=by rw [hn]; exact ok.text
 have:=N8 kp q bp s K L u pw l w h (by omega) (by rw [e1]; exact hu) hL hl (by rw [hn,Dq]; omega) (by omega);rw [hn,hlf,hrn,hm] at this;unfold Rh at this;rw [ha] at this;have e2:(s.text pw.data.toList (tx nm).data.toList).2=p.sa:=by rw [<-hn,e1]
 rw [e2] at this;exact this
theorem A2Y (q cp st:Nat) (hpw:pw.size<=1000) (l:List Res) (w:aC) (h:Ad w (Bd cp s.knd q st (Cli.new (tx nm))::pvR q p.sa::l)): aD aA 35 #[.pointer (some ⟨cp,0,none⟩),.int .i64 10,.string pw,.int .i64 900] w λ e w'=>∃y,e=.returned (.tuple #[.agg #[.string (tx nm),.int .i64 (p.no:Int),.int .i64 900,y],.int .i64 0])/\Ad w' (.row y p.bx::Bd cp s.knd q st (p.c1 nm)::pvR q p.sc::l):=by
 have hza:=ok.za
 have:=Lu cp q st p.sa (Cli.new (tx nm)) nm pw 10 900 l w (by rw [ok.kna]; exact h) (by omega) rfl hnl hpw rfl (by decide) (by show 0<_; omega);unfold Nv at this;rw [show (Cli.new (tx nm)).seq+1=1 from rfl,ok.no,ok.box,ok.sc,ok.key,ok.kna] at this;exact this
include hnr in
theorem A8H (q kp bp:Nat) (L:List Us) (u:Us) (hu:u.key=p.uk) (hn:u.name=tx nm) (hlf:u.life=300) (hrn:u.renew=3000) (hL:Fc L) (hl:L.length<=32) (hg:Qm L (tx nm)=u.cells) (he:Qn L (tx nm)=0) (hK:K.length=16) (pv:aB) (l:List Res) (w:aC) (h:Ad w (Ck kp s.knd q bp K::Bg bp L::pvR q p.sc::l)) (hv:∀W,Ad W l->Bs W pv p.bx): aD aA 36 #[.pointer (some ⟨kp,0,none⟩),.int .i64 10,.agg #[.string (tx nm),.int .i64 (p.no:Int),.int .i64 900,pv]] w λ e w'=>∃y z,e=.returned (.tuple #[.agg #[.string (tx nm),.string (tx Ax),y,z],.int .i64 0])/\ Ad w' (.row y p.tk::.row z p.rp::Ck kp s.knd q bp K::Bg bp L::pvR q p.s::l):=by
 have hzc:=ok.zc;have hnb:=ok.nob
 have:=U7 kp q bp p.sc K L u nm p.no 10 900 300 3000 10 1 pv p.bx l w (by rw [ok.knc]; exact h) (by omega) hK hL hl hg he hn hnl hnr hlf hrn (by rw [hu]; exact ok.opre) hv (by decide) (by decide) (by decide) (by decide) (by decide) (by omega) (by decide) (by decide) (by decide);unfold A4f at this;rw [hu,ok.tk,ok.rp,ok.s2,ok.knc] at this;exact this
include hnr huk in
theorem A7i (q cp st:Nat) (tv rv:aB) (l:List Res) (w:aC) (h:Ad w (Bd cp s.knd q st (p.c1 nm)::Aw st Bu::pvR q p.s::.row tv p.tk::l)) (hv:∀W,Ad W l->Bs W rv p.rp): aD aA 37 #[.pointer (some ⟨cp,0,none⟩),.iface 110 (.agg #[.string (tx nm),.string (tx Ax),tv,rv])] w λ e w'=>e=.returned (.int .i64 0)/\Ad w' (Bd cp s.knd q st (p.c1 nm).ended::Aw st (Fp Bu ((Ee p.key nm).cr Ax p.tk)).1::pvR q p.s::.row tv p.tk::l):=by
 have hzs:=ok.gr.sz;have hnb:=ok.nob;have hlt:=ok.ltk
 have:=Px cp q st p.s (p.c1 nm) Bu (Ee p.key nm) p.no nm Ax tv rv p.tk p.rp _ (P9 _ _) l w (by rw [ok.kns]; exact h) (by omega) huk (Qz ok.kl hnl hnr) (by omega) rfl (by decide) A4P rfl (λ W hW=>hv W hW.tail) ok.orep (by omega) (Xi _ _ _).1 rfl rfl;rw [ok.kns] at this;exact this
end
def Mt.dA (m:Mt):List (Option CrD):=(Fp Bu ((Ee m.p1.key Ay).cr Ax m.p1.tk)).1
def Mt.dB (m:Mt):List (Option CrD):=(Fp Bu ((Ee m.p2.key A0).cr Ax m.p2.tk)).1
def Mt.dC (m:Mt):List (Option CrD):=(Fp m.dA ((Hk m.nk).cr A0 m.tk)).1
def Mt.cA (m:Mt):Cli:=(m.p1.c1 Ay).ended
def Mt.cC (m:Mt):Cli:=m.cA.meets A0 m.p1.key m.no
section
variable {s:PS} {m:Mt} (ok:A8g s m) (hz:s.sz<=900)
include ok hz
theorem A8D (q st:Nat) (l:List Res) (w:aC) (h:Ad w (Aw st m.dB::l)): aD aA 39 #[.pointer (some ⟨st,0,none⟩),.int .i64 10,.string (tx Ax)] w λ e w'=>∃y,e=.returned (.tuple #[.agg (crC (tx Ax,m.p2.tk,m.p2.key,5,310,3010) y).toArray,.int .i64 0])/\Ad w' (.row y m.p2.tk::Aw st m.dB::l)/\m.p2.key.length=16:=by
 have hl:=ok.p2.ltk;have hh:=hz;exact Hw st m.dB 10 (tx Ax) _ l w h (Ke Lf (by show m.p2.tk.length<=_; omega)) (Xi _ _ _).2 (by show (10:Int)<310; decide)
theorem A7J (q cp st:Nat) (pv:aB) (l:List Res) (w:aC) (h:Ad w (Bd cp s.knd q st m.cA::Aw st m.dA::pvR q m.p2.s::l)) (hv:∀W,Ad W l->Bs W pv m.p2.tk): aD aA 40 #[.pointer (some ⟨cp,0,none⟩),.int .i64 10,.int .i64 900,.string (tx A0),.agg #[.string (tx Ax),pv]] w λ e w'=>∃y z b,e=.returned (.tuple #[.agg #[.string (tx A0),.int .i64 (m.no:Int),.int .i64 900,.bool false,.bool true,.string (tx Ax),y,z,.slice (some ⟨b,0,none⟩) 1 1],.int .i64 0])/\ Ad w' (.row y m.p1.tk::.row z m.au::Bd cp s.knd q st m.cC::Aw st m.dA::pvR q m.s4::.blk b [.string (tx Ax),pv] 108::l):=by
 have hl:=ok.p1.ltk;have hz2:=ok.z2;have hno:=ok.no;have e1:Lx m.p2.s A0 900 m.p1.tk [(Ax,m.p2.tk)]=m.msg13 []:=by unfold Lx Mt.msg13; rw [hno]
 have:=Uj cp q st m.p2.s m.cA m.dA Ay A0 10 900 m.p1.tk m.p1.key m.p2.tk 5 310 3010 pv l w (by rw [ok.k2]; exact h) (by omega) rfl (by decide) Oz rfl ok.p1.kl (by decide) (by show 1<_; omega) (Ke Lf (by show m.p1.tk.length<=_; omega)) (Xi _ _ _).2 (by decide) hv (by rw [e1]; exact ok.z13.all) (by rw [e1]; exact ok.z13.ok) (by rw [e1]; exact ok.z13.len);unfold V3 at this;rw [show m.cA.seq+1=2 from rfl,ok.au,ok.k2,hno] at this;exact this
theorem A8F (q sp kp cp ob bp xb:Nat) (u v:Us) (h1:u.name=tx Ay) (g1:v.name=tx A0) (g2:v.life=300) (g3:v.renew=3000) (g4:v.mesh=true) (tv av pv:aB) (l:List Res) (w:aC) (h:Ad w (D0 sp kp cp ob::Ck kp s.knd q bp m.K::Bk cp [] 64::Bg bp [u,v]::pvR q m.s4::.blk xb [.string (tx Ax),pv] 108::l)) (hv:∀W,Ad W l->Bs W tv m.p1.tk) (hav:∀W,Ad W l->Bs W av m.au) (hpv:∀W,Ad W l->Bs W pv m.p2.tk): aD aA 41 #[.pointer (some ⟨sp,0,none⟩),.int .i64 10,.agg #[.string (tx A0),.int .i64 (m.no:Int),.int .i64 900,.bool false,.bool true,.string (tx Ax),tv,av,.slice (some ⟨xb,0,none⟩) 1 1]] w λ e w'=>∃y z L,e=.returned (.tuple #[.agg #[.string (tx Ay),.string (tx A0),y,z],.int .i64 0])/\ Ad w' (.row y m.tk::.row z m.rp::D0 sp kp cp ob::Ck kp s.knd q bp m.K::Bk cp L 64::Bg bp [u,v]::pvR q m.s6::.blk xb [.string (tx Ax),pv] 108::l):=by
 have hz4:=ok.z4;have hno:=ok.nob;have e3:=Pc u v h1 g1 g2 g3;have hoa:=ok.oau;have hdg:=ok.dg
 have:=Z6 sp kp cp ob q bp xb m.s4 m.K (A8 13 (m.msg13 [])) [] 64 [u,v] v (Ee m.p1.key Ay) (Ee m.p2.key A0) m.no 10 900 10 2 A0 tv av pv m.p1.tk m.au m.p2.tk zk l w (by rw [ok.k4]; exact h) (by omega) ok.kl rfl ok.z13.all ok.z13.ok ok.z13.len
  ok.ot1 hv (Qz ok.p1.kl (by decide) Oz) (by show 10<310; decide) (by rw [hdg]; exact hoa) hav (by decide) (by decide) rfl (by decide) (by show (Ch [] 64 ((10:Nat):Int) (tx Ay,((10:Nat):Int),((2:Nat):Int))).2=0; decide+kernel) (by show (Ch [] 64 ((10:Nat):Int) (tx Ay,((10:Nat):Int),((2:Nat):Int))).1≠ []; decide+kernel) ok.ot2 hpv (Qz ok.p2.kl (by decide) Qj) (by show 10<310; decide) rfl (by show ¬(tx A0).toList=(tx Ay).toList; decide+kernel) e3.2.1 (by show 2<=32; decide) e3.2.2.1 e3.2.2.2 g4 (by decide) (by decide) (by omega) (by decide) Qj
 refine this.mono ?_;rintro e w' ⟨y,z,rfl,hh⟩;rw [ok.tk,ok.rp,ok.k4] at hh;exact ⟨y,z,_,rfl,hh⟩
theorem A8E (q cp st:Nat) (tv rv:aB) (l:List Res) (w:aC) (h:Ad w (Bd cp s.knd q st m.cC::Aw st m.dA::pvR q m.s6::.row tv m.tk::l)) (hv:∀W,Ad W l->Bs W rv m.rp): aD aA 37 #[.pointer (some ⟨cp,0,none⟩),.iface 124 (.agg #[.string (tx Ay),.string (tx A0),tv,rv])] w λ e w'=>e=.returned (.int .i64 0)/\Ad w' (Bd cp s.knd q st m.cC.ended::Aw st m.dC::pvR q m.s6::.row tv m.tk::l):=by
 have hz6:=ok.z6;have hno:=ok.nob;have hl:=ok.ltk
 have:=Wz cp q st m.s6 m.cC m.dA (Hk m.nk) m.no Ay A0 tv rv m.tk m.rp _ (P9 _ _) l w (by rw [ok.k6]; exact h) (by omega) ok.p1.kl (W9 ok.nkl) (by omega) rfl (by decide) Qj rfl (λ W hW=>hv W hW.tail) ok.orp (by omega) (A3c _ _ _ _ _).1 rfl rfl;rw [ok.k6] at this;exact this
theorem A6u (q cp st:Nat) (l:List Res) (w:aC) (h:Ad w (Bd cp s.knd q st m.cC.ended::Aw st m.dC::pvR q m.s6::l)): aD aA 42 #[pvV s q,.pointer (some ⟨cp,0,none⟩),.string (tx Ay),.int .i64 11,.string (tx A0),.int .i64 5] w λ e w'=>∃y z,e=.returned (.tuple #[.agg #[.string (tx Ay),.string (tx A0),.int .i64 5,.string (tx A0),y,z],.agg (Jj A0 5 m.sub 11 3).toArray,.int .i64 0])/\ Ad w' (.row y m.tk::.row z m.ax::Bd cp s.knd q st m.cC.ended.sent::Aw st m.dC::pvR q m.s7::l):=by
 have hz6:=ok.z6;have hl:=ok.ltk;have hl1:=ok.p1.ltk;have hpv:pvV m.s6 q=pvV s q:=by rw [<-Bf ok.k6,<-Bf rfl]
 have:=Ue cp q st m.s6 m.cC.ended m.dC Ay Ay A0 5 11 m.tk m.nk 2 310 0 l w (by rw [ok.k6]; exact h) (by omega) rfl (by decide) Oz rfl ok.nkl (by decide) (by show 2<_; omega) (Ke (Ke Lf (by show m.p1.tk.length<=_; omega)) (by show m.tk.length<=_; omega)) (A3c _ _ _ _ _).2 (by decide) ok.z17.all ok.z17.ok ok.z17.len;unfold Rf at this;rw [show m.cC.ended.seq+1=3 from rfl,ok.ax,ok.k6,ok.sub,hpv] at this;exact this
theorem A5d (q ca:Nat) (tv av:aB) (l:List Res) (w:aC) (h:Ad w (Bk ca [] 64::pvR q m.s7::l)) (hv:∀W,Ad W l->Bs W tv m.tk) (hav:∀W,Ad W l->Bs W av m.ax): aD aA 43 #[pvV s q,.string (tx A0),A1 m.p2.key,.pointer (some ⟨ca,0,none⟩),.int .i64 12,.agg #[.string (tx Ay),.string (tx A0),.int .i64 5,.string (tx A0),tv,av]] w λ e w'=>∃y L,e=.returned (.tuple #[.agg (Sk Ay 5 m.sub).toArray,.agg #[.string (tx A0),.string (tx Ay),.int .i64 5,y],.int .i64 0])/\ Ad w' (.row y m.ac::Bk ca L 64::pvR q m.s8::l):=by
 have hz7:=ok.z7;have hpv:pvV m.s7 q=pvV s q:=by rw [<-Bf ok.k7,<-Bf rfl]
 have hoa:=ok.oax;have hdg:=ok.d2
 have:=R5 ca q m.s7 m.p2.key (A8 17 (m.msg17 [])) [] 64 (Hk m.nk) A0 5 12 11 3 tv av m.tk m.ax m.sub l w h (by omega) ok.p2.kl rfl ok.z17.all ok.z17.ok ok.z17.len ok.otk hv (W9 ok.nkl) rfl (by show 12<310; decide) (by rw [hdg]; exact hoa) hav (by decide) (by decide) ok.subl (by decide) (by show (Ch [] 64 ((12:Nat):Int) (tx Ay,((11:Nat):Int),((3:Nat):Int))).2=0; decide+kernel) (by show (Ch [] 64 ((12:Nat):Int) (tx Ay,((11:Nat):Int),((3:Nat):Int))).1≠ []; decide+kernel);rw [hpv] at this;refine this.mono ?_;rintro e w' ⟨y,rfl,hh⟩;rw [ok.ac] at hh;exact ⟨y,_,rfl,hh⟩
theorem A5f (q:Nat) (v:aB) (l:List Res) (w:aC) (h:Ad w (pvR q m.s8::l)) (hv:∀W,Ad W l->Bs W v m.ac): aD aA 45 #[.agg (Jj A0 5 m.sub 11 3).toArray,pvV s q,.string (tx Ay),.agg #[.string (tx A0),.string (tx Ay),.int .i64 5,v]] w λ e w'=>e=.returned (.int .i64 0)/\Ad w' (pvR q m.s8::l):=by
 have hz8:=ok.z8;have hpv:pvV m.s8 q=pvV s q:=by rw [<-Bf ok.k8,<-Bf rfl]
 have:=R6 q m.s8 m.sub Ay A0 5 11 3 v m.ac l w h (by omega) ok.subl ok.oac hv (by decide) (by decide);rw [hpv] at this;exact this
theorem A7K (q:Nat) (l:List Res) (w:aC) (h:Ad w (pvR q m.s8::l)): aD aA 46 #[pvV s q,.string (tx Ay),.string (tx A0),.int .i64 5,A1 m.sub,.bool true] w λ e w'=>∃sp p1 p2,e=.returned (.pointer (some ⟨sp,0,none⟩))/\Ad w' (.blk sp (K8 s.knd q Ay A0 5 p1 p2 (.slice none 0 0) 0 0 (.pointer none)) 238::.ownZ 152 2 (.slice none 0 0) 0 []::D7 p1 s.knd q m.ka 0::D7 p2 s.knd q m.kb 0::pvR q m.s9::l):=by
 have hz8:=ok.z8;have hpv:pvV m.s8 q=pvV s q:=by rw [<-Bf ok.k8,<-Bf rfl]
 have:=Qq q m.s8 m.sub Ay A0 5 l w h (by omega) ok.subl;rw [hpv,ok.one,ok.two,ok.k8] at this;exact this
theorem A7L (q:Nat) (l:List Res) (w:aC) (h:Ad w (pvR q m.s9::l)): aD aA 46 #[pvV s q,.string (tx A0),.string (tx Ay),.int .i64 5,A1 m.sub,.bool false] w λ e w'=>∃sp p1 p2,e=.returned (.pointer (some ⟨sp,0,none⟩))/\Ad w' (.blk sp (K8 s.knd q A0 Ay 5 p2 p1 (.slice none 0 0) 0 0 (.pointer none)) 238::.ownZ 152 2 (.slice none 0 0) 0 []::D7 p1 s.knd q m.ka 0::D7 p2 s.knd q m.kb 0::pvR q m.s9::l):=by
 have hz9:=ok.z9;have hpv:pvV m.s9 q=pvV s q:=by rw [<-Bf ok.k9,<-Bf rfl]
 have:=O4 q m.s9 m.sub A0 Ay 5 l w h (by omega) ok.subl;rw [hpv,ok.one2] at this;simp only at this;rw [ok.two2,ok.k9] at this;exact this
end
theorem A8G {s:PS} (h:s.Wf):(Nj s).p1.uk.length=16/\(Nj s).p2.uk.length=16:=by
 unfold Nj;exact ⟨(h.fresh.text _ _).2,((A5n h.fresh _ _ _).text _ _).2⟩
end
end Go.Proofs.YtcnfaghcjlhoiaaGreat
