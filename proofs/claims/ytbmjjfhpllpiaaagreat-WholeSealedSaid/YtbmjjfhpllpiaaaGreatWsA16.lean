/- Texts of this proof, one behind the other: Top5, Top6, Top7, Top8. -/
import Derived.Test.YtbmjjfhpllpiaaaGreatWsA15
set_option linter.unusedSimpArgs false
set_option linter.unusedVariables false
set_option linter.unusedSectionVars false
set_option maxRecDepth 100000
set_option maxHeartbeats 16000000
open Go.Proofs.Tryz renaming prog -> aA
open List renaming map_cons -> aB, sum_cons -> aC, mem_cons -> aD, not_mem_nil -> aE, length_append -> aF, all_cons -> aG, all_nil -> aH, map_nil -> aJ, sum_nil -> aK, length_nil -> aL, pairwise_singleton -> aM
open Bool renaming and_true -> aI
open Go renaming Value -> aN, World -> aO, Calls -> aP
namespace Go.Proofs.YtbmjjfhpllpiaaaGreat
open Go.RowKit Go.Maps
theorem Yw (sid:Nat) (s:PS) (me pe:List UInt8) (k:List UInt8) (e n:Nat) (k2:List UInt8) (e2:Nat) (rk:Bool) (body:List UInt8):(Dd sid s me pe k e n k2 e2 rk body).s.knd=s.knd:=by
  unfold Dd;split
  · exact (Ex _ _ _ _ _).trans ((PS.knd_derive _ _ _).trans (Ex _ _ _ _ _))
  · exact (Ex _ _ _ _ _).trans (Ex _ _ _ _ _)
theorem Md {W:aO} {pp q:Nat} {key:List UInt8} {t:Iw} {l:List Res} (h:Ac W (Jm pp q key t::l)): ∃(z:Y2) (qa ra:Option Addr) (qc rc:Nat),Ac W (Ds pp z.ps z.c0 z.c1 (.pointer (some ⟨z.p0,0,none⟩)) (.pointer (some ⟨z.p1,0,none⟩)) key t.L:: .blk z.p0 (Bf t.s.knd q Av Aw 5 z.o0 z.i0 (.slice qa 0 qc) t.na t.nb (.pointer none)) 205::.ownZ 145 2 (.slice qa 0 qc) 0 []::Ar z.o0 t.s.knd q t.ka t.ea::Ar z.i0 t.s.knd q t.kb t.eb:: .blk z.p1 (Bf t.s.knd q Aw Av 5 z.o1 z.i1 (.slice ra 0 rc) t.nb t.na (.pointer none)) 205::.ownZ 145 2 (.slice ra 0 rc) 0 []::Ar z.o1 t.s.knd q t.kb t.eb::Ar z.i1 t.s.knd q t.ka t.ea::pvR q t.s::l):=by
  obtain ⟨z,h⟩:=Ac.ex.1 h;have h:=Ac.app.1 h;simp only [List.cons_append,List.nil_append] at h;obtain ⟨qa,h⟩:=Ac.ex.1 (h.zP [1]);obtain ⟨qc,h⟩:=Ac.ex.1 h;have h:=Ac.app.1 h;simp only [List.cons_append,List.nil_append] at h;obtain ⟨ra,h⟩:=Ac.ex.1 (h.zP [5]);obtain ⟨rc,h⟩:=Ac.ex.1 h;have h:=Ac.app.1 h;simp only [List.cons_append,List.nil_append] at h;exact ⟨z,qa,ra,qc,rc,h.zP [8,4,4,4,4]⟩
theorem H9 {W:aO} {pp q:Nat} {key:List UInt8} {t:Iw} {l:List Res} (z:Y2) {qa ra:Option Addr} {qc rc:Nat} (h:Ac W (Ds pp z.ps z.c0 z.c1 (.pointer (some ⟨z.p0,0,none⟩)) (.pointer (some ⟨z.p1,0,none⟩)) key t.L:: .blk z.p0 (Bf t.s.knd q Av Aw 5 z.o0 z.i0 (.slice qa 0 qc) t.na t.nb (.pointer none)) 205::.ownZ 145 2 (.slice qa 0 qc) 0 []::Ar z.o0 t.s.knd q t.ka t.ea::Ar z.i0 t.s.knd q t.kb t.eb:: .blk z.p1 (Bf t.s.knd q Aw Av 5 z.o1 z.i1 (.slice ra 0 rc) t.nb t.na (.pointer none)) 205::.ownZ 145 2 (.slice ra 0 rc) 0 []::Ar z.o1 t.s.knd q t.kb t.eb::Ar z.i1 t.s.knd q t.ka t.ea::pvR q t.s::l)): Ac W (Jm pp q key t::l):=by
  have h1:=h.zP [5,5,5,5];have h2:Ac W (A3y t.s.knd q z.p1 5 Aw Av z.o1 z.i1 t.kb t.eb t.ka t.ea t.nb t.na::_):=Ac.ex.2 ⟨ra,Ac.ex.2 ⟨rc,Ac.app.2 h1⟩⟩;have h3:=h2.zP [2,2,2,2];have h4:Ac W (A3y t.s.knd q z.p0 5 Av Aw z.o0 z.i0 t.ka t.ea t.kb t.eb t.na t.nb::_):=Ac.ex.2 ⟨qa,Ac.ex.2 ⟨qc,Ac.app.2 h3⟩⟩;have h5:=h4.zP [2];exact Ac.ex.2 ⟨z,Ac.app.2 h5⟩
theorem K9:As (tx Av)=true:=by decide+kernel
theorem La:As (tx Aw)=true:=by decide+kernel
theorem A0t (pp q:Nat) (key:List UInt8) (t:Iw) (d:Nat) (i rk:Bool) (bv:aN) (body:List UInt8) (l:List Res) (w:aO) (h:Ac w (Jm pp q key t::l)) (hok:t.Ok d) (hd:d<60) (hkey:key.length=16) (hv:∀W,Ac W l->Bs W bv body) (hb:body.length<=2048): aP aA 8 #[.pointer (some ⟨pp,0,none⟩),.int .i64 (if i=true then 1 else 0),bv,.bool rk] w λ r w'=>r=.returned (.bool true)/\Ac w' (Jm pp q key (t.say i rk body)::l)/\(t.say i rk body).Ok (d+1):=by
  obtain ⟨z,qa,ra,qc,rc,h⟩:=Md h;have hsz:=hok.sz;have h1:=hok.ea;have h2:=hok.eb;have h3:=hok.na;have h4:=hok.nb;have h5:=hok.L;have hla:Av.length<=200:=by decide
  have hlb:Aw.length<=200:=by decide
  have kn1:=Yw 5 t.s Av Aw t.ka t.ea t.na t.kb t.eb rk body;have kn2:=Yw 5 t.s Aw Av t.kb t.eb t.nb t.ka t.ea rk body
  cases i
  · cases rk
    · refine (A1h 0 1 (.pointer (some ⟨z.p0,0,none⟩)) (.pointer (some ⟨z.p1,0,none⟩)) pp q z.ps z.c0 z.c1 z.p0 z.p1 z.o0 z.i0 z.o1 z.i1 5 t.s key Av Aw t.ka t.kb t.ea t.eb t.na t.nb t.L qa ra qc rc bv body l w h (by omega) hkey hok.ka hok.kb (by omega) (by omega) (by omega) (by omega) (by omega) (by decide) hv hb hla hlb K9 La (.inl ⟨rfl,rfl,rfl,rfl⟩)).mono ?_;rintro r w' ⟨qa2,qc2,rfl,hh,hk⟩;rw [<-kn1] at hh;exact ⟨rfl,H9 (t:=t.say false false body) z hh,hok.say _ _ _ ⟨hk,hok.kb⟩⟩
    · refine (A1i 0 1 (.pointer (some ⟨z.p0,0,none⟩)) (.pointer (some ⟨z.p1,0,none⟩)) pp q z.ps z.c0 z.c1 z.p0 z.p1 z.o0 z.i0 z.o1 z.i1 5 t.s key Av Aw t.ka t.kb t.ea t.eb t.na t.nb t.L qa ra qc rc bv body l w h (by omega) hkey hok.ka hok.kb (by omega) (by omega) (by omega) (by omega) (by omega) (by decide) hv hb hla hlb K9 La (.inl ⟨rfl,rfl,rfl,rfl⟩)).mono ?_;rintro r w' ⟨qa2,qc2,rfl,hh,hk⟩;rw [<-kn1] at hh;exact ⟨rfl,H9 (t:=t.say false true body) z hh,hok.say _ _ _ ⟨hk,hok.kb⟩⟩
  · have hp:=h.zP [0,4,4,4,4]
    cases rk
    · refine (A1h 1 0 (.pointer (some ⟨z.p0,0,none⟩)) (.pointer (some ⟨z.p1,0,none⟩)) pp q z.ps z.c0 z.c1 z.p1 z.p0 z.o1 z.i1 z.o0 z.i0 5 t.s key Aw Av t.kb t.ka t.eb t.ea t.nb t.na t.L ra qa rc qc bv body l w hp (by omega) hkey hok.kb hok.ka (by omega) (by omega) (by omega) (by omega) (by omega) (by decide) hv hb hlb hla La K9 (.inr ⟨rfl,rfl,rfl,rfl⟩)).mono ?_;rintro r w' ⟨qa2,qc2,rfl,hh,hk⟩;have hh:=hh.zP [0,4,4,4,4];rw [<-kn2] at hh;exact ⟨rfl,H9 (t:=t.say true false body) z hh,hok.say _ _ _ ⟨hok.ka,hk⟩⟩
    · refine (A1i 1 0 (.pointer (some ⟨z.p0,0,none⟩)) (.pointer (some ⟨z.p1,0,none⟩)) pp q z.ps z.c0 z.c1 z.p1 z.p0 z.o1 z.i1 z.o0 z.i0 5 t.s key Aw Av t.kb t.ka t.eb t.ea t.nb t.na t.L ra qa rc qc bv body l w hp (by omega) hkey hok.kb hok.ka (by omega) (by omega) (by omega) (by omega) (by omega) (by decide) hv hb hlb hla La K9 (.inr ⟨rfl,rfl,rfl,rfl⟩)).mono ?_;rintro r w' ⟨qa2,qc2,rfl,hh,hk⟩;have hh:=hh.zP [0,4,4,4,4];rw [<-kn2] at hh;exact ⟨rfl,H9 (t:=t.say true true body) z hh,hok.say _ _ _ ⟨hok.ka,hk⟩⟩
def paB:ByteArray:=⟨#[112,97]⟩
def pbB:ByteArray:=⟨#[112,98]⟩
def Ea (key nm:List UInt8):Ins:=⟨5,key,nm,10,310,3010⟩
theorem P3 {key nm:List UInt8} (h1:key.length=16) (h2:nm.length<=200) (h3:As (tx nm)=true):(Ea key nm).Ok:=
  ⟨by show 5<=_; decide,h1,h2,h3,by show 10<=_; decide,by show 310<=_; decide,by show 3010<=_; decide⟩
structure Ph where
  uk:List UInt8
  sa:PS
  bx:List UInt8
  no:Nat
  sc:PS
  key:List UInt8
  tk:List UInt8
  rp:List UInt8
  s:PS
def ph (s:PS) (K nm:List UInt8) (pw:ByteArray):Ph:=
  let a:=s.text pw.data.toList nm
  let b:=a.2.shut a.1 1 (Au 5 [.n 10,.n 1])
  let c:=b.2.fresh
  let d:=c.2.fresh
  let e:=d.2.shut K 2 (Au 2 (Ea d.1 nm).fds)
  let f:=e.2.shut a.1 3 (Au 3 ((Ea d.1 nm).rep (I0 c.1) A1))
  ⟨a.1,a.2,b.1,I0 c.1,c.2,d.1,e.1,f.1,f.2⟩
structure Ua (s:PS) (K nm:List UInt8) (pw:ByteArray) (p:Ph):Prop where
  text:s.text pw.data.toList nm=(p.uk,p.sa)
  key:Fq p.sa nm pw=(p.uk,p.sa)
  box:(In p.sa nm pw 10 1).1=p.bx
  no:I0 (Sv p.sa nm pw 10 1).1=p.no
  sc:(Sv p.sa nm pw 10 1).2=p.sc
  ins:Vv p.sc nm 10 900 300 3000=Ea p.key nm
  tk:(A3u p.sc K nm 10 900 300 3000).1=p.tk
  rp:(A1Y p.sc K nm p.uk p.no 10 900 300 3000).1=p.rp
  s2:(A1Y p.sc K nm p.uk p.no 10 900 300 3000).2=p.s
  opre:p.sc.Opn p.uk 1 p.bx (Au 5 [.n 10,.n 1])
  orep:p.s.Opn p.uk 3 p.rp (Au 3 ((Ea p.key nm).rep p.no A1))
  otk:p.s.Opn K 2 p.tk (Au 2 (Ea p.key nm).fds)
  gr:PS.Gr 8 s p.s
  kna:p.sa.knd=s.knd
  knc:p.sc.knd=s.knd
  kns:p.s.knd=s.knd
  za:p.sa.sz<=s.sz+2
  zc:p.sc.sz<=s.sz+6
  kl:p.key.length=16
  lbx:p.bx.length<=300
  ltk:p.tk.length<=800
  lrp:p.rp.length<=800
  nob:p.no<1099511627776
theorem A4y (s:PS) (K nm:List UInt8) (pw:ByteArray) (hnm:nm.length<=200) (hnr:As (tx nm)=true):Ua s K nm pw (ph s K nm pw):=by
  have hkey:Fq (ph s K nm pw).sa nm pw=((ph s K nm pw).uk,(ph s K nm pw).sa):=PS.text_of (PS.text_mde s pw.data.toList nm);have g1:=PS.gr_text s pw.data.toList nm;have g2:=PS.gr_shut (s.text pw.data.toList nm).2 (s.text pw.data.toList nm).1 1 (Au 5 [.n 10,.n 1]);have g3:=PS.gr_fresh ((s.text pw.data.toList nm).2.shut (s.text pw.data.toList nm).1 1 (Au 5 [.n 10,.n 1])).2;have g4:=PS.gr_fresh (ph s K nm pw).sc;have g5:=PS.gr_shut (ph s K nm pw).sc.fresh.2 K 2 (Au 2 (Ea (ph s K nm pw).key nm).fds);have g6:=PS.gr_shut ((ph s K nm pw).sc.fresh.2.shut K 2 (Au 2 (Ea (ph s K nm pw).key nm).fds)).2 (ph s K nm pw).uk 3 (Au 3 ((Ea (ph s K nm pw).key nm).rep (ph s K nm pw).no A1));have hkl:(ph s K nm pw).key.length=16:=PS.fresh_len _;have hok:=P3 hkl hnm hnr;refine ⟨rfl,hkey,?_,?_,?_,rfl,rfl,rfl,rfl,?_,PS.shut_opn _ _ _ _,?_,?_,PS.knd_text _ _ _,?_,?_,?_,?_,hkl,?_,?_,?_,?_⟩
  · unfold In;rw [hkey];rfl
  · unfold Sv In;rw [hkey];rfl
  · unfold Sv In;rw [hkey];rfl
  · exact g3.opn (PS.shut_opn _ _ _ _)
  · exact g6.opn (PS.shut_opn _ _ _ _)
  · exact (((((g1.trans g2).trans g3).trans g4).trans g5).trans g6).mono (by decide)
  · exact (PS.knd_fresh _).trans ((PS.knd_shut _ _ _ _).trans (PS.knd_text _ _ _))
  · exact (PS.knd_shut _ _ _ _).trans ((PS.knd_shut _ _ _ _).trans ((PS.knd_fresh _).trans ((PS.knd_fresh _).trans ((PS.knd_shut _ _ _ _).trans (PS.knd_text _ _ _)))))
  · exact g1.sz
  · exact Nat.le_trans ((g1.trans g2).trans g3).sz (by omega)
  · have:=PS.shut_len (s.text pw.data.toList nm).2 (s.text pw.data.toList nm).1 1 (Au 5 [.n 10,.n 1]);have h2:=X8 10 1;show ((s.text pw.data.toList nm).2.shut (s.text pw.data.toList nm).1 1 (Au 5 [.n 10,.n 1])).1.length<=300
    omega
  · have:=PS.shut_len (ph s K nm pw).sc.fresh.2 K 2 (Au 2 (Ea (ph s K nm pw).key nm).fds);have h2:=hok.len;show ((ph s K nm pw).sc.fresh.2.shut K 2 (Au 2 (Ea (ph s K nm pw).key nm).fds)).1.length<=800
    omega
  · have:=PS.shut_len ((ph s K nm pw).sc.fresh.2.shut K 2 (Au 2 (Ea (ph s K nm pw).key nm).fds)).2 (ph s K nm pw).uk 3 (Au 3 ((Ea (ph s K nm pw).key nm).rep (ph s K nm pw).no A1));have h2:=hok.repLen (ph s K nm pw).no (nm:=A1) (by decide);show (((ph s K nm pw).sc.fresh.2.shut K 2 (Au 2 (Ea (ph s K nm pw).key nm).fds)).2.shut (ph s K nm pw).uk 3 (Au 3 ((Ea (ph s K nm pw).key nm).rep (ph s K nm pw).no A1))).1.length<=800
    omega
  · exact U6 (PS.fresh_len _)
def J6 (t:List UInt8×List UInt8):Nat:=30+t.1.length+t.2.length
def Na:Pt->Nat
  | .s l=>10+l.length
  | .n _=>20
  | .b l=>10+l.length
  | .t _=>20
  | .i t=>J6 t
  | .x l=>10+(l.map J6).sum
theorem Jd (k t:Int) (n:Nat) (b:List UInt8) (hk:k=0\/k=1):(A0 (.mk k t n b [])).length<=20+b.length/\(k=1->(A0 (.mk k t n b [])).length<=10+b.length):=by
  rcases hk with rfl | rfl
  · simp only [A0,Ei,aF,if_true];have h1:=Eu 0 t (Cb n).length;have h2:=(Hz n).1;exact ⟨by omega,by intro h; exact absurd h (by decide)⟩
  · simp only [A0,Ei,aF,show ¬((1:Int)=0) by decide,if_false,if_true];have h1:=Eu 1 t b.length;exact ⟨by omega,λ _=>by omega⟩
theorem A3k (t:List UInt8×List UInt8):(A0 (Co t)).length<=J6 t:=by
  have h1:=(Jd 1 0 0 t.1 (Or.inr rfl)).2 rfl;have h2:=(Jd 1 0 0 t.2 (Or.inr rfl)).2 rfl;rw [Co,A0];simp only [Ei,Az,aF,aL,show ¬((2:Int)=0) by decide,show ¬((2:Int)=1) by decide,if_false];have h3:=Eu 2 1 ((A0 (.mk 1 0 0 t.1 [])).length+((A0 (.mk 1 0 0 t.2 [])).length+0));unfold J6;omega
theorem A4i (l:List (List UInt8×List UInt8)):(Az (l.map Co)).length<=(l.map J6).sum:=by
  induction l with
  | nil=>simp [Az]
  | cons x l ih=>
    have:=A3k x;simp only [aB,Az,aF,aC];omega
theorem A5d (l:List (List UInt8×List UInt8)):((l.takeWhile rT).map J6).sum<=(l.map J6).sum:=by
  induction l with
  | nil=>exact Nat.le_refl _
  | cons x l ih=>
    rw [List.takeWhile_cons];split
    · simp only [aB,aC];omega
    · simp
theorem A4X (p:Pt):(A0 (Fy p)).length<=Na p:=by
  cases p with
  | s l=>exact (Jd 1 0 0 l (Or.inr rfl)).2 rfl
  | n x=>exact (Jd 0 0 (C4 x) [] (Or.inl rfl)).1
  | b l=>exact (Jd 1 0 0 l (Or.inr rfl)).2 rfl
  | t b=>exact (Jd 0 0 (if b then 1 else 0) [] (Or.inl rfl)).1
  | i t=>exact A3k t
  | x l=>
    have h1:=A4i (l.takeWhile rT);have h2:=A5d l;rw [Fy,Fh,A0];simp only [Ei,aF,show ¬((2:Int)=0) by decide,show ¬((2:Int)=1) by decide,if_false];have h3:=Eu 2 0 (Az ((l.takeWhile rT).map Co)).length;show _<=10+(l.map J6).sum
    omega
theorem A3W (l:List Pt):(Az (l.map Fy)).length<=(l.map Na).sum:=by
  induction l with
  | nil=>simp [Az]
  | cons x l ih=>
    have:=A4X x;simp only [aB,Az,aF,aC];omega
theorem Lh (t:Int) (l:List Pt):(A5 t l).length<=10+(l.map Na).sum:=by
  have h1:=A3W l;rw [A5,Gy,A0];simp only [Ei,aF,show ¬((2:Int)=0) by decide,show ¬((2:Int)=1) by decide,if_false];have h3:=Eu 2 t (Az (l.map Fy)).length;omega
structure Lo (t:Int) (pts:List Pt):Prop where
  all:pts.all ptB=true
  ok:∀p∈pts,Iv p
  len:(A5 t pts).length<=4096
theorem Nx:As (tx Av)=true:=by decide
theorem Pr:As (tx Aw)=true:=by decide
theorem A2y:As (tx A1)=true:=by decide
structure Mt where
  K:List UInt8
  s1:PS
  p1:Ph
  p2:Ph
  no:Nat
  dg:List UInt8
  au:List UInt8
  s4:PS
  nk:List UInt8
  tk:List UInt8
  rp:List UInt8
  s6:PS
  sub:List UInt8
  d2:List UInt8
  ax:List UInt8
  s7:PS
  ac:List UInt8
  s8:PS
  ka:List UInt8
  kb:List UInt8
  s9:PS
def Gm (nk:List UInt8):Ins:=⟨2,nk,Av,10,310,0⟩
theorem U1 {nk:List UInt8} (h:nk.length=16):(Gm nk).Ok:=⟨by show 2<=_; decide,h,by show Av.length<=200; decide,Nx,by show 10<=_; decide,by show 310<=_; decide,by show 0<=_; decide⟩
def Ga (s:PS):Mt:=
  let a:=s.fresh
  let p1:=ph a.2 a.1 Av paB
  let p2:=ph p1.s a.1 Aw pbB
  let b:=J3 p2.s Av Aw 10 900 2 p1.tk p1.key [(A1,p2.tk)]
  let c:=b.2.fresh
  let d:=c.2.shut p2.key 2 (Au 2 (Gm c.1).fds)
  let e:=d.2.shut p1.key 8 (Au 3 ((Gm c.1).rep (Lp p2.s) Aw))
  let g:=Ml e.2 Av Av Aw 5 11 3 d.1 c.1
  let h:=g.2.shut e.2.fresh.1 12 (Au 5 [.n 11,.n 3])
  let i:=h.2.derive e.2.fresh.1 Ed
  let j:=i.2.derive e.2.fresh.1 J9
  ⟨a.1,a.2,p1,p2,Lp p2.s,(Rd p2.s Aw 900 p1.tk [(A1,p2.tk)]).1,b.1,b.2,c.1,d.1,e.1,e.2,e.2.fresh.1,(Sj e.2 Av Aw 5 d.1).1,g.1,g.2,h.1,h.2,i.1,j.1,j.2⟩
def Mt.msg13 (m:Mt) (a:List UInt8):List Pt:=Eo Aw (m.no:Int) (900:Nat) false true A1 m.p1.tk a [(A1,m.p2.tk)]
def Mt.msg17 (m:Mt) (a:List UInt8):List Pt:=Ek Av Aw (5:Nat) Aw m.tk a
def Ph.msg11 (p:Ph) (nm:List UInt8):List Pt:= [.s nm,.n (p.no:Int),.n (900:Nat),.b p.bx]
def Ph.msg12 (p:Ph) (nm:List UInt8):List Pt:= [.s nm,.i (A1,p.tk),.b p.rp]
def Mt.msg14 (m:Mt):List Pt:= [.s Av,.i (Aw,m.tk),.b m.rp]
def Mt.msg18 (m:Mt):List Pt:= [.s Aw,.s Av,.n (5:Nat),.b m.ac]
def Mt.seen (m:Mt):List (List UInt8):= [A5 11 (m.p1.msg11 Av),A5 12 (m.p1.msg12 Av),A5 11 (m.p2.msg11 Aw),A5 12 (m.p2.msg12 Aw),A5 13 (m.msg13 m.au),A5 14 m.msg14,A5 17 (m.msg17 m.ax),A5 18 m.msg18]
def Mt.talk (m:Mt):Iw:=⟨m.s9,m.ka,m.kb,0,0,0,0,m.seen⟩
structure A5n (s:PS) (m:Mt):Prop where
  K:s.fresh=(m.K,m.s1)
  kl:m.K.length=16
  p1:Ua m.s1 m.K Av paB m.p1
  p2:Ua m.p1.s m.K Aw pbB m.p2
  tk2:m.p2.s.Opn m.K 2 m.p1.tk (Au 2 (Ea m.p1.key Av).fds)
  no:Lp m.p2.s=m.no
  nob:m.no<1099511627776
  au:J3 m.p2.s Av Aw 10 900 2 m.p1.tk m.p1.key [(A1,m.p2.tk)]=(m.au,m.s4)
  dg:m.s4.digest (A5 13 (m.msg13 []))=(m.dg,m.s4)
  ot1:m.s4.Opn m.K 2 m.p1.tk (Au 2 (Ea m.p1.key Av).fds)
  ot2:m.s4.Opn m.K 2 m.p2.tk (Au 2 (Ea m.p2.key Aw).fds)
  oau:m.s4.Opn m.p1.key 7 m.au (Au 4 (auF Av 10 2 zk m.dg))
  out:Jn m.s4 (A5 13 (m.msg13 [])) (Ea m.p1.key Av) (Ea m.p2.key Aw) 900=Gm m.nk
  nkl:m.nk.length=16
  tk:(A0r m.s4 (A5 13 (m.msg13 [])) (Ea m.p1.key Av) (Ea m.p2.key Aw) 900).1=m.tk
  rp:A0q m.s4 (A5 13 (m.msg13 [])) (Ea m.p1.key Av) (Ea m.p2.key Aw) m.no 900 Aw=(m.rp,m.s6)
  orp:m.s6.Opn m.p1.key 8 m.rp (Au 3 ((Gm m.nk).rep m.no Aw))
  sub:m.s6.fresh.1=m.sub
  subl:m.sub.length=16
  ax:Ml m.s6 Av Av Aw 5 11 3 m.tk m.nk=(m.ax,m.s7)
  d2:m.s7.digest (A5 17 (m.msg17 []))=(m.d2,m.s7)
  otk:m.s7.Opn m.p2.key 2 m.tk (Au 2 (Gm m.nk).fds)
  oax:m.s7.Opn m.nk 11 m.ax (Au 4 (auF Av 11 3 m.sub m.d2))
  ac:Qi m.s7 (A5 17 (m.msg17 [])) m.sub 11 3=(m.ac,m.s8)
  oac:m.s8.Opn m.sub 12 m.ac (Au 5 [.n 11,.n 3])
  one:(m.s8.derive m.sub Ed).1=m.ka
  two:(m.s8.derive m.sub Ed).2.derive m.sub J9=(m.kb,m.s9)
  one2:m.s9.derive m.sub Ed=(m.ka,m.s9)
  two2:m.s9.derive m.sub J9=(m.kb,m.s9)
  k1:m.s1.knd=s.knd
  k2:m.p2.s.knd=s.knd
  k4:m.s4.knd=s.knd
  k6:m.s6.knd=s.knd
  k7:m.s7.knd=s.knd
  k8:m.s8.knd=s.knd
  k9:m.s9.knd=s.knd
  z1:m.s1.sz<=s.sz+1
  z2:m.p2.s.sz<=s.sz+40
  z4:m.s4.sz<=s.sz+40
  z6:m.s6.sz<=s.sz+40
  z7:m.s7.sz<=s.sz+40
  z8:m.s8.sz<=s.sz+40
  z9:m.s9.sz<=s.sz+40
  ltk:m.tk.length<=800
  m11:Lo 11 (m.p1.msg11 Av)
  m12:Lo 12 (m.p1.msg12 Av)
  n11:Lo 11 (m.p2.msg11 Aw)
  n12:Lo 12 (m.p2.msg12 Aw)
  m13:Lo 13 (m.msg13 m.au)
  z13:Lo 13 (m.msg13 [])
  m14:Lo 14 m.msg14
  m17:Lo 17 (m.msg17 m.ax)
  z17:Lo 17 (m.msg17 [])
  m18:Lo 18 m.msg18
theorem A5I {s:PS} {K nm:List UInt8} {pw:ByteArray} {p:Ph} (h:Ua s K nm pw p):p.s.sz<=s.sz+8:=h.gr.sz
theorem A5z {s:PS} {K nm:List UInt8} {pw:ByteArray} {p:Ph} (h:Ua s K nm pw p) (h1:nm.length<=200) (h2:As (tx nm)=true):Lo 11 (p.msg11 nm):=by
  have hb:=h.lbx;have hn:=h.nob;refine ⟨?_,?_,?_⟩
  · simp only [Ph.msg11,aG,aH,ptB,h2,E2 (Nat.le_of_lt hn),E2 (show 900<=1099511627776 by decide),aI]
  · intro q hq;simp only [Ph.msg11,aD,aE,or_false] at hq;rcases hq with rfl | rfl | rfl | rfl <;> simp only [Iv] <;> omega
  · have:=Lh 11 (p.msg11 nm);simp only [Ph.msg11,aB,aJ,aC,aK,Na] at this ⊢;omega
theorem W6:A1.length=3:=rfl
theorem S4:Av.length=3:=rfl
theorem Ov:Aw.length=3:=rfl
theorem A5A {s:PS} {K nm:List UInt8} {pw:ByteArray} {p:Ph} (h:Ua s K nm pw p) (h1:nm.length<=200) (h2:As (tx nm)=true):Lo 12 (p.msg12 nm):=by
  have hb:=h.ltk;have hn:=h.lrp;refine ⟨?_,?_,?_⟩
  · simp only [Ph.msg12,aG,aH,ptB,rT,h2,A2y,aI]
  · intro q hq;simp only [Ph.msg12,aD,aE,or_false] at hq;rcases hq with rfl | rfl | rfl <;> simp only [Iv,W6] <;> omega
  · have:=Lh 12 (p.msg12 nm);simp only [Ph.msg12,aB,aJ,aC,aK,Na,J6,W6] at this ⊢;omega
theorem A5B {m:Mt} {a:List UInt8} (h1:m.no<1099511627776) (h2:m.p1.tk.length<=800) (h3:a.length<=1200) (h4:m.p2.tk.length<=800):Lo 13 (m.msg13 a):=by
  refine ⟨?_,?_,?_⟩
  · simp only [Mt.msg13,Eo,aG,aH,ptB,rT,Vj,Nx,Pr,A2y,E2 (Nat.le_of_lt h1),E2 (show 900<=1099511627776 by decide),aI,List.length_cons,aL];rfl
  · intro q hq;simp only [Mt.msg13,Eo,aD,aE,or_false] at hq;rcases hq with rfl | rfl | rfl | rfl | rfl | rfl | rfl | rfl <;> simp only [Iv,W6,Ov]
    all_goals first | omega | skip
    refine ⟨?_,by show 1<=_; omega⟩;intro t ht;simp only [aD,aE,or_false] at ht;subst ht;simp only [W6];omega
  · have:=Lh 13 (m.msg13 a);simp only [Mt.msg13,Eo,aB,aJ,aC,aK,Na,J6,W6,Ov] at this ⊢;omega
theorem A5W {m:Mt} (h2:m.tk.length<=800) (h3:m.rp.length<=800):Lo 14 m.msg14:=by
  refine ⟨?_,?_,?_⟩
  · simp only [Mt.msg14,aG,aH,ptB,rT,Nx,Pr,aI]
  · intro q hq;simp only [Mt.msg14,aD,aE,or_false] at hq;rcases hq with rfl | rfl | rfl <;> simp only [Iv,S4,Ov] <;> omega
  · have:=Lh 14 m.msg14;simp only [Mt.msg14,aB,aJ,aC,aK,Na,J6,S4,Ov] at this ⊢;omega
theorem A5C {m:Mt} {a:List UInt8} (h2:m.tk.length<=800) (h3:a.length<=1200):Lo 17 (m.msg17 a):=by
  refine ⟨?_,?_,?_⟩
  · simp only [Mt.msg17,Ek,aG,aH,ptB,rT,Nx,Pr,E2 (show 5<=1099511627776 by decide),aI]
  · intro q hq;simp only [Mt.msg17,Ek,aD,aE,or_false] at hq;rcases hq with rfl | rfl | rfl | rfl | rfl <;> simp only [Iv,S4,Ov] <;> omega
  · have:=Lh 17 (m.msg17 a);simp only [Mt.msg17,Ek,aB,aJ,aC,aK,Na,J6,S4,Ov] at this ⊢;omega
theorem A5X {m:Mt} (h2:m.ac.length<=800):Lo 18 m.msg18:=by
  refine ⟨?_,?_,?_⟩
  · simp only [Mt.msg18,aG,aH,ptB,Nx,Pr,E2 (show 5<=1099511627776 by decide),aI]
  · intro q hq;simp only [Mt.msg18,aD,aE,or_false] at hq;rcases hq with rfl | rfl | rfl | rfl <;> simp only [Iv,S4,Ov] <;> omega
  · have:=Lh 18 m.msg18;simp only [Mt.msg18,aB,aJ,aC,aK,Na,S4,Ov] at this ⊢;omega
theorem A0W (s:PS):A5n s (Ga s):=by
  obtain ⟨m,hm⟩:∃m,m=Ga s:=⟨_,rfl⟩
  have hp1:Ua m.s1 m.K Av paB m.p1:=by rw [hm]; exact A4y _ _ _ _ (by decide) Nx
  have hp2:Ua m.p1.s m.K Aw pbB m.p2:=by rw [hm]; exact A4y _ _ _ _ (by decide) Pr
  have gK:PS.Gr 1 s m.s1:=by rw [hm]; exact PS.gr_fresh s
  have hno:m.no=I0 m.p2.s.fresh.1:=by rw [hm]; rfl
  have hdg:m.p2.s.fresh.2.digest (A5 13 (m.msg13 []))=(m.dg,(m.p2.s.fresh.2.digest (A5 13 (m.msg13 []))).2):=by rw [hm]; rfl
  have hau:(m.p2.s.fresh.2.digest (A5 13 (m.msg13 []))).2.shut m.p1.key 7 (Au 4 (auF Av 10 2 zk m.dg))=(m.au,m.s4):=by rw [hm]; rfl
  have hnk:m.s4.fresh=(m.nk,m.s4.fresh.2):=by rw [hm]; rfl
  have htk:m.s4.fresh.2.shut m.p2.key 2 (Au 2 (Gm m.nk).fds)=(m.tk,(m.s4.fresh.2.shut m.p2.key 2 (Au 2 (Gm m.nk).fds)).2):=by rw [hm]; rfl
  have hrp:(m.s4.fresh.2.shut m.p2.key 2 (Au 2 (Gm m.nk).fds)).2.shut m.p1.key 8 (Au 3 ((Gm m.nk).rep m.no Aw))=(m.rp,m.s6):=by rw [hm]; rfl
  have hsub:m.s6.fresh=(m.sub,m.s6.fresh.2):=by rw [hm]; rfl
  have hd2:m.s6.fresh.2.digest (A5 17 (m.msg17 []))=(m.d2,(m.s6.fresh.2.digest (A5 17 (m.msg17 []))).2):=by rw [hm]; rfl
  have hax:(m.s6.fresh.2.digest (A5 17 (m.msg17 []))).2.shut m.nk 11 (Au 4 (auF Av 11 3 m.sub m.d2))=(m.ax,m.s7):=by rw [hm]; rfl
  have hac:m.s7.shut m.sub 12 (Au 5 [.n 11,.n 3])=(m.ac,m.s8):=by rw [hm]; rfl
  have hone:m.s8.derive m.sub Ed=(m.ka,(m.s8.derive m.sub Ed).2):=by rw [hm]; rfl
  have htwo:(m.s8.derive m.sub Ed).2.derive m.sub J9=(m.kb,m.s9):=by rw [hm]; rfl
  have hK:s.fresh=(m.K,m.s1):=by rw [hm]; rfl
  rw [<-hm];clear hm;have g1:=hp1.gr;have g2:=hp2.gr;have ga:PS.Gr 1 m.p2.s m.p2.s.fresh.2:=PS.gr_fresh _;have gb:PS.Gr 1 m.p2.s.fresh.2 (m.p2.s.fresh.2.digest (A5 13 (m.msg13 []))).2:=PS.gr_digest _ _;have db:=PS.digest_dig m.p2.s.fresh.2 (A5 13 (m.msg13 []));have lb:=PS.digest_len m.p2.s.fresh.2 (A5 13 (m.msg13 []));have kb:=PS.knd_digest m.p2.s.fresh.2 (A5 13 (m.msg13 []));have kf:=PS.knd_fresh m.p2.s;have wb:(m.p2.s.fresh.2.digest (A5 13 (m.msg13 []))).2.Wf->m.s4.Wf:=λ h=>by
    have:=h.shut m.p1.key 7 (Au 4 (auF Av 10 2 zk m.dg));rw [hau] at this;exact this
  rw [hdg] at db lb;generalize hX:(m.p2.s.fresh.2.digest (A5 13 (m.msg13 []))).2=X at*;have gc:=PS.gr_shut X m.p1.key 7 (Au 4 (auF Av 10 2 zk m.dg));have oc:=PS.shut_opn X m.p1.key 7 (Au 4 (auF Av 10 2 zk m.dg));have lc:=PS.shut_len X m.p1.key 7 (Au 4 (auF Av 10 2 zk m.dg));have kc:=PS.knd_shut X m.p1.key 7 (Au 4 (auF Av 10 2 zk m.dg));rw [hau] at gc oc lc kc;have h34:PS.Gr 3 m.p2.s m.s4:=(ga.trans gb).trans gc;have hD:PS.Dig m.s4 (A5 13 (m.msg13 [])) m.dg:=gc.dig db;have hdig:m.s4.digest (A5 13 (m.msg13 []))=(m.dg,m.s4):=PS.digest_of hD;have gd:PS.Gr 1 m.s4 m.s4.fresh.2:=PS.gr_fresh _;have kd:=PS.knd_fresh m.s4;have nkl:=PS.fresh_len m.s4;rw [hnk] at nkl
  dsimp only at nkl;generalize hY:m.s4.fresh.2=Y at*;have ge:=PS.gr_shut Y m.p2.key 2 (Au 2 (Gm m.nk).fds);have oe:=PS.shut_opn Y m.p2.key 2 (Au 2 (Gm m.nk).fds);have le:=PS.shut_len Y m.p2.key 2 (Au 2 (Gm m.nk).fds);have ke:=PS.knd_shut Y m.p2.key 2 (Au 2 (Gm m.nk).fds);generalize hZ:(Y.shut m.p2.key 2 (Au 2 (Gm m.nk).fds)).2=Z at*;rw [htk] at oe le;have gf:=PS.gr_shut Z m.p1.key 8 (Au 3 ((Gm m.nk).rep m.no Aw));have of:=PS.shut_opn Z m.p1.key 8 (Au 3 ((Gm m.nk).rep m.no Aw));have lf:=PS.shut_len Z m.p1.key 8 (Au 3 ((Gm m.nk).rep m.no Aw));have kf2:=PS.knd_shut Z m.p1.key 8 (Au 3 ((Gm m.nk).rep m.no Aw));rw [hrp] at gf of lf kf2;have h46:PS.Gr 3 m.s4 m.s6:=(gd.trans ge).trans gf;have hmi:=U1 nkl;have lm1:=hmi.len;have lm2:=hmi.repLen m.no (nm:=Aw) (by decide);have gg:PS.Gr 1 m.s6 m.s6.fresh.2:=PS.gr_fresh _;have kg:=PS.knd_fresh m.s6;have subl:=PS.fresh_len m.s6;rw [hsub] at subl;generalize hU:m.s6.fresh.2=U at*;have gh:=PS.gr_digest U (A5 17 (m.msg17 []));have dh:=PS.digest_dig U (A5 17 (m.msg17 []));have lh:=PS.digest_len U (A5 17 (m.msg17 []));have kh:=PS.knd_digest U (A5 17 (m.msg17 []));generalize hV:(U.digest (A5 17 (m.msg17 []))).2=V at*;rw [hd2] at dh lh;have gi:=PS.gr_shut V m.nk 11 (Au 4 (auF Av 11 3 m.sub m.d2));have oi:=PS.shut_opn V m.nk 11 (Au 4 (auF Av 11 3 m.sub m.d2));have li:=PS.shut_len V m.nk 11 (Au 4 (auF Av 11 3 m.sub m.d2));have ki:=PS.knd_shut V m.nk 11 (Au 4 (auF Av 11 3 m.sub m.d2));rw [hax] at gi oi li ki;have h67:PS.Gr 3 m.s6 m.s7:=(gg.trans gh).trans gi;have hdig2:m.s7.digest (A5 17 (m.msg17 []))=(m.d2,m.s7):=PS.digest_of (gi.dig dh);have gj:=PS.gr_shut m.s7 m.sub 12 (Au 5 [.n 11,.n 3]);have oj:=PS.shut_opn m.s7 m.sub 12 (Au 5 [.n 11,.n 3]);have lj:=PS.shut_len m.s7 m.sub 12 (Au 5 [.n 11,.n 3]);have kj:=PS.knd_shut m.s7 m.sub 12 (Au 5 [.n 11,.n 3]);rw [hac] at gj oj lj kj;have lst:=X8 11 3;have gk:=PS.gr_derive m.s8 m.sub Ed;have dk:=PS.derive_mde m.s8 m.sub Ed;have kk:=PS.knd_derive m.s8 m.sub Ed;generalize hT:(m.s8.derive m.sub Ed).2=T at*;rw [hone] at dk;have gl:=PS.gr_derive T m.sub J9;have dl:=PS.derive_mde T m.sub J9;have kl:=PS.knd_derive T m.sub J9;rw [htwo] at gl dl kl
  dsimp only at db lb gc oc lc kc oe le gf of lf kf2 subl dh lh gi oi li ki gj oj lj kj dk gl dl kl;have lau:(Au 4 (auF Av 10 2 zk m.dg)).length<=1000:=S5 _ _ _ _ _ (by decide) (by decide) lb;have lax:(Au 4 (auF Av 11 3 m.sub m.d2)).length<=1000:=S5 _ _ _ _ _ (by decide) subl lh;have lno:m.no<1099511627776:=by rw [hno]; exact U6 (PS.fresh_len _)
  have ltk:m.tk.length<=800:=by omega
  have lrp:m.rp.length<=800:=by omega
  have lac:m.ac.length<=800:=by omega
  have q2:m.p2.s.knd=s.knd:=hp2.kns.trans (hp1.kns.trans (by
    have:=PS.knd_fresh s;rw [hK] at this;exact this))
  have q1:m.s1.knd=s.knd:=by
    have:=PS.knd_fresh s;rw [hK] at this;exact this
  have q4:m.s4.knd=s.knd:=kc.trans (kb.trans (kf.trans q2));have q6:m.s6.knd=s.knd:=kf2.trans (ke.trans (kd.trans q4));have q7:m.s7.knd=s.knd:=ki.trans (kh.trans (kg.trans q6));have q8:m.s8.knd=s.knd:=kj.trans q7;have q9:m.s9.knd=s.knd:=kl.trans (kk.trans q8);have zz:=gK.sz;have zz1:=g1.sz;have zz2:=g2.sz;have zz3:=h34.sz;have zz4:=h46.sz;have zz5:=h67.sz;have zz6:=gj.sz;have zz7:=(gk.trans gl).sz;have hout:Jn m.s4 (A5 13 (m.msg13 [])) (Ea m.p1.key Av) (Ea m.p2.key Aw) 900=Gm m.nk:=by
    unfold Jn;rw [hdig,hnk];rfl
  have htt:A0r m.s4 (A5 13 (m.msg13 [])) (Ea m.p1.key Av) (Ea m.p2.key Aw) 900=(m.tk,Z):=by
    unfold A0r;rw [hout,hdig];show m.s4.fresh.2.shut m.p2.key 2 (Au 2 (Gm m.nk).fds)=_
    rw [hnk];exact htk
  refine ⟨hK,?_,hp1,hp2,g2.opn hp1.otk,hno.symm,lno,?_,hdig,h34.opn (g2.opn hp1.otk),h34.opn hp2.otk,oc,hout,nkl,by rw [htt],?_,of,by rw [hsub],subl,?_,hdig2,h67.opn (gf.opn oe),oi,?_,oj,by rw [hone],by rw [hT]; exact htwo,PS.derive_of (gl.mde dk),PS.derive_of dl,q1,q2,q4,q6,q7,q8,q9,by omega,by omega,by omega,by omega,by omega,by omega,by omega,ltk,A5z hp1 (by decide) Nx,A5A hp1 (by decide) Nx,A5z hp2 (by decide) Pr,A5A hp2 (by decide) Pr,A5B lno hp1.ltk (by omega) hp2.ltk,A5B lno hp1.ltk (by simp) hp2.ltk,A5W ltk lrp,A5C ltk (by omega),A5C ltk (by simp),A5X lac⟩
  · have:=PS.fresh_len s;rw [hK] at this;exact this
  · have e1:Rd m.p2.s Aw 900 m.p1.tk [(A1,m.p2.tk)]=(m.dg,X):=by
      unfold Rd Kq Lp;rw [<-hno];exact hdg
    unfold J3;rw [e1];exact hau
  · unfold A0q;rw [htt,hout];exact hrp
  · have e1:Sj m.s6 Av Aw 5 m.tk=(m.d2,V):=by
      unfold Sj bgB;rw [hsub];exact hd2
    unfold Ml;rw [e1,hsub];exact hax
  · unfold Qi;rw [hdig2];exact hac
theorem A2R {s:PS} (h:s.Wf) (K nm:List UInt8) (pw:ByteArray):(ph s K nm pw).s.Wf:=by
  unfold ph;exact ((((((h.text _ _).1).shut _ _ _).fresh.fresh).shut _ _ _).shut _ _ _)
theorem A2L {s:PS} (h:s.Wf) (nm sv:List UInt8) (now un seq:Nat) (tb dk:List UInt8) (k8:List (List UInt8×List UInt8)):(J3 s nm sv now un seq tb dk k8).2.Wf:=((h.fresh).digest _).shut _ _ _
theorem A1Z {s:PS} (h:s.Wf) (nm me pr:List UInt8) (sid now seq:Nat) (tb dk:List UInt8):(Ml s nm me pr sid now seq tb dk).2.Wf:=((h.fresh).digest _).shut _ _ _
theorem U4 {s:PS} (h:s.Wf):(Ga s).ka.length=16/\(Ga s).kb.length=16:=by
  have h8:(Ga s).s8.Wf:=by
    unfold Ga;exact (A1Z (((A2L (A2R (A2R h.fresh _ _ _) _ _ _) _ _ _ _ _ _ _ _).fresh.shut _ _ _).shut _ _ _) _ _ _ _ _ _ _ _).shut _ _ _
  have h1:=h8.derive (Ga s).sub Ed;exact ⟨h1.2,(h1.1.derive (Ga s).sub J9).2⟩
theorem A3T {s:PS} (h:s.Wf) (hz:s.sz<=900):(Ga s).talk.Ok 0:=by
  have h1:=(A0W s).z9;refine ⟨?_,(U4 h).1,(U4 h).2,Nat.le_refl _,Nat.le_refl _,Nat.le_refl _,Nat.le_refl _,Nat.le_refl _⟩;show (Ga s).s9.sz<=1000+20*0
  omega
section
def mkU (nm uk:List UInt8):Us:=if h:uk.length=16 then ⟨tx nm,uk,h,300,3000,true⟩ else ⟨tx nm,zk,rfl,300,3000,true⟩
theorem P8 {nm uk:List UInt8} (h:uk.length=16):(mkU nm uk).key=uk:=by rw [mkU,dif_pos h]
theorem B5 (nm uk:List UInt8):(mkU nm uk).name=tx nm:=by unfold mkU; split <;> rfl
theorem C3 (nm uk:List UInt8):(mkU nm uk).life=300:=by unfold mkU; split <;> rfl
theorem Ck (nm uk:List UInt8):(mkU nm uk).renew=3000:=by unfold mkU; split <;> rfl
theorem Rc (nm uk:List UInt8):(mkU nm uk).mesh=true:=by unfold mkU; split <;> rfl
theorem Oj (u:Us) (h1:u.name=tx Av) (h2:u.life=300) (h3:u.renew=3000):J8 [] u=([u],0)/\Fi [u]/\Qv [u] (tx Av)=u.cells/\Qx [u] (tx Av)=0:=by
  obtain ⟨nm,k,kl,lf,rn,me⟩:=u;simp only at h1 h2 h3;subst h1 h2 h3;refine ⟨by kernel_rfl,?_,by kernel_rfl,by kernel_rfl⟩;exact aM _ _
theorem Ol (u v:Us) (h1:u.name=tx Av) (g1:v.name=tx Aw) (g2:v.life=300) (g3:v.renew=3000):J8 [u] v=([u,v],0)/\Fi [u,v]/\Qv [u,v] (tx Aw)=v.cells/\Qx [u,v] (tx Aw)=0:=by
  obtain ⟨nm,k,kl,lf,rn,me⟩:=u;obtain ⟨nm2,k2,kl2,lf2,rn2,me2⟩:=v;simp only at h1 g1 g2 g3;subst h1 g1 g2 g3;refine ⟨by kernel_rfl,?_,by kernel_rfl,by kernel_rfl⟩;refine List.pairwise_cons.2 ⟨?_,aM _ _⟩;intro x hx;simp only [aD,aE,or_false] at hx;subst hx;show Jp (tx Av) (tx Aw)<0
  decide+kernel
theorem Kc:L4 E1:=by
  intro x hx
  have:∀o∈E1,o=none:=by
    intro o ho;simp only [E1,M9,List.map_replicate] at ho
    have:=List.eq_of_mem_replicate ho;rw [this];rfl
  exact absurd (this _ hx) (by simp)
theorem Jq {D:List (Option CrD)} {d:CrD} (h:L4 D) (hd:d.2.1.length<=140737488351232):L4 (Hb D d).1:=by
  unfold Hb;split
  · exact h
  · intro x hx;rcases List.mem_or_eq_of_mem_set hx with hx | hx
    · exact h x hx
    · cases hx
      exact hd
theorem Va (k nm tk:List UInt8):(Hb E1 ((Ea k nm).cr A1 tk)).2=0/\Pg (Hb E1 ((Ea k nm).cr A1 tk)).1 (tx A1)=some (tx A1,tk,k,5,310,3010):=
  ⟨by kernel_rfl,by kernel_rfl⟩
theorem A1c (k nm tk nk t2:List UInt8):(Hb (Hb E1 ((Ea k nm).cr A1 tk)).1 ((Gm nk).cr Aw t2)).2=0/\Pg (Hb (Hb E1 ((Ea k nm).cr A1 tk)).1 ((Gm nk).cr Aw t2)).1 (tx Aw)=some (tx Aw,t2,nk,2,310,0):=
  ⟨by kernel_rfl,by kernel_rfl⟩
def Ph.c1 (p:Ph) (nm:List UInt8):Cli:=(Cli.new (tx nm)).logged p.uk p.no
section
variable {s:PS} {K nm:List UInt8} {pw:ByteArray} {p:Ph} (ok:Ua s K nm pw p) (hz:s.sz<=10000) (hnl:nm.length<=200) (hnr:As (tx nm)=true) (huk:p.uk.length=16)
include ok hz hnl
theorem A0X (q kp bp:Nat) (L:List Us) (u:Us) (hu:u.key=p.uk) (hn:u.name=tx nm) (hlf:u.life=300) (hrn:u.renew=3000) (hm:u.mesh=true) (hL:Fi L) (hl:L.length<=32) (ha:(J8 L u).2=0) (hpw:pw.size<=1000) (l:List Res) (w:aO) (h:Ac w (Cs kp s.knd q bp K::Bq bp L::pvR q s::l)): aP aA 19 #[.pointer (some ⟨kp,0,none⟩),.string (tx nm),.string pw,.int .i64 300,.int .i64 3000,.bool true] w λ e w'=>e=.returned (.int .i64 0)/\Ac w' (Cs kp s.knd q bp K::Bq bp (J8 L u).1::pvR q p.sa::l):=by
  have e1:s.text pw.data.toList u.name.data.toList=(p.uk,p.sa):=by rw [hn]; exact ok.text
  have:=Uu kp q bp s K L u pw l w h (by omega) (by rw [e1]; exact hu) hL hl (by rw [hn,E7]; omega) (by omega);rw [hn,hlf,hrn,hm] at this;unfold Vs at this;rw [ha] at this;have e2:(s.text pw.data.toList (tx nm).data.toList).2=p.sa:=by rw [<-hn,e1]
  rw [e2] at this;exact this
theorem A0Y (q cp st:Nat) (hpw:pw.size<=1000) (l:List Res) (w:aO) (h:Ac w (B9 cp s.knd q st (Cli.new (tx nm))::pvR q p.sa::l)): aP aA 20 #[.pointer (some ⟨cp,0,none⟩),.int .i64 10,.string pw,.int .i64 900] w λ e w'=>∃y,e=.returned (.tuple #[.agg #[.string (tx nm),.int .i64 (p.no:Int),.int .i64 900,y],.int .i64 0])/\Ac w' (.row y p.bx::B9 cp s.knd q st (p.c1 nm)::pvR q p.sc::l):=by
  have hza:=ok.za
  have:=Q9 cp q st p.sa (Cli.new (tx nm)) nm pw 10 900 l w (by rw [ok.kna]; exact h) (by omega) rfl hnl hpw rfl (by decide) (by show 0<_; omega);unfold Qe at this;rw [show (Cli.new (tx nm)).seq+1=1 from rfl,ok.no,ok.box,ok.sc,ok.key,ok.kna] at this;exact this
include hnr in
theorem A5H (q kp bp:Nat) (L:List Us) (u:Us) (hu:u.key=p.uk) (hn:u.name=tx nm) (hlf:u.life=300) (hrn:u.renew=3000) (hL:Fi L) (hl:L.length<=32) (hg:Qv L (tx nm)=u.cells) (he:Qx L (tx nm)=0) (hK:K.length=16) (pv:aN) (l:List Res) (w:aO) (h:Ac w (Cs kp s.knd q bp K::Bq bp L::pvR q p.sc::l)) (hv:∀W,Ac W l->Bs W pv p.bx): aP aA 21 #[.pointer (some ⟨kp,0,none⟩),.int .i64 10,.agg #[.string (tx nm),.int .i64 (p.no:Int),.int .i64 900,pv]] w λ e w'=>∃y z,e=.returned (.tuple #[.agg #[.string (tx nm),.string (tx A1),y,z],.int .i64 0])/\ Ac w' (.row y p.tk::.row z p.rp::Cs kp s.knd q bp K::Bq bp L::pvR q p.s::l):=by
  have hzc:=ok.zc;have hnb:=ok.nob
  have:=A1v kp q bp p.sc K L u nm p.no 10 900 300 3000 10 1 pv p.bx l w (by rw [ok.knc]; exact h) (by omega) hK hL hl hg he hn hnl hnr hlf hrn (by rw [hu]; exact ok.opre) hv (by decide) (by decide) (by decide) (by decide) (by decide) (by omega) (by decide) (by decide) (by decide) (by decide);unfold A1Q at this;rw [hu,ok.tk,ok.rp,ok.s2,ok.knc] at this;exact this
include hnr huk in
theorem A4x (q cp st:Nat) (tv rv:aN) (l:List Res) (w:aO) (h:Ac w (B9 cp s.knd q st (p.c1 nm)::A7 st E1::pvR q p.s::.row tv p.tk::l)) (hv:∀W,Ac W l->Bs W rv p.rp): aP aA 22 #[.pointer (some ⟨cp,0,none⟩),.iface 83 (.agg #[.string (tx nm),.string (tx A1),tv,rv])] w λ e w'=>e=.returned (.int .i64 0)/\Ac w' (B9 cp s.knd q st (p.c1 nm).ended::A7 st (Hb E1 ((Ea p.key nm).cr A1 p.tk)).1::pvR q p.s::.row tv p.tk::l):=by
  have hzs:=ok.gr.sz;have hnb:=ok.nob;have hlt:=ok.ltk
  have:=Xe cp q st p.s (p.c1 nm) E1 (Ea p.key nm) p.no nm A1 tv rv p.tk p.rp l w (by rw [ok.kns]; exact h) (by omega) huk (P3 ok.kl hnl hnr) (by omega) rfl (by decide) A2y rfl hv ok.orep (by omega) (Va _ _ _).1 rfl rfl;rw [ok.kns] at this;exact this
end
def Mt.dA (m:Mt):List (Option CrD):=(Hb E1 ((Ea m.p1.key Av).cr A1 m.p1.tk)).1
def Mt.dB (m:Mt):List (Option CrD):=(Hb E1 ((Ea m.p2.key Aw).cr A1 m.p2.tk)).1
def Mt.dC (m:Mt):List (Option CrD):=(Hb m.dA ((Gm m.nk).cr Aw m.tk)).1
def Mt.cA (m:Mt):Cli:=(m.p1.c1 Av).ended
def Mt.cC (m:Mt):Cli:=m.cA.meets Aw m.p1.key m.no
section
variable {s:PS} {m:Mt} (ok:A5n s m) (hz:s.sz<=900)
include ok hz
theorem A5D (q st:Nat) (l:List Res) (w:aO) (h:Ac w (A7 st m.dB::l)): aP aA 24 #[.pointer (some ⟨st,0,none⟩),.int .i64 10,.string (tx A1)] w λ e w'=>∃y,e=.returned (.tuple #[.agg (crC (tx A1,m.p2.tk,m.p2.key,5,310,3010) y).toArray,.int .i64 0])/\Ac w' (.row y m.p2.tk::A7 st m.dB::l)/\m.p2.key.length=16:=by
  have hl:=ok.p2.ltk;exact Jr st m.dB 10 (tx A1) _ l w h (Jq Kc (by show m.p2.tk.length<=_; omega)) (Va _ _ _).2 (by show (10:Int)<310; decide)
theorem A4S (q cp st:Nat) (pv:aN) (l:List Res) (w:aO) (h:Ac w (B9 cp s.knd q st m.cA::A7 st m.dA::pvR q m.p2.s::l)) (hv:∀W,Ac W l->Bs W pv m.p2.tk): aP aA 25 #[.pointer (some ⟨cp,0,none⟩),.int .i64 10,.int .i64 900,.string (tx Aw),.agg #[.string (tx A1),pv]] w λ e w'=>∃y z b,e=.returned (.tuple #[.agg #[.string (tx Aw),.int .i64 (m.no:Int),.int .i64 900,.bool false,.bool true,.string (tx A1),y,z,.slice (some ⟨b,0,none⟩) 1 1],.int .i64 0])/\ Ac w' (.row y m.p1.tk::.row z m.au::B9 cp s.knd q st m.cC::A7 st m.dA::pvR q m.s4::.blk b [.string (tx A1),pv] 81::l):=by
  have hl:=ok.p1.ltk;have hz2:=ok.z2;have hno:=ok.no;have e1:Kq m.p2.s Aw 900 m.p1.tk [(A1,m.p2.tk)]=m.msg13 []:=by unfold Kq Mt.msg13; rw [hno]
  have:=Sw cp q st m.p2.s m.cA m.dA Av Aw 10 900 m.p1.tk m.p1.key m.p2.tk 5 310 3010 pv l w (by rw [ok.k2]; exact h) (by omega) rfl (by decide) Nx rfl ok.p1.kl (by decide) (by show 1<_; omega) (Jq Kc (by show m.p1.tk.length<=_; omega)) (Va _ _ _).2 (by decide) hv (by rw [e1]; exact ok.z13.all) (by rw [e1]; exact ok.z13.ok) (by rw [e1]; exact ok.z13.len);unfold T8 at this;rw [show m.cA.seq+1=2 from rfl,ok.au,ok.k2,hno] at this;exact this
theorem A5F (q sp kp cp ob bp xb:Nat) (u v:Us) (h1:u.name=tx Av) (g1:v.name=tx Aw) (g2:v.life=300) (g3:v.renew=3000) (g4:v.mesh=true) (tv av pv:aN) (l:List Res) (w:aO) (h:Ac w (He sp kp cp ob::Cs kp s.knd q bp m.K::B6 cp [] 64::Bq bp [u,v]::pvR q m.s4::.blk xb [.string (tx A1),pv] 81::l)) (hv:∀W,Ac W l->Bs W tv m.p1.tk) (hav:∀W,Ac W l->Bs W av m.au) (hpv:∀W,Ac W l->Bs W pv m.p2.tk): aP aA 26 #[.pointer (some ⟨sp,0,none⟩),.int .i64 10,.agg #[.string (tx Aw),.int .i64 (m.no:Int),.int .i64 900,.bool false,.bool true,.string (tx A1),tv,av,.slice (some ⟨xb,0,none⟩) 1 1]] w λ e w'=>∃y z L,e=.returned (.tuple #[.agg #[.string (tx Av),.string (tx Aw),y,z],.int .i64 0])/\ Ac w' (.row y m.tk::.row z m.rp::He sp kp cp ob::Cs kp s.knd q bp m.K::B6 cp L 64::Bq bp [u,v]::pvR q m.s6::.blk xb [.string (tx A1),pv] 81::l):=by
  have hz4:=ok.z4;have hno:=ok.nob;have e3:=Ol u v h1 g1 g2 g3;have hoa:=ok.oau;have hdg:=ok.dg
  have:=Xc sp kp cp ob q bp xb m.s4 m.K (A5 13 (m.msg13 [])) [] 64 [u,v] v (Ea m.p1.key Av) (Ea m.p2.key Aw) m.no 10 900 10 2 Aw tv av pv m.p1.tk m.au m.p2.tk zk l w (by rw [ok.k4]; exact h) (by omega) ok.kl rfl ok.z13.all ok.z13.ok ok.z13.len
    ok.ot1 hv (P3 ok.p1.kl (by decide) Nx) (by show 10<310; decide) (by rw [hdg]; exact hoa) hav (by decide) (by decide) rfl (by decide) (by show (Ca [] 64 ((10:Nat):Int) (tx Av,((10:Nat):Int),((2:Nat):Int))).2=0; decide+kernel) (by show (Ca [] 64 ((10:Nat):Int) (tx Av,((10:Nat):Int),((2:Nat):Int))).1≠ []; decide+kernel) ok.ot2 hpv (P3 ok.p2.kl (by decide) Pr) (by show 10<310; decide) rfl (by show ¬(tx Aw).toList=(tx Av).toList; decide+kernel) e3.2.1 (by show 2<=32; decide) e3.2.2.1 e3.2.2.2 g4 (by decide) (by decide) (by omega) (by decide) Pr
  refine this.mono ?_;rintro e w' ⟨y,z,rfl,hh⟩;rw [ok.tk,ok.rp,ok.k4] at hh;exact ⟨y,z,_,rfl,hh⟩
theorem A5E (q cp st:Nat) (tv rv:aN) (l:List Res) (w:aO) (h:Ac w (B9 cp s.knd q st m.cC::A7 st m.dA::pvR q m.s6::.row tv m.tk::l)) (hv:∀W,Ac W l->Bs W rv m.rp): aP aA 22 #[.pointer (some ⟨cp,0,none⟩),.iface 97 (.agg #[.string (tx Av),.string (tx Aw),tv,rv])] w λ e w'=>e=.returned (.int .i64 0)/\Ac w' (B9 cp s.knd q st m.cC.ended::A7 st m.dC::pvR q m.s6::.row tv m.tk::l):=by
  have hz6:=ok.z6;have hno:=ok.nob;have hl:=ok.ltk
  have:=Ux cp q st m.s6 m.cC m.dA (Gm m.nk) m.no Av Aw tv rv m.tk m.rp l w (by rw [ok.k6]; exact h) (by omega) ok.p1.kl (U1 ok.nkl) (by omega) rfl (by decide) Pr rfl hv ok.orp (by omega) (A1c _ _ _ _ _).1 rfl rfl;rw [ok.k6] at this;exact this
theorem A3S (q cp st:Nat) (l:List Res) (w:aO) (h:Ac w (B9 cp s.knd q st m.cC.ended::A7 st m.dC::pvR q m.s6::l)): aP aA 27 #[pvV s q,.pointer (some ⟨cp,0,none⟩),.string (tx Av),.int .i64 11,.string (tx Aw),.int .i64 5] w λ e w'=>∃y z,e=.returned (.tuple #[.agg #[.string (tx Av),.string (tx Aw),.int .i64 5,.string (tx Aw),y,z],.agg (I1 Aw 5 m.sub 11 3).toArray,.int .i64 0])/\ Ac w' (.row y m.tk::.row z m.ax::B9 cp s.knd q st m.cC.ended.sent::A7 st m.dC::pvR q m.s7::l):=by
  have hz6:=ok.z6;have hl:=ok.ltk;have hl1:=ok.p1.ltk;have hpv:pvV m.s6 q=pvV s q:=by rw [<-A6 ok.k6,<-A6 rfl]
  have:=St cp q st m.s6 m.cC.ended m.dC Av Av Aw 5 11 m.tk m.nk 2 310 0 l w (by rw [ok.k6]; exact h) (by omega) rfl (by decide) Nx rfl ok.nkl (by decide) (by show 2<_; omega) (Jq (Jq Kc (by show m.p1.tk.length<=_; omega)) (by show m.tk.length<=_; omega)) (A1c _ _ _ _ _).2 (by decide) ok.z17.all ok.z17.ok ok.z17.len;unfold Qd at this;rw [show m.cC.ended.seq+1=3 from rfl,ok.ax,ok.k6,ok.sub,hpv] at this;exact this
theorem A2K (q ca:Nat) (tv av:aN) (l:List Res) (w:aO) (h:Ac w (B6 ca [] 64::pvR q m.s7::l)) (hv:∀W,Ac W l->Bs W tv m.tk) (hav:∀W,Ac W l->Bs W av m.ax): aP aA 28 #[pvV s q,.string (tx Aw),Ay m.p2.key,.pointer (some ⟨ca,0,none⟩),.int .i64 12,.agg #[.string (tx Av),.string (tx Aw),.int .i64 5,.string (tx Aw),tv,av]] w λ e w'=>∃y L,e=.returned (.tuple #[.agg (Rb Av 5 m.sub).toArray,.agg #[.string (tx Aw),.string (tx Av),.int .i64 5,y],.int .i64 0])/\ Ac w' (.row y m.ac::B6 ca L 64::pvR q m.s8::l):=by
  have hz7:=ok.z7;have hpv:pvV m.s7 q=pvV s q:=by rw [<-A6 ok.k7,<-A6 rfl]
  have hoa:=ok.oax;have hdg:=ok.d2
  have:=Qz ca q m.s7 m.p2.key (A5 17 (m.msg17 [])) [] 64 (Gm m.nk) Aw 5 12 11 3 tv av m.tk m.ax m.sub l w h (by omega) ok.p2.kl rfl ok.z17.all ok.z17.ok ok.z17.len ok.otk hv (U1 ok.nkl) rfl (by show 12<310; decide) (by rw [hdg]; exact hoa) hav (by decide) (by decide) ok.subl (by decide) (by show (Ca [] 64 ((12:Nat):Int) (tx Av,((11:Nat):Int),((3:Nat):Int))).2=0; decide+kernel) (by show (Ca [] 64 ((12:Nat):Int) (tx Av,((11:Nat):Int),((3:Nat):Int))).1≠ []; decide+kernel);rw [hpv] at this;refine this.mono ?_;rintro e w' ⟨y,rfl,hh⟩;rw [ok.ac] at hh;exact ⟨y,_,rfl,hh⟩
theorem A2M (q:Nat) (v:aN) (l:List Res) (w:aO) (h:Ac w (pvR q m.s8::l)) (hv:∀W,Ac W l->Bs W v m.ac): aP aA 30 #[.agg (I1 Aw 5 m.sub 11 3).toArray,pvV s q,.string (tx Av),.agg #[.string (tx Aw),.string (tx Av),.int .i64 5,v]] w λ e w'=>e=.returned (.int .i64 0)/\Ac w' (pvR q m.s8::l):=by
  have hz8:=ok.z8;have hpv:pvV m.s8 q=pvV s q:=by rw [<-A6 ok.k8,<-A6 rfl]
  have:=Q0 q m.s8 m.sub Av Aw 5 11 3 v m.ac l w h (by omega) ok.subl ok.oac hv (by decide) (by decide);rw [hpv] at this;exact this
theorem A4T (q:Nat) (l:List Res) (w:aO) (h:Ac w (pvR q m.s8::l)): aP aA 31 #[pvV s q,.string (tx Av),.string (tx Aw),.int .i64 5,Ay m.sub,.bool true] w λ e w'=>∃sp p1 p2,e=.returned (.pointer (some ⟨sp,0,none⟩))/\Ac w' (.blk sp (Bf s.knd q Av Aw 5 p1 p2 (.slice none 0 0) 0 0 (.pointer none)) 205::.ownZ 145 2 (.slice none 0 0) 0 []::Ar p1 s.knd q m.ka 0::Ar p2 s.knd q m.kb 0::pvR q m.s9::l):=by
  have hz8:=ok.z8;have hpv:pvV m.s8 q=pvV s q:=by rw [<-A6 ok.k8,<-A6 rfl]
  have:=Pw q m.s8 m.sub Av Aw 5 l w h (by omega) ok.subl;rw [hpv,ok.one,ok.two,ok.k8] at this;exact this
theorem A4U (q:Nat) (l:List Res) (w:aO) (h:Ac w (pvR q m.s9::l)): aP aA 31 #[pvV s q,.string (tx Aw),.string (tx Av),.int .i64 5,Ay m.sub,.bool false] w λ e w'=>∃sp p1 p2,e=.returned (.pointer (some ⟨sp,0,none⟩))/\Ac w' (.blk sp (Bf s.knd q Aw Av 5 p2 p1 (.slice none 0 0) 0 0 (.pointer none)) 205::.ownZ 145 2 (.slice none 0 0) 0 []::Ar p1 s.knd q m.ka 0::Ar p2 s.knd q m.kb 0::pvR q m.s9::l):=by
  have hz9:=ok.z9;have hpv:pvV m.s9 q=pvV s q:=by rw [<-A6 ok.k9,<-A6 rfl]
  have:=N7 q m.s9 m.sub Aw Av 5 l w h (by omega) ok.subl;rw [hpv,ok.one2] at this;simp only at this;rw [ok.two2,ok.k9] at this;exact this
end
theorem A5G {s:PS} (h:s.Wf):(Ga s).p1.uk.length=16/\(Ga s).p2.uk.length=16:=by
  unfold Ga;exact ⟨(h.fresh.text _ _).2,((A2R h.fresh _ _ _).text _ _).2⟩
end
end Go.Proofs.YtbmjjfhpllpiaaaGreat
