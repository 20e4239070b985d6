import Derived.Shelf.SortM.SortNone
import Derived.Sort.OwnSorted
import Derived.Test.YtiaeohgghaaciaaGreatDoorB18
import Derived.Test.YtiaeohgghaaciaaGreatDoorB20
namespace Go.Proofs.YtiaeohgghaaciaaGreatDoor
open Go Go.Maps Go.RowKit Go.Extern.Stop Go.Stop Go.Extern Go.Proofs.Tryz
set_option linter.all false
set_option maxRecDepth 100000
set_option maxHeartbeats 4000000
variable{a:Act}{Q:Exit→Act→World→Prop}{cu fi go ra ro:Int}{b l src:List Int}{N base c c' cap g i j k m n pc pn qn qx r x:Nat}{S:Nat→Prop}{o:Oper}{A B:Option Addr}{E:Prop}{e:TypeId}{v:Value}{u w w' w1:World}
theorem agc{α:Type}(l:List α)(i j:Nat)(a x:α):(l.set i a).getD j x=if j=i∧i<l then a else l.getD j x:=by
 rw[dG,dG,List.getElem?_set]
 by_cases h:i=j
 ·subst h
  by_cases Z:i<l
  ·simp[Z]
  ·rw[aF rfl,au Z,au aj,IU aj]
 ·rw[au h,au aj]
theorem WH{d:aI}{M:DkM}{m:FlM}{F:iD→iD}(h:V8 w g S d M)(hi:i<d.all)(U:bQ (fun k=>In M.A k∨In (M.ms.getD i default).A k) w w')
  (G:dX flR w' 0 M.A d.all M.c (M.ms.set i m)) (J:OwnB w' 0 m.A m.n m.c (F (dh d.all i)).data) (E:m.s=(F (dh d.all i)).safe) (P:∀k,In m.A k→In (M.ms.getD i default).A k∨w≤k):
  Dw w' g (fun k=>S k∨In m.A k) (d.yO i F)∧bQ S w w':=by
 have Y:=h.sep;have N:=h.all.len;have X:(d.all.modify i F).length=d.all:=sS _ _ _
 have V:∀j,(M.ms.set i m).getD j default=if j=i then m else M.ms.getD j default:=fun j=>by
  rw[agc,N]
  by_cases e:j=i
  ·rw[aF ⟨e,hi⟩,aF e]
  ·rw[au (fun k=>e k.1),au e]
 have L:∀j,dh (d.all.modify i F) j=if j=i then F (dh d.all j)else dh d.all j:=fun j=>by
  rw[Ih]
  by_cases e:j=i
  ·rw[aF ⟨e,hi⟩,aF e]
  ·rw[au (fun k=>e k.1),au e]
 have T:=h.lt;refine⟨⟨{M with ms:=M.ms.set i m},?_⟩,U.mono (fun k _ e=>e.elim (fun q=>h.sA k q) (fun q=>h.sF i hi k q))⟩;refine⟨?_,?_,fun j O=>?_,fun j1 j2 D C K k=>?_,h.names.dH U ?_,h.safe.dH U ?_,h.ne,h.arm,h.steps.dH U ?_,.inl h.sg,.inl h.sn,.inl h.ss,fun k Z=>.inl (h.sA k Z),fun k Z=>.inl (h.sB k Z),fun j O k Z=>?_,fun k Z=>?_⟩
 ·have:=h.box.dH U (fun e=>e.elim Y.gA (Y.gF i hi))
  show bF _ g _ #[_,aG M.A (d.all.modify i F) M.c,_,_,_,_,_,_];rw[X];exact this
 ·show dX flR w' 0 M.A (d.all.modify i F) M.c (M.ms.set i m)
  rw[X];exact G
 ·have W:j<d.all:=by rw[←X];exact O
  show OwnB w' 0 ((M.ms.set i m).getD j default).A _ _ (dh (d.all.modify i F) j).data∧((M.ms.set i m).getD j default).s=(dh (d.all.modify i F) j).safe;rw[V j,L j]
  by_cases e:j=i
  ·subst e
   rw[aF rfl,aF rfl];exact⟨J,E⟩
  ·rw[au e,au e]
   refine⟨(h.fl j W).1.dH U ?_,(h.fl j W).2⟩;rintro k Z (q|q)
   ·exact Y.AF k j W q Z
   ·exact h.apart i j hi W (fun B=>e B.symm) k q Z
 ·have R:j1<d.all:=by rw[←X];exact D
  have Q:j2<d.all:=by rw[←X];exact C
  rw[V j1,V j2]
  by_cases I:j1=i
  ·rw[aF I,au aj]
   intro q r;rcases P k q with q|q
   ·exact h.apart i j2 hi Q aj k q r
   ·have:=T k (h.sF j2 Q k r);omega
  ·rw[au I]
   by_cases H:j2=i
   ·rw[aF H]
    intro q r;rcases P k r with r|r
    ·exact h.apart j1 i R hi aj k q r
    ·have:=T k (h.sF j1 R k q);omega
   ·rw[au H];exact h.apart j1 j2 R Q K k
 ·exact fun e=>e.elim Y.nA (Y.nF i hi)
 ·exact fun e=>e.elim Y.sA (Y.sF i hi)
 ·rintro k Z (q|q)
  ·exact Y.AB k q Z
  ·exact Y.BF k i hi Z q
 ·have W:j<d.all:=by rw[←X];exact O
  have Z:=Z;rw[V j]at Z
  by_cases e:j=i
  ·rw[aF e]at Z;exact .inr Z
  ·rw[au e]at Z;exact .inl (h.sF j W k Z)
 ·rcases Z with Z|Z
  ·have:=T k Z
   have:=U.size;omega
  ·exact(J.row.lt k (by obtain⟨p,e,q⟩:=Z;rw[e];show some p.block=some k;rw[q])).2
theorem LU{d:aI}{M:DkM}(h:V8 w g S d M)(hi:i<d.all.length):∃a,M.A=some (aH a 0)∧aN w a (i*2) (.slice (M.ms.getD i default).A (M.ms.getD i default).n (M.ms.getD i default).c)∧aN w a (i*2+1) (aB (M.ms.getD i default).s)∧
  ∀j,w.frozen? (aH a j)=false:=by
 obtain⟨a,Y,-,-,W⟩:=h.all.form aj;obtain⟨b,o,e,X⟩:=h.all.ls.at_ hi;have Z:i<M.ms:=by rw[h.all.len];exact hi
 rw[Y]at e;injection e with e
 injection e with V U
 subst V;subst U;have T:M.ms.getD i default=M.ms[i]:=by rw[dG,fP Z];rfl
 rw[T];refine⟨a,Y,?_,?_,W⟩
 ·have:=X 0 _ rfl
  simpa[flR]using this
 ·have:=X 1 _ rfl
  simpa[flR]using this
theorem agd{d:aI}{e:Int}(h:(d.goes e).2=0):e=0∧d.down=false:=by
 unfold aI.goes at h;split at h
 ·cases h
 ·rename_i Z
  split at h
  ·rename_i k;exact absurd h k
  ·rename_i k;exact⟨xP.1 k,by cases Y:d.down with|true=>exact absurd Y Z|false=>rfl⟩
theorem PZ{d:aI}(h:d.there x=0)(Y:fZ d):d.at_ x<d.all∧(d.names x).isSome=true:=by
 unfold aI.there at h;split at h
 ·rename_i k
  obtain⟨n,Z⟩:=Hu.1 k;refine⟨?_,k⟩;unfold aI.at_;rw[Z];exact(Y.names x n Z).1
 ·cases h
theorem aiv{a:Nat}{d:aI}{M:DkM}(h:V8 w g S d M)(hi:i<d.all)(X:M.A=a)(q:Nat):
  Dw ((w.drewN q).setCell ⟨a,i*2+1,none⟩ (aB ((M.ms.getD i default).n:Nat))) g S (d.yO i fun f=>{f with safe:=f.data.length})∧bQ S w ((w.drewN q).setCell ⟨a,i*2+1,none⟩ (aB ((M.ms.getD i default).n:Nat))):=by
 have W:aP w (w.drewN q):=jM (aU _ _) q;have Z:i<M.ms:=by rw[h.all.len];exact hi
 have O:M.ms.getD i default=M.ms[i]:=by rw[dG,fP Z];rfl
 have V:=(h.fl i hi).1.keep W;have T:¬In (M.ms.getD i default).A a:=fun e=>absurd (((h.all.keep W).ty ⟨(aH a 0),X,rfl⟩).one (V.ty e)) bn
 have Q:=yF (w.drewN q) a (i*2+1) (aB ((M.ms.getD i default).n:Nat));have P:=h.all.keep W;rw[X]at P;have N:=P.store (i:=i) (j:=1) (a:={M.ms.getD i default with s:=(M.ms.getD i default).n}) (v:=aB ((M.ms.getD i default).n:Nat)) Z bn (by rw[O];rfl)
 have:=WH (w':=(w.drewN q).setCell ⟨a,i*2+1,none⟩ (aB ((M.ms.getD i default).n:Nat))) (m:={M.ms.getD i default with s:=(M.ms.getD i default).n}) (F:=fun f=>{f with safe:=f.data.length}) h hi
  (((bQ.of_below (S:=fun k=>In M.A k∨In (M.ms.getD i default).A k) W)).trans (Q.mono (fun k _ e=>Or.inl (e▸⟨(aH a 0),X,rfl⟩)))) (by rw[X];exact N) (V.dH Q (fun k U e=>T (e▸U))) (by show(M.ms.getD i default).n=(dh d.all i).data;exact V.len.symm) (fun k U=>Or.inl U)
 refine⟨?_,this.2⟩;obtain⟨L,Y⟩:=this.1;have R:(fun k=>S k∨In ({M.ms.getD i default with s:=(M.ms.getD i default).n}:FlM).A k)=S:=funext fun k=>propext ⟨fun e=>e.elim id (fun q=>h.sF i hi k q),Or.inl⟩
 rw[R]at Y;exact⟨L,Y⟩
theorem WI{d:aI}(hx:x<36)(D:fZ d)(w:aK)(h:Dw w g S d):
  Calls prog 78 #[aY g,.string (bP x)] w fun e P=>e=bM (eV (d.sync x).2)∧jh w g S (d.sync x).1 P:=by
 obtain⟨O,T⟩:=aV (Kz hx w h) (NY (k:=d.there x) w h);have I:=h.g;obtain⟨H,N,-⟩:=mP d (d.there x);have R:(d.goes (d.there x)).2=0→d.at_ x<d.all:=fun e=>(PZ (agd e).1 D).1
 have X:d.at_ x=(d.names x).getD 0:=rfl;unfold aI.sync;generalize d.goes (d.there x)=r at*;generalize eV (d.there x)=E at*;obtain⟨M,C⟩:=r;rw[←H,X,←N]at R;rw[X,←N];have V:=ay (fun P b (A:pK Az P b (LH M.names))=>NW A hx);obtain⟨q,U⟩:∃B,bP x=B:=⟨_,rfl⟩;rw[U]at O V ⊢;clear h U H N X;generalize(M.names x).getD 0=n at*
 by_cases W:C=0
 ·have G:=R W
  subst W;rw[au bK];rw[show eV 0=iI from rfl]at T ⊢;clear R;go_enter func78,ntmps78;go_wp2_with fail;refine O.aQ ?_;rintro Q rfl;go_wp2_with fail;refine T.aQ ?_;rintro Q ⟨⟨p,Y⟩,Z⟩;have J:=ay (Z.mono (fun i _ e=>(show S i from e▸I)));have z:=Y.box.c1;have o:=Y.box.c2;have t:=fun k=>V (Q.drewN k) _ (Y.names.keep (jM (aU _ _) k))
  obtain⟨a,L,m,l,F⟩:=LU Y G;have j:=F (n*2+1);rw[L]at z;have s:(n:Int)<(M.all.length:Nat):=aj
  change Hid _ at Y L;clear Z F;go_wp2
  go_quiet(fail)
  go_wp2_with fail;go_ret;obtain⟨y,v⟩:=aiv Y G L nq;exact⟨rfl,jh.trans (J.trans v) (fun i K=>Or.inl K) ⟨bQ.refl _ _,_,y,fun i K=>Or.inl K⟩⟩
 ·rw[aF W,pz W]
  rw[pz W]at T;clear R;go_enter func78,ntmps78;go_wp2_with fail;refine O.aQ ?_;rintro Q rfl;go_wp2_with fail;refine T.aQ ?_;rintro Q ⟨Y,Z⟩;have u:=ay (jh.of Y Z (fun i e=>e▸I));clear Y Z;go_wp2_with fail;go_ret;exact⟨rfl,u⟩
theorem grown_below{B:Nat}(h:w.grownBy w' (some r))(Z:B≤r)(Y:B≤w):Below B w w':=⟨h.os,h.tape,h.output,h.size,fun i X=>h.block i aj (fun e=>by injection e with e;omega)⟩
theorem fZ.name{d:aI}(h:fZ d)(Z:LH d.names x=some v):∃n,d.names x=some n∧v=n∧n<d.all:=by
 unfold LH at Z;cases Y:d.names x with
 |none=>rw[Y]at Z;cases Z
 |some n=>
  rw[Y]at Z;injection Z with Z
  exact⟨n,rfl,Z.symm,(h.names x n Y).1⟩
theorem aiw{d:aI}(b:fZ d)(E:aZ d N)(w:aK)(h:Dw w g S d):
  Calls prog 124 #[aY g] w fun e l=>e=bM d.used∧aP w l:=by
 obtain⟨M,h⟩:=h;have x2:=h.box.c2;obtain⟨HM,HD,HU⟩:=dB h.names h (IE d 36);go_enter func124,ntmps124;go_wp2_with(refine NU Az w rfl _ _ _ rfl underlying107 rfl HM ?_;intro w1 cnt hr D qa);obtain⟨C,HR⟩:=aV (bQ.xB (S:=fun _=>False) D (fun i _ e=>by cases e)) hr;go_wp2;go_simp
 go_loopg [3,5] cnt (fun k v3 v5 wr=>∃(G:Nat→Bool) (a:Nat),PU Az wr M.nb w (LH d.names) G k∧v3=a∧a+wL G d.lens 36=d.used∧aP w wr)
 case atStart=>exact⟨_,0,HR,rfl,by show 0+_=d.FK 36;rw[HU];simp only[NV];omega,C.below (bC _) (fun i e=>e.elim)⟩
 case round=>
  obtain⟨G,a,B,rfl,Z,R⟩:=hrel;obtain⟨Y,W⟩:=aV R B;rcases D8 gk with h0|h0
  ·go_wp2_with(refine Gg Az _ rfl _ rfl rfl W (fun _ Q=>?_) (fun x v l X _ _ _ _ z _ _ _=>absurd z aj))
   go_ret;have hz:wL G d.lens 36=0:=XV Q;rw[hz]at Z;exact⟨by rw[←Z];rfl,Y⟩
  ·go_upto_region 4 with(refine Gg Az _ rfl _ rfl rfl W (fun e _=>absurd e aj) ?_;intro x v w2 X hx u t P O K j qe)
   obtain⟨n,hn,rfl,V⟩:=b.name t;have s:=grown_below K (bC _) Y.size;have U:=ay (Y.trans s);have F:=HD.keep (bQ.of_below U) (fun _ _ h=>h);obtain⟨q,hA,y0,-,-⟩:=LU F V;have x1:w2.cell? (aH g 1)=some (aG q d.all M.c):=by rw[F.box.cell,←hA];rfl
   have T:d.lens x=(M.ms.getD n default).n:=by
    unfold aI.lens;rw[hn];exact(F.fl n V).1.len
   have J:=aad (f:=d.lens) (k:=36) hx u;have I:=ay P
   have r:=NZ (g:=fun x=>(d.names x).isSome) (f:=d.lens) (m:=16777216) (fun y=>by
    unfold aI.lens;cases hy:d.names y with
    |none=>exact dS _
    |some m=>exact(E.DZ m).2.1) 36
   rw[←IE]at r;obtain⟨HS,H,p⟩:=dB Z J T;have o:a+d.lens x≤16777216*36:=by show _;unfold aI.used at Z;omega
   rw[T]at o;generalize(M.ms.getD n default).n=L at*;generalize(M.ms.getD n default).A=FA at*;generalize(M.ms.getD n default).c=FC at*;go_wp2;go_roundg X
   case measure=>exact O
   case rel=>exact⟨_,a+L,I,fA,by have h1:=H.out;have F:=HS.vI;have h3:=p.out;omega,U⟩
theorem LV{J:Int}(h:Lb w B n l)(T:n≤c)(W:j≤n)(V:J=j):Lb w B j (l.take j)∧
  (∀Z,(Instr.slice 24 (aG B n c) none (some (aB J)) none).run prog Z= .ok (aG B j c) Z)∧
  ∀Z,(Instr.sliceAt 24 (aG B n c) none (some (aB J)) none).run prog Z= .ok (aG B j c) Z:=by
 subst V
 have Y:∀Z,(Instr.slice 24 (aG B n c) none (some (aB (j:Int))) none).run prog Z= .ok (aG B j c) Z:=fun Z=>by
  rw[run_slice_h (P:=prog) (w:=Z) (t:=24) (a:=B) (len:=n) (cap:=c) (ht:=aW) (kh:=.i64) (h:=j) (h0:=aj) (h2:=aj)];have U:(sizeOf (prog.elem 24)).run prog Z= .ok 1 Z:=aW
  rw[U];show Result.ok (sliced _ _ _ _ _) _=_;unfold sliced
  by_cases X:c=0
  ·subst X
   simp
  ·rw[au aj]
   cases B<;>simp[Addr.add]
 refine⟨⟨by rw[xO,h.len];omega,?_⟩,Y,fun Z=>?_⟩
 ·have:=h.rd.take (i:=j) (by rw[h.len];exact W)
  exact this
 ·rw[ng (P:=prog) (w:=Z) 24 _ _ _ _ aW]
  exact Y Z
theorem akk{a o:Nat}{d:aI}{M:DkM}{r:aO}(h:V8 w g S d M)(hi:i<d.all)(U:M.A=a)
  (N:OwnB u 0 B ((M.ms.getD i default).n+k) o ((dh d.all i).data++r)) (Q:bQ (In (M.ms.getD i default).A) w u) (Y:∀j,In B j→In (M.ms.getD i default).A j∨w≤j):
  Dw (u.setCell ⟨a,i*2,none⟩ (aG B ((M.ms.getD i default).n+k:Nat) o)) g (fun j=>S j∨In B j) (d.yO i fun f=>{f with data:=f.data++r})∧bQ S w (u.setCell ⟨a,i*2,none⟩ (aG B ((M.ms.getD i default).n+k:Nat) o)):=by
 have X:=h.sep;have W:i<M.ms:=by rw[h.all.len];exact hi
 have L:M.ms.getD i default=M.ms[i]:=by rw[dG,fP W];rfl
 have Z:In M.A a:=⟨(aH a 0),U,rfl⟩;have R:=X.AF a i hi Z;have V:¬In B a:=fun e=>(Y a e).elim R (fun q=>by have:=(h.all.dN Z).2;omega)
 have P:=yF u a (i*2) (aG B ((M.ms.getD i default).n+k:Nat) o);have O:=h.all.dH Q (fun j T=>X.AF j i hi T);rw[U]at O;have K:=O.store (i:=i) (j:=0) (a:=(⟨B,(M.ms.getD i default).n+k,o,(M.ms.getD i default).s⟩:FlM)) (v:=aG B ((M.ms.getD i default).n+k:Nat) o) W bn (by rw[L];rfl)
 exact WH (m:=⟨B,(M.ms.getD i default).n+k,o,(M.ms.getD i default).s⟩) (F:=fun f=>{f with data:=f.data++r}) h hi
  ((Q.mono (fun j _ e=>Or.inr e)).trans (P.mono (fun j _ e=>Or.inl (e▸Z)))) (by rw[U];exact K) (N.dH P (fun j T e=>V (e▸T))) (by exact(h.fl i hi).2) Y
theorem LW{d:aI}(hx:x<36)(hF:fZ d)(T:aZ d N)(hm:m≤100000000)(qv:m≤c)(w:aK)(h:Dw w g S d)(hb:Lb w B m b)(qw:∀i,In B i→¬S i):
  Calls prog 77 #[aY g,.string (bP x),aG B m c] w fun e Y=>e=bM (eV (d.append x b).2)∧jh w g S (d.append x b).1 Y:=by
 obtain⟨HT,HU,qj⟩:=dB (fun Y (o:Dw Y g S d)=>Kz hx Y o) (fun Y (o:Dw Y g S d)=>aiw hF T Y o) (fun Y M (o:V8 Y g S d M)=>YH Y o);have hS:=h.g;obtain⟨HD,qQ⟩:=aV h hb.len;have qy:=hb.len;obtain⟨qz,HK⟩:=aV (fun n=>(T.DZ n).2.1) (fun Y (o:aP w Y)=>h.keep (bQ.of_below (S:=fun _=>False) o) (fun _ _ h=>h));obtain⟨M,h⟩:=h;have x6:=h.box.c6;have hz:d.there x=0→d.at_ x<d.all:=fun e=>(PZ e hF).1
 have qk:d.at_ x=(d.names x).getD 0:=rfl;unfold aI.append;obtain⟨Bx,ql⟩:∃B,bP x=B:=⟨_,rfl⟩;have P:=ay (fun Y b (hm:pK Az Y b (LH d.names))=>NW hm hx);rw[ql]at HT P ⊢;clear ql;cases hd:d.down with
 |true=>
  rw[hd]at x6;rw[aF rfl];have X:=ay (HT w HD);clear h hz;go_enter func77,ntmps77;go_wp2_with fail;refine X.aQ ?_;rintro w1 rfl;go_wp2_with fail;go_ret;exact⟨rfl,jh.of HD (bQ.refl S _) (fun _ h=>h)⟩
 |false=>
  rw[hd]at x6;rw[au bK]
  by_cases ht:d.there x=0
  ·have hn:=hz ht
   have X:=ay (HT w HD);rw[ht,show eV 0=iI from rfl]at X;rw[au (show¬(d.there x≠0)from fun e=>e ht),qy];clear HT hz;have x0:=h.box.c0;have hr:=T.room
   have qA:d.used≤16777216*36:=by
    have:=NZ (g:=fun x=>(d.names x).isSome) (f:=d.lens) (m:=16777216) (fun y=>by
     unfold aI.lens;cases hy:d.names y with
     |none=>exact dS _
     |some m=>exact(T.DZ m).2.1) 36
    rw[←IE]at this;exact this
   by_cases Z:0<m∧d.room-d.used<m
   ·rw[aF Z,pz (show(9:Int)≠0 by decide)]
    obtain⟨qB,qC⟩:=Z;have qO:(0:Int)<(m:Nat):=aj
    have qa:=ay (HU w.drew (HK _ ((aU _ _).drew)));generalize d.used=U at*;generalize d.room=R at*;have qu:IntKind.i64.wrap (R-U)=R-U:=iE _ aj;clear h T;go_enter func77,ntmps77;go_wp2_with fail;refine X.aQ ?_;rintro w1 rfl;go_wp2_with fail
    go_region_held3(fun W=>aN W g 0 (aB R)) (first|exact x0|exact aC x0 v|fail)
     (first|(go_at_call 124;refine qa.aQ ?_;rintro w2 O;have v:aP w w2:=((aU _ _).drew).trans O)|fail)
    all_goals(
     obtain⟨H2,qD⟩:=aV (HK _ v) (bQ.of_below (S:=S) v);clear O v;go_wp2_with fail;go_ret;exact⟨rfl,jh.of H2 qD (fun _ h=>h)⟩)
   ·rw[au Z]
    go_enter func77,ntmps77;go_wp2_with fail;refine X.aQ ?_;rintro w1 rfl;go_wp2_with fail;go_cut [22] (fun qE wx=>qE= .bool false∧aP w wx)
    case first=>
     by_cases qm:m=0
     ·subst qm
      go_quiet(fail)
      go_wp2_with fail;go_meet;exact⟨rfl,jM (aU _ _) _⟩
     ·have qB:0<m:=aj
      have qC:¬d.room-(d.used:Nat)<(m:Nat):=fun e=>Z ⟨aj,e⟩
      have qa:=ay (HU w.drew (HK _ ((aU _ _).drew)));generalize d.used=U at*;have qu:IntKind.i64.wrap (d.room-U)=d.room-U:=iE _ aj;generalize d.room=R at*;clear h T qm Z
      go_region_held3(fun W=>aN W g 0 (aB R)) (first|exact x0|exact aC x0 v|fail)
       (first|(go_at_call 124;refine qa.aQ ?_;rintro w2 O;have v:aP w w2:=((aU _ _).drew).trans O)|fail)
      all_goals(
       change Hid _ at v;clear O;go_wp2_with fail;go_meet;exact⟨by rw[vH aj],v⟩)
    case rest=>
     obtain⟨rfl,H⟩:=hcut;obtain⟨qF,qG⟩:=aV (bQ.of_below (S:=S) H) (hb.keep H);obtain⟨u,h6⟩:=HK _ H;have x1:=h6.box.c1;have x2:=h6.box.c2;rw[←qk]at P;have qR:=fun k=>P (wc.drewN k) _ (h6.names.keep (jM (aU _ _) k))
     obtain⟨a,hA,-⟩:=LU h6 hn;rw[hA]at x1;generalize qS:d.at_ x=n at*;have qT:(n:Int)<(d.all.length:Nat):=aj
     have qe:=ay (fun k=>qj (wc.drewN k) u (h6.keep (bQ.of_below (S:=fun _=>False) (jM (aU _ _) k)) (fun _ _ h=>h)));change Hid _ at h6 hA;clear h Z hr qA x0 x6 hb HU qj HK qk T ht hd H;go_wp2_with fail
     go_quiet(fail)
     go_wp2_with fail;refine(qe _).aQ ?_;rintro w7 ⟨⟨dn,K⟩,G⟩;have F:=(wX d).1;have Q:n<d.fall.all:=by rw[F];exact hn
     have qH:=qz n;rw[←F]at qH;have qI:∀i,In B i→¬i=g:=fun i hi e=>qw i hi (e▸hS)
     obtain⟨qo,qq⟩:=aV ((qG.keep (jM (aU _ _) nq)).dH G qI) ((qF.drewN nq).trans (G.mono (fun i _ e=>(show S i from e▸hS))));obtain⟨l,E,y0,-,qf⟩:=LU K Q;obtain rfl:l=a:=by have:=hA.out;dsimp only at E;rw[E]at this;injection this with this;injection this
     have qi:=(K.fl n Q).1.len;have H7:=ay K;dsimp only at y0 qi;have f0:=qf (n*2);have D:In u.A l:=⟨(aH l 0),hA,rfl⟩;have C:=K.sep.AF l n Q D;have qg:=(K.all.dN D).2;obtain⟨qh,L,qr⟩:=dB ((K.fl n Q).1) (fun(I:aK) (B1:dK) (k b1:Nat) (r:aO) (o8:OwnB I 0 B1 ((u.ms.getD n default).n+k) b1 ((dh d.fall.all n).data++r)) (hc:bQ (In (u.ms.getD n default).A) w7 I) (qJ:∀j,In B1 j→In (u.ms.getD n default).A j∨w7≤j)=>akk K Q hA o8 hc qJ) (K.sF n Q);dsimp only at qh L qr;generalize(u.ms.getD n default).A=FA at*;generalize(u.ms.getD n default).n=FN at*;generalize(u.ms.getD n default).c=FC at*;have qs:Hid (∀I,bQ (In FA) w7 I→aN I l (n*2) (aG FA FN FC)∧I.frozen? (aH l (n*2))=false):=ay (fun I hc=>⟨bG y0 hc C,(World.frozen?_of_block (hc.block l qg C)).trans f0⟩);have s:Hid (∀(Y:aK) (B1:dK) (e:aI),Dw Y g (fun j=>S j∨In B1 j) e∧bQ S w7 Y→(∀j,In B1 j→In FA j∨w7≤j)→jh w g S e Y):=ay (fun _ _ _ h1 h2=>⟨qq.trans h1.2,_,h1.1,fun j hj=>hj.elim Or.inl (fun q=>(h2 j q).elim (fun t=>Or.inl (qr j t)) (fun t=>Or.inr (dD qq.size t)))⟩)
     by_cases qt:d.fall.down=true
     ·rw[qt]
      clear K G F qe P qf E C qg D;obtain⟨j,hj⟩:∃j,m/2=j:=⟨_,rfl⟩;have qK:j≤m:=aj
      have hq:IntKind.i64.wrap ((m:Int)/2)=(j:Int):=by
       rw[iE _ aj];omega
      obtain⟨hT,qU,qP⟩:=LV (j:=j) (J:=(j:Int)) qo qv qK rfl;change Hid _ at hj;change Hid _ at hT;go_wp2_with fail
      go_region_law(first|(refine abo PS kE (.tmp 56) (.tmp 61) kE kE (qh.e.drew) kE ((hT.e).keep (aU _ _).drew) (by show(_+_)*1≤_;omega) (dS _) aj ?_;intro B1 b1 I o8 qL z V;have p:=((bQ.refl (In FA) w7).drew).trans z;obtain⟨qM,qN⟩:=qs _ p)|fail)
      all_goals(
       go_wp2_with fail;go_ret;rw[hj];exact⟨rfl,s.out _ _ _ (by have:=L _ _ _ _ _ o8.ownB p V;exact this) V⟩)
     ·rw[show d.fall.down=false by simpa using qt]
      clear K G F qe P qf E C qg D;go_wp2_with(at_builtin;refine aaY PS rfl _ _ rfl rfl qh.e rfl qo.e (by show(_+_)*1≤_;omega) (dS _) aj ?_;intro B1 b1 I o8 qL z V;obtain⟨qM,qN⟩:=qs _ z);go_ret;exact⟨rfl,s.out _ _ _ (L _ _ _ _ _ o8.ownB z V) V⟩
  ·rw[aF ht]
   have X:=ay (HT w HD);rw[pz ht]at X ⊢;clear h hz;go_enter func77,ntmps77;go_wp2_with fail;refine X.aQ ?_;rintro w1 rfl;go_wp2_with fail;go_ret;exact⟨rfl,jh.of HD (bQ.refl S _) (fun _ h=>h)⟩
def WJ(w:aK)(k:Int)(l:aO)(e:Ending)(w':aK):Prop:=aP w w'∧(k=0→∃A c,e=bM (eP #[aG A l.length c,iI])∧OwnB w' w.heap.size A l.length c l)∧(k≠0→e=bM (eP #[bU,eV k]))
theorem WJ.no{k:Int}{e:Ending}(Z:k≠0)(Y:aP w w')(X:e=bM (eP #[bU,.iface 48 k])):WJ w k l e w':=⟨Y,fun h=>absurd h Z,fun _=>by rw[pz Z];exact X⟩
theorem WL{d:aI}(hx:x<36)(hF:fZ d)(E:aZ d N)(w:aK)(h:Dw w g S d):
  Calls prog 169 #[aY g,.string (bP x)] w (WJ w (d.CX x) (d.file x).data):=by
 obtain⟨U,D⟩:=aV (Kz hx w h) (fun n=>(E.DZ n).2.1);obtain⟨M,h⟩:=h;have u:=h.box.c6;have J:=h.box.c1;have H:=h.box.c2;have I:d.there x=0→d.at_ x<d.all:=fun e=>(PZ e hF).1
 have T:d.at_ x=(d.names x).getD 0:=rfl;have Z:=ay (fun w' b (hm:pK Az w' b (LH d.names))=>NW hm hx);rw[←T]at Z;unfold aI.CX;obtain⟨Bx,R⟩:∃B,bP x=B:=⟨_,rfl⟩;rw[R]at U Z ⊢;clear R T;cases t:d.down with
 |true=>
  rw[t]at u;rw[aF rfl];clear h I;go_enter func169,ntmps169;go_wp2_with fail;refine U.aQ ?_;rintro s rfl;go_wp2;go_ret2;exact WJ.no bn (aU _ _) rfl
 |false=>
  rw[t]at u;rw[au (show¬(false=true) by decide)]
  by_cases V:d.there x=0
  ·have G:=I V
   rw[V];rw[V,show eV 0=iI from rfl]at U;have Q:d.file x=dh d.all (d.at_ x):=rfl;rw[Q];generalize d.at_ x=n at*;have i:=Z w _ h.names;have O:=Z w.drew _ (h.names.keep (aU _ _).drew);have f:=fun o=>Z (w.alloc o) _ (h.names.keep (aJ w o))
   have L:=fun o=>Z ((w.alloc o).drew) _ (h.names.keep (aJ w o).drew)
   obtain⟨a,r,F,-,-⟩:=LU h G;rw[r]at J;have qa:(n:Int)<(d.all.length:Nat):=aj
   have HO:=ay (h.fl n G).1;have Y:=(h.fl n G).1.len;have C:=D n;rw[Y]at C;have z:=ay h.names;generalize(M.ms.getD n default).A=q at*;generalize(M.ms.getD n default).n=p at*;generalize(M.ms.getD n default).c=m at*;have k1:∀o,aN (w.alloc o) g 1 (aG a d.all M.c):=fun o=>aC J (aJ w o)
   have k2:∀o,aN (w.alloc o) g 2 (.map (some M.nb)):=fun o=>aC H (aJ w o)
   have k3:∀o,aN (w.alloc o) a (n*2) (aG q p m):=fun o=>aC F (aJ w o)
   change Hid _ at Y;clear h I V Q r;go_enter func169,ntmps169;go_wp2_with fail;refine U.aQ ?_;rintro s rfl;go_wp2_with fail
   go_region_held3(fun W=>aN W g 1 (aG a d.all M.c)∧aN W g 2 (.map (some M.nb))∧aN W a (n*2) (aG q p m)∧(Instr.lookup 107 (.map (some M.nb)) (.string Bx) false).run prog W= .ok n W)
    (first|exact⟨J,H,F,O⟩|exact⟨k1 _,k2 _,k3 _,L _⟩|exact⟨aC J X,aC H X,aC F X,Z _ _ (z.keep X)⟩|fail)
    (first|(refine abo PS (l:=[]) kE (.tmp 20) (.tmp 33) kE kE ((dX.empty PS w w (bC _)).drew) kE ((HO.lb.e).keep (aJ w _).drew) (by show(_+_)*1≤_;omega) bK aj ?_;intro B1 b1 w8 j P y K;have X:aP w w8:=((aJ w _).drew).trans P)|fail)
   all_goals(
    have v:=ay j.ownB;change Hid _ at X;clear j P y K;go_wp2_with fail;go_ret2;have o:=v.out;rw[dI]at o ⊢;exact⟨X,fun _=>⟨B1,b1,by rw[Y];rfl,by rw[Y];exact o⟩,fun e=>absurd rfl e⟩)
  ·rw[pz V]at U
   generalize d.there x=k at*;change Hid _ at V;clear h I;go_enter func169,ntmps169;go_wp2_with fail;refine U.aQ ?_;rintro s rfl;go_wp2_with fail;go_ret2;exact WJ.no V (aU _ _) rfl
section
open Go.Sort
section
variable{α:Type}[Inhabited α]{enc:α→cO}
theorem agf{Z:Array cO}{Y:List α}(W:w.heap[g]? =some (.cells Z e (0,0)))(ht:Z.toList.take Y=Y.map enc):Holds enc w g 0 Y.toArray:=by
 intro j U;have X:j<Y:=by simpa using U
 refine⟨?_,by simp[World.frozen?,W]⟩;have V:(Z.toList.take Y)[j]? =(Y.map enc)[j]? :=by rw[ht]
 rw[kW X]at V;simp only[World.cell?,W,dI];simp only[Option.isSome_none,Bool.false_eq_true,rJ];rw[←Array.getElem?_toList,V];simp[X]
theorem aix{os:Array Obj}{Z:Array cO}{fr:Nat × Nat}(d:Array α)(Y:w.heap[g]? =some (.cells Z e fr)):
  (grow (putRow enc (Sort.ahead w n) g 0 d) os).heap[g]? =some (.cells (putCells enc 0 d Z) e fr):=by
 have X:=(lN.1 Y).1;rw[heap_grow_old _ _ (by simpa using X)];simp[putRow,mapBlock,Sort.ahead,Array.getElem?_modify,Y,onCells]
theorem agh{os:Array Obj}(d:Array α):w.grownBy (grow (putRow enc (Sort.ahead w n) g 0 d) os) (some g):=by
 refine⟨rfl,rfl,rfl,bK,fun k Y Z=>?_⟩;rw[heap_grow_old _ _ (by simpa using Y)];have:g≠k:=fun e=>Z (by rw[e])
 simp[putRow,mapBlock,Sort.ahead,Array.getElem?_modify,this]
theorem aiy(Z:Array cO)(Y:List α)(h:Y.length≤Z.size):(putCells enc 0 Y.toArray Z).toList.take Y=Y.map enc:=by
 apply List.ext_getElem?;intro j
 by_cases X:j<Y
 ·rw[kW X,Array.getElem?_toList]
  simp[putCells,X,(aj:j<Z.size)]
 ·rw[List.getElem?_take_eq_none aj,IU jy]
theorem abO{F:FuncId}{V:List α}(h:w.ownsRow base e 1 (aG A n c) n (V.map enc))
  (h0:∀(p:dK) (X:Nat),Calls prog F #[aG p 0 X] w fun e W=>e=bM (eP #[])∧W=w)
  (h1:∀blk X,Holds enc w blk 0 V.toArray→blk<w→Calls prog F #[aG blk V X] w fun e W=>e=bM (eP #[])∧∃(n:Nat) (K:Array Obj) (Y:List α),W=grow (putRow enc (Sort.ahead w n) blk 0 Y.toArray) K∧Y.Perm V):
  Calls prog F #[aG A n c] w fun T W=>T=bM (eP #[])∧∃Y,List.Perm Y V∧W.ownsRow base e 1 (aG A n c) n (Y.map enc)∧bQ (In A) w W:=by
 have S:V=n:=by have:=h.1;simpa using this
 rcases h.2 with⟨J,rfl⟩|⟨g,X,Q,J,P,R,O,N,M,Z⟩
 ·refine(h0 A c).mono ?_
  rintro T W ⟨rfl,rfl⟩;exact⟨rfl,V,List.Perm.refl _,h,bQ.refl _ _⟩
 ·injection J with H E G
  subst H;subst G;have L:=(lN.1 R).1;rw[lC]at Z;have:=h1 g c (agf R (by rw[S];exact Z)) L;rw[S]at this;refine this.mono ?_;rintro T W ⟨rfl,k,K,Y,rfl,I⟩;have U:Y=n:=by rw[I.length_eq,S]
  refine⟨rfl,Y,I,⟨by simp[U],.inr ⟨g,c,_,rfl,P,aix _ R,O,N,by simp[putCells,M],?_⟩⟩,bQ.xB (agh _) (fun i _ e=>by injection e with e;exact⟨_,rfl,e.symm⟩)⟩;rw[lC,←U];exact aiy Q Y aj
end
def aaf:tJ Nat where
 S:=121
 T:=9
 k:=1
 bytes:=16
 z:=.string ⟨#[]⟩
 enc:=fun x=>[.string (bP x)]
 und:=underlying121
 info:=aW
 zs:=rfl
 pos:=bn
 hk:=fun _=>rfl
 one:=fun a u Z=>by simp at Z;subst Z;rfl
theorem abP(l:List Nat):aaf.flat l=(l.map wV).map Go.Proofs.encStr:=by
 rw[List.map_map];exact flatMap_one _ l
def aag(s:List UInt8):Nat:=((List.range 36).find? fun x=>wV x==s).getD 0
theorem abQ:∀x,x<36→aag (wV x)=x:=bn
theorem aiz{α β:Type}{f:α→β}{g:β→α}{l:List α}{Z:List β}(X:∀x∈l,g (f x)=x)(h:Z.Perm (l.map f)):Z=(Z.map g).map f∧(Z.map g).Perm l:=by
 refine⟨?_,?_⟩
 ·rw[List.map_map]
  conv=>lhs;rw[←List.map_id Z]
  refine rQ fun s W=>?_
  obtain⟨x,Y,rfl⟩:=FH.1 (h.mem_iff.1 W);show f x=f (g (f x));rw[X x Y]
 ·have:=h.map g
  rw[List.map_map]at this;rwa[show l.map (g ∘ f)=l from(rQ (fun x Y=>X x Y)).trans (List.map_id l)]at this
theorem agi{l:List Nat}(S:∀x∈l,x<36)(I:n≤1000000)(w:aK)(h:dX aaf w base A n c l):
  Calls prog 92 #[aG A n c] w fun e X=>e=bM (eP #[])∧∃V,List.Perm V l∧dX aaf X base A n c V∧bQ (In A) w X:=by
 have U:=h.row;have Y:=h.len;rw[abP]at U;refine(abO U (fun p Z=>AnyM.slices_Sort_string_none aew p Z w) fun W Z R Q=>?_).mono ?_
 ·refine(AnyM.slices_Sort_string aew W 0 Z _ w R Q (by rw[fJ];omega)).aQ ?_
  rintro X ⟨k,P,rfl⟩;exact⟨rfl,k,P,_,rfl,List.mergeSort_perm _ _⟩
 ·rintro e X ⟨rfl,O,N,M,L⟩
  obtain⟨K,T⟩:=aiz (g:=aag) (fun x J=>abQ x (S x J)) N;refine⟨rfl,O.map aag,T,⟨by rw[T.length_eq,Y],?_⟩,L⟩;rw[abP,←K];exact M
theorem agj(M:n≤1000000)(w:aK)(h:dX Ib w base A n c l):
  Calls prog 88 #[aG A n c] w fun e X=>e=bM (eP #[])∧∃V,List.Perm V l∧dX Ib X base A n c V∧bQ (In A) w X:=by
 have U:=h.row;have Y:=h.len;rw[QC]at U;refine(abO U (fun p Z=>AnyM.slices_Sort_int_none aev p Z w) fun W Z S R=>?_).mono ?_
 ·refine(AnyM.slices_Sort_int aev W 0 Z _ w S R aj).aQ ?_
  rintro X ⟨k,Q,rfl⟩;exact⟨rfl,k,Q,_,rfl,List.mergeSort_perm _ _⟩
 ·rintro e X ⟨rfl,P,T,O,N⟩
  exact⟨rfl,P,T,⟨by rw[T.length_eq,Y],by rw[QC];exact O⟩,N⟩
end
structure NmR(w:World)(base:Nat)(d:aI)(A:Option Addr)(n c:Nat)(l:List Nat):Prop where
 row:dX aaf w base A n c l
 names:Es d l
 lt:∀x∈l,x<36
 len:n≤36
theorem dX.grown{α:Type}{R:tJ α}{l:List α}(h:dX R w base A n c l)(Z:w.grownBy w' (some r))(X:r<base):dX R w' base A n c l:=
 h.dH (bQ.xB (S:=fun i=>i=r) Z (fun i _ e=>by injection e)) (fun i Y e=>by have:=(h.dN Y).1;omega)
theorem Jm{d:aI}(hF:fZ d)(w:aK)(h:Dw w g S d):
  Calls prog 56 #[aY g] w fun e q=>∃A n c l,e=bM (aG A n c)∧NmR q w d A n c l∧aP w q:=by
 obtain⟨M,h⟩:=h;have x2:=h.box.c2;have HM:=ay h.names;have qj:M.nb<w:=h.lt _ h.sn
 have o:=ay (fun x (O:(d.names x).isSome=true)=>by
  obtain⟨n,hn⟩:=Hu.1 O;exact(hF.names x n hn).2)
 clear h;go_enter func56,ntmps56;go_wp2_with(refine NU Az w rfl _ _ _ rfl underlying107 rfl HM ?_;intro w1 cnt hr K qk);have m:=ay (bQ.xB (S:=fun _=>False) K (fun i _ e=>by cases e));change Hid _ at hr;clear K;go_wp2;go_simp
 go_loopg [3,4] cnt (fun k v3 v4 wr=>∃(p:Nat→Bool) (B:dK) (b:Nat) (l:List Nat),PU Az wr M.nb w (LH d.names) p k∧v3=aG B l b∧dX aaf wr (w.heap.size+1) B l b l∧Ci (fun x=>(d.names x).isSome) p 36 l∧aP w wr∧w.heap.size+1≤wr.heap.size)
 case atStart=>exact⟨_,none,0,[],by have:=hr.out;simp only[NV]at this;exact this,rfl,dX.nil _ _,Ci.start _ _,m.below (bC _) (fun i e=>e.elim),aj⟩
 case round=>
  obtain⟨p,B,b,l,R,rfl,own,Z,Y,ql⟩:=hrel;have C:=Rl Z.nodup Z.lt;change Hid _ at R Y own Z;clear x2;rcases D8 gk with h0|h0
  ·go_upto_region 6 with(refine Gg Az _ rfl _ rfl rfl R (fun _ z=>?_) (fun x v q V _ _ _ _ W _ _ _=>absurd W aj))
   obtain⟨J,U⟩:=Z.fin z;have W:=Z.lt;have j:=ay (agi W aj wr (own.lower (gW _)));change Hid _ at J U;clear W;go_wp2_with fail;refine j.aQ ?_;rintro N ⟨l2,r,o2,I⟩;have f:=ay (eH Y I Y.size (fun i L=>by have:=(own.dN L).1;omega));change Hid _ at r o2;clear I;go_wp2;go_ret;refine⟨B,l.length,b,l2,rfl,⟨o2,⟨r.nodup_iff.2 J,fun x=>?_⟩,fun x O=>?_,C⟩,f⟩
   ·rw[r.mem_iff,U]
    exact⟨fun k=>k.2,fun k=>⟨o x k,k⟩⟩
   ·exact Z.lt x (r.mem_iff.1 O)
  ·go_upto_region 4 with(refine Gg Az _ rfl _ rfl rfl R (fun e _=>absurd e aj) ?_;intro x v N V O a H T y X u G)
   have qh:(Instr.entry (aY w)).run prog N= .ok (eP #[.string (bP x),v]) N:=G;obtain⟨F,t,qa⟩:=dB (Y.trans (grown_below X (bC _) Y.size)) T ((own.grown X (Nat.lt_succ_self _)).alloc (aS #[.string (bP x)] 9));have E:(d.names x).isSome=true:=by rw[←NV,H];rfl
   have s:=ay (Z.next O a E);have qi:w.heap.size+1≤N.heap.size:=aj
   clear T X H E G u;go_wp2_with(at_builtin;refine BA aaf (v:=x) rfl _ _ rfl rfl qa rfl (lV _ _) (by show(_+1)*16≤_;omega) jy aj ?_;intro B7 b7 w7 o7 qe D qf);obtain⟨qg,Q⟩:=aV o7 (((bQ.refl (In B) N).alloc (aS #[.string (bP x)] 9)).trans D);have qm:=Q.size;clear o7 qe D qf;go_wp2;go_roundg V
   case measure=>exact y
   case rel=>
    have P:∀i,In B i→w.heap.size+1≤i:=fun i L=>(own.dN L).1
    refine⟨_,B7,b7,l++ [x],t.dH Q (fun e=>by have:=P _ e;omega) (fun e=>by have:=P _ e;omega),by rw[mG];rfl,by rw[mG];exact qg,s,eH F Q F.size (fun i L=>by have:=P i L;omega),aj⟩
theorem alZ{α:Type}{X:Array Oper}{K:Act→aK→Prop}(R:tJ α)(W:o.guard=none)(s x:Operand)
  (T:o.op= .call {callee:=.builtin .append,args:=#[s,x],argTypes:=#[R.S,R.S]})
 {r:List α} (P:a.eval s=aG A 0 c) (V:dX R w base A 0 c [])
   (hx:a.eval x=aG B m c') (O:Qo R w B m r) (N:m*R.bytes≤140737488355328) (M:base≤w) (H:m≤1000000000)
   (h:∀B Z Y,dX R Y base B m Z r→Below base w Y→bQ (In A) w Y→(∀i,In B i→In A i∨w≤i)→K (a.put o.dst (aG B m Z)) Y):
   if Region.wanted o (yielded X a.tmps)=true then Oper.wp prog o a w K Q else E:=by
  refine abo R W s x T P V hx O (by rw[dI];exact N) M aj fun B Z Y U L J I=>?_
  rw[dI]at U ⊢;exact h B Z Y U L J I
structure FiM where
 x:Nat
 A:dK
 n:Nat
 c:Nat
 s:Nat
instance:Inhabited FiM:=⟨⟨0,none,0,0,0⟩⟩
def fiR:tJ FiM where
 S:=42
 T:=45
 k:=3
 bytes:=48
 z:=.agg #[.string ⟨#[]⟩,bU,aB 0]
 enc:=fun m=>[.string (bP m.x),aG m.A m.n m.c,aB m.s]
 und:=underlying42
 info:=aW
 zs:=rfl
 pos:=bn
 hk:=fun _=>rfl
 one:=fun a u Z=>by simp at Z;rcases Z with rfl|rfl|rfl<;>rfl
structure FiL(w:World)(base:Nat)(d:aI)(A:Option Addr)(n c:Nat)(ms:List FiM):Prop where
 row:dX fiR w base A n c ms
 dat:∀m∈ms,OwnB w base m.A m.n m.c (d.file m.x).data∧m.s=(d.file m.x).safe∧m.x<36
theorem FiL.dH{w w':aK}{base n c:Nat}{d:aI}{A:dK}{ms:List FiM}{S:Nat→Prop}(h:FiL w base d A n c ms)(X:bQ S w w')(W:∀i,S i→i<base∨w≤i):FiL w' base d A n c ms:=
 ⟨h.row.dH X (fun i Z k=>by have:=h.row.dN Z;have:=W i k;omega),fun m Y=>⟨(h.dat m Y).1.dH X (fun i Z k=>by have:=(h.dat m Y).1.lt Z;have:=W i k;omega),(h.dat m Y).2⟩⟩
theorem FiL.keep{d:aI}{ms:List FiM}(h:FiL w base d A n c ms)(Z:aP w w'):FiL w' base d A n c ms:=h.dH (bQ.of_below (S:=fun _=>False) Z) (fun _ e=>e.elim)
theorem FiL.app{d:aI}{ms:List FiM}{v:FiM}(h:FiL w base d A n c ms)(Y:OwnB w base v.A v.n v.c (d.file v.x).data∧v.s=(d.file v.x).safe∧v.x<36)(V:dX fiR w' base B (n+1) cap (ms++ [v]))(U:bQ (In A) w w'):FiL w' base d B (n+1) cap (ms++ [v]):=by
 refine⟨V,fun m Z=>?_⟩;have X:∀m:FiM,OwnB w base m.A m.n m.c (d.file m.x).data→OwnB w' base m.A m.n m.c (d.file m.x).data:=fun m W=>W.dH U (fun i T e=>absurd ((W.ty T).one (h.row.ty e)) bn)
 rcases rH.1 Z with Z|Z
 ·exact⟨X m (h.dat m Z).1,(h.dat m Z).2⟩
 ·rw[iw.1 Z]
  exact⟨X v Y.1,Y.2⟩
theorem YK{d:aI}(hF:fZ d)(qi:aZ d N)(w:aK)(h:Dw w g S d):
  Calls prog 27 #[aY g] w fun e u=>∃A n c f,e=bM (aG A n c)∧FiL u w d A n c f∧Es d (f.map FiM.x)∧n≤36∧aP w u:=by
 obtain⟨qy,HK⟩:=aV (Jm hF w h) (fun u (hw:aP w u)=>h.keep (bQ.of_below hw) (fun _ _ h=>h))
 have qz:Hid (∀x,(d.names x).isSome=true→d.at_ x<d.all):=ay (fun x hx=>by
  obtain⟨n,hn⟩:=Hu.1 hx;have:d.at_ x=n:=by unfold aI.at_;rw[hn];rfl
  rw[this];exact(hF.names x n hn).1)
 have qA:=ay (fun n=>(qi.DZ n).2.1);clear h hF qi;go_enter func27,ntmps27;go_wp2_with fail;refine qy.mono ?_;rintro e w1 ⟨A,n,c,l,rfl,⟨J,V,O,qv⟩,T⟩;obtain⟨qw,qB,r⟩:=dB (fun u (hw:aP w1 u)=>J.keep hw) O J.len;change Hid _ at V T;clear J O;go_wp2_with fail
 go_loopg [3,5,6,10] n (fun k v3 v5 v6 qC wr=>∃(j:Nat) (B:dK) (b:Nat) (f:List FiM),j+k=n∧qC=j∧v3=aG B j b∧FiL wr w1 d B j b f∧f.map FiM.x=l.take j∧aP w1 wr)
 case atStart=>exact⟨0,none,0,[],aj,rfl,rfl,⟨dX.nil _ _,fun m hm=>by cases hm⟩,rfl,aU _ _⟩
 case round=>
  obtain⟨j,B,b,f,hj,rfl,rfl,R,Q,X⟩:=hrel;obtain⟨D,qj⟩:=aV R Q;change Hid _ at X;clear R Q
  by_cases O:j<n
  ·have qK:(j:Int)<(n:Int):=aj
   obtain⟨q,o,rfl,hc⟩:=(qw _ X).ls.at_ O;have qk:=hc 0 _ rfl;have qa:j<l:=by rw[r];exact O
   obtain⟨x,hx⟩:∃x,l[j]=x:=⟨_,rfl⟩
   have c0:aN wr q (o+j) (.string (bP x)):=by
    have e:=hx;have:=qk;simp only[aaf,lC,dW]at this;rw[e]at this;exact this
   have qD:Hid (l.take (j+1)=l.take j++ [x]):=ay (by rw[←hx];exact BH qa);have qe:x∈l:=by rw[←hx];exact lS qa
   have I:=qB x qe;have ql:=(V.mem x).1 qe;have qm:=qz x ql;obtain⟨M,h⟩:=HK wr (T.trans (X.mono T.size));have C:=ay (fun u b (hm:pK Az u b (LH d.names))=>NW hm I);have e0:(d.names x).getD 0=d.at_ x:=rfl;rw[e0]at C;have x1:=h.box.c1;have x2:=h.box.c2;obtain⟨a,hA,y0,y1,-⟩:=LU h qm;rw[hA]at x1;have HO:=ay (h.fl _ qm);have qf:d.file x=dh d.all (d.at_ x):=rfl;have qo:=ay h.names;generalize d.at_ x=m at*;have qN:(m:Int)<(d.all.length:Nat):=aj
   have p:=HO.1.len;have qE:=qA m;rw[p]at qE;generalize(M.ms.getD m default).A=FA at*;generalize(M.ms.getD m default).n=F at*;generalize(M.ms.getD m default).c=FC at*;generalize(M.ms.getD m default).s=E at*;obtain⟨Bx,qg⟩:∃B,bP x=B:=⟨_,rfl⟩;rw[qg]at c0 C;change Hid _ at qf p qg I;clear h hx qe ql e0 qk hc qa hA;have G:=ay (fun W (t:aP wr W)=>And.intro (aC x1 t) (And.intro (aC x2 t) (And.intro (aC y0 t) (And.intro (aC y1 t) (C W _ (qo.keep t))))));clear C;go_wp2_with fail
   go_region_held3(fun W=>aN W g 1 (aG a d.all M.c)∧aN W g 2 (.map (some M.nb))∧aN W a (m*2) (aG FA F FC)∧aN W a (m*2+1) (aB (E:Nat))∧(Instr.lookup 107 (.map (some M.nb)) (.string Bx) false).run prog W= .ok m W)
    ((refine G _ ?_;repeat' (first|exact aU _ _|with_reducible(refine Below.drew ?_)|with_reducible(refine Below.alloc ?_ ?_ _)|with_reducible(refine Below.setCell ?_ ?_ _)|exact bC _|(simp;done)))) (fail)
   all_goals(
    obtain⟨P,z⟩:=kF ((wr.alloc (aS #[aG FA F FC,E] 114)).drew);have L:aP wr P:=by rw[z];exact(aJ wr _).drew
    have Z:bF P wr 114 #[aG FA F FC,E]:=by rw[z];exact(bF.new wr _ _).drew
    rw[←z];obtain⟨qF,qq⟩:=aV (HO.1.keep L) (D.keep L);have z0:=Z.c0;have z1:=Z.c1;have qh:=ay (fun W (t:aP P W)=>And.intro (aC z0 t) (aC z1 t));have qr:¬In B wr:=fun e=>Nat.lt_irrefl _ (D.row.dN e).2
    have U:w1.heap.size≤P:=dD X.size L.size;change Hid _ at L U;clear z Z x1 x2 y0 y1 G qo D;go_wp2_with fail
    go_region_held3(fun W=>aN W wr 0 (aG FA F FC)∧aN W wr 1 (aB (E:Nat)))
     (first|exact qs|(refine qh _ ?_;repeat' (first|exact aU _ _|with_reducible exact Y|with_reducible(refine Below.drew ?_)|with_reducible(refine Below.alloc ?_ ?_ _)|with_reducible(refine Below.setCell ?_ ?_ _)|exact bC _|exact Y.size|(simp;done)))|fail)
     (first
       |(refine alZ PS kE (.tmp 28) (.tmp 30) kE kE ((dX.empty PS P P (bC _)).drew) kE ((qF.lb.e).keep (aJ P _).drew) (by show _*1≤_;omega) bK aj ?_;intro B6 b6 w6 o6 qt qG qL;have Y:aP P w6:=((aJ P _).drew).trans qt)
       |(refine RX fiR (v:=⟨x,B6,F,b6,E⟩) kE (.tmp 26) (.tmp 35) kE kE ((qq.row.keep Y).alloc _) kE (by show _=some (Obj.cells #[.string (bP x),.slice B6 F b6,E] 45 (0,0));rw[qg];exact lV _ _) (by show(_+1)*48≤_;omega) (by have:=U.out;have:=Y.size;simp;omega) aj ?_;intro B7 b7 w7 o7 qH K qM;have qs:=And.intro (bG (qh _ (Y.alloc Y.size _)).1 K qr) (bG (qh _ (Y.alloc Y.size _)).2 K qr))
       |fail)
    have y:=Y.alloc Y.size (aS #[.string Bx,aG B6 F b6,E] 45);have H:=qq.keep y;have qu:=(o6.ownB.lower U).keep (aJ w6 (aS #[.string Bx,aG B6 F b6,E] 45));obtain⟨qI,qJ⟩:=aV (H.app (v:=⟨x,B6,F,b6,E⟩) ⟨by rw[qf];exact qu,by rw[qf];exact HO.2,I⟩ o7 K) (eH (X.trans ((L.mono X.size).trans (y.mono U))) K (dD U y.size) (fun i hi=>(H.row.dN hi).1));clear y H qu o7 qH K o6 qt qG Y qs z0 z1;go_wp2_with fail;go_roundg(gk-1)
    case measure=>omega
    case rel=>exact⟨j+1,B7,b7,_,aj,fA,rfl,qI,by rw[qD,gG,qj];rfl,qJ⟩)
  ·obtain rfl:j=n:=aj
   have Q:=qj.out;rw[wO (by rw[r];exact bC _)]at Q;change Hid _ at Q;go_wp2_with fail;go_ret;have R:=D.out;exact⟨B,j,b,f,rfl,⟨R.row.lower T.size,fun m hm=>⟨(R.dat m hm).1.lower T.size,(R.dat m hm).2⟩⟩,by rw[Q];exact V,qv,T.trans (X.mono T.size)⟩
theorem pick_any(S:∀v∈l,-9223372036854775808≤v∧v≤9223372036854775807)(R:m≤1000000000)(w:aK)(W:Ls w A n l):
  Calls prog 50 #[aG A n c,i,m] w fun e V=>(∃v:Nat,e=bM v∧v≤m)∧w=V:=by
 by_cases U:i<n
 ·obtain⟨b,o,rfl,Q⟩:=W.at_ U
  have Z:(i:Int)<(n:Int):=aj
  generalize l.getD i 0=v at*
  by_cases X:v<0
  ·go_enter func50,ntmps50
   go_wp2;go_ret;exact⟨⟨0,rfl,dS _⟩,rfl⟩
  ·have T:wrap64 ((m:Int)+1)=(m:Int)+1:=U3 _ aj
   obtain⟨r,Y⟩:∃r:Nat,Int.tmod v ((m:Int)+1)=(r:Int)∧r≤m:=by
    obtain⟨u,rfl⟩:=D6 (aj:0≤v);refine⟨u%(m+1),?_,?_⟩
    ·have:=Int.ofNat_tmod u (m+1)
     simpa using this.symm
    ·have:=Nat.mod_lt u (aj:0<m+1);omega
   go_enter func50,ntmps50;go_wp2;go_ret;exact⟨⟨r,by first|rw[Y.1];rfl|rfl,Y.2⟩,rfl⟩
 ·have Z:(n:Int)≤(i:Int):=aj
  go_enter func50,ntmps50;go_wp2;go_ret;exact⟨⟨0,rfl,dS _⟩,rfl⟩
theorem agl{d:aI}(hF:fZ d)(hN:d.steps.length≤900000)(w:aK)(h:Dw w g S d):
  Calls prog 51 #[aY g] w fun e E=>∃A n c l,e=bM (aG A n c)∧dX Ib E w A n c l∧(∀v∈l,∃i:Nat,v=(i:Int)∧i<d.all)∧n≤900036∧aP w E:=by
 obtain⟨M,h⟩:=h;have x3:=h.box.c3;have HM:=ay h.safe;have qG:M.sb<w:=h.lt _ h.ss;obtain⟨HX,qa,qo,qq,HG⟩:=rG (fun E (hb:aP w E)=>h.box.keep hb) (fun E (hb:aP w E)=>h.steps.keep hb) hF.safe hF.steps (show g<w from h.lt g h.sg);clear h hF;go_enter func51,ntmps51;go_wp2_with(refine NU Az w rfl _ _ _ rfl underlying107 rfl HM ?_;intro w1 cnt hr qe qH);have qr:=ay (bQ.xB (S:=fun _=>False) qe (fun i _ e=>by cases e));change Hid _ at hr;clear qe;go_wp2;go_simp
 go_loopg [3,5] cnt (fun k v3 v5 wr=>∃(gs:Nat→Bool) (B:dK) (b:Nat) (t:List Nat) (l:aO),PU Az wr M.sb w (LH d.safe) gs k∧v3=aG B t b∧dX Ib wr (w.heap.size+1) B t b l∧(∀v∈l,∃i:Nat,v=(i:Int)∧i<d.all)∧Ci (fun x=>(d.safe x).isSome) gs 36 t∧aP w wr∧w.heap.size+1≤wr.heap.size)
 case atStart=>exact⟨_,none,0,[],[],by have:=hr.out;simp only[NV]at this;exact this,rfl,dX.nil _ _,(fun v T=>by cases T),Ci.start _ _,qr.below (bC _) (fun i e=>e.elim),aj⟩
 case round=>
  obtain⟨gs,B,b,t,l,K,rfl,own,O,X,U,qI⟩:=hrel;have qD:t.length≤36:=Rl X.nodup X.lt;change Hid _ at K U own X O;clear x3;rcases D8 gk with h0|h0
  ·go_upto_region 6 with(refine Gg Az _ rfl _ rfl rfl K (fun _ _=>?_) (fun x v E G _ _ _ _ J _ _ _=>absurd J aj))
   have hX:=HX wr U;have x4:=hX.c4;have C:=ay (own.lower (gW _));generalize t=tn at*;clear hX K X;obtain⟨MB,qf⟩:∃B,M.B=B:=⟨_,rfl⟩;rw[qf]at x4 qa;clear qf;go_wp2
   go_loopg [3,7,26] d.steps (fun k v3 v7 qs wy=>∃(j n:Nat) (p:dK) (b2:Nat) (m:aO),j+k=d.steps∧qs=j∧v3=aG p n b2∧dX Ib wy w p n b2 m∧(∀v∈m,∃i:Nat,v=(i:Int)∧i<d.all)∧n≤36+j∧aP w wy)
   case atStart=>exact⟨0,_,B,b,l,aj,rfl,rfl,C,O,aj,U⟩
   case round=>
    obtain⟨j,n,p,b2,m,hj,rfl,rfl,W,V,qJ,Y⟩:=hrel;change Hid _ at W Y V;clear x4
    by_cases J:j<d.steps
    ·have qE:(j:Int)<(d.steps.length:Int):=aj
     obtain⟨q,o,rfl,hc⟩:=(qa _ Y).ls.at_ J;have c0:=hc 0 _ rfl;have c1:=hc 1 _ rfl;have c2:=hc 2 _ rfl;have c3:=hc 3 _ rfl;have qt:=qq d.steps[j] (lS J);simp only[stR,dW]at c0 c1 c2 c3;generalize d.steps[j]=s at*;obtain⟨sk,sn,st,L⟩:=s;dsimp only at*;have qK:=ay Y.size
     by_cases hk:sk=0
     ·subst hk
      have qu:=qt rfl;go_upto_region 10 with(fail)
      obtain⟨W5,I⟩:=kF (wr.alloc (aS (stC ⟨0,sn,st,L⟩) 116));have Q:aP wr W5:=by rw[I];exact aJ wr _
      have Z:bF W5 wr 116 (stC ⟨0,sn,st,L⟩):=by rw[I];exact bF.new wr _ _
      change Code.wp _ _ _ _ (wr.alloc (aS (stC ⟨0,sn,st,L⟩) 116));rw[←I];have z3:=Z.c3;obtain⟨qv,H⟩:=aV ((W.keep Q).alloc (aS #[L] 3)) (Y.trans (Q.mono Y.size));clear I Q Z c0 c1 c2 c3;go_wp2_with(at_builtin;refine BA Ib (v:=(L:Int)) rfl _ _ rfl rfl qv rfl (lV _ _) (by show(_+1)*8≤_;omega) (by have:=H.size;simp;omega) aj ?_;intro B7 b7 w7 f z P y);have qw:=ay (eH (H.alloc H.size (aS #[L] 3)) P (by have:=H.size;simp;omega) (fun i D=>(W.dN D).1));change Hid _ at f;clear z P y z3;go_wp2;go_roundg(gk-1)
      case measure=>omega
      case rel=>
       refine⟨j+1,n+1,B7,b7,m++ [(L:Int)],aj,fA,rfl,f,fun v T=>?_,aj,qw⟩;rcases rH.1 T with T|T
       ·exact V v T
       ·rw[iw.1 T];exact⟨L,rfl,qu⟩
     ·have qL:¬((sk:Int)=0):=aj
      have qM:((sk:Int)==0)=false:=by simpa using hk
      go_wp2;go_roundg(gk-1)
      case measure=>omega
      case rel=>
       have Q:=aJ wr (aS (stC ⟨sk,sn,st,L⟩) 116);exact⟨j+1,n,p,b2,m,aj,fA,rfl,W.keep Q,V,aj,Y.trans (Q.mono Y.size)⟩
    ·obtain rfl:j=d.steps:=aj
     have qy:=ay (agj aj wr W);go_wp2_with fail;refine qy.aQ ?_;rintro w3 ⟨l3,hp,o3,qg⟩;have qz:=ay (eH Y qg Y.size (fun i D=>(W.dN D).1));change Hid _ at hp o3;clear qg;go_wp2;go_ret;exact⟨p,n,b2,l3,rfl,o3,fun v T=>V v (hp.mem_iff.1 T),aj,qz⟩
  ·go_upto_region 4 with(refine Gg Az _ rfl _ rfl rfl K (fun e _=>absurd e aj) ?_;intro x v w2 G hx qA R F qj N qk qN)
   obtain⟨n,a⟩:∃n,d.safe x=some n:=by
    unfold LH at R;cases a:d.safe x with
    |none=>rw[a]at R;cases R
    |some n=>exact⟨n,rfl⟩
   have qB:=(qo x n a).1;obtain rfl:v= aB n:=by unfold LH at R;rw[a]at R;injection R with e;exact e.symm
   obtain⟨qh,ql,C⟩:=dB (U.trans (grown_below N (bC _) U.size)) F ((own.grown N (Nat.lt_succ_self _)).alloc (aS #[n] 3));have qi:(d.safe x).isSome=true:=by rw[a];rfl
   have qm:=ay (X.next hx qA qi);have qF:w.heap.size+1≤w2.heap.size:=aj
   clear F N R qi qk;go_wp2_with(at_builtin;refine BA Ib (v:=(n:Int)) rfl _ _ rfl rfl C rfl (lV _ _) (by show(_+1)*8≤_;omega) jy aj ?_;intro B7 b7 w7 f z P y);obtain⟨qC,u⟩:=aV f (((bQ.refl (In B) w2).alloc (aS #[n] 3)).trans P);have qO:=u.size;clear f z P y;go_wp2;go_roundg G
   case measure=>exact qj
   case rel=>
    have r:∀i,In B i→w.heap.size+1≤i:=fun i D=>(own.dN D).1
    refine⟨_,B7,b7,t++ [x],l++ [(n:Int)],ql.dH u (fun e=>by have:=r _ e;omega) (fun e=>by have:=r _ e;omega),by rw[mG];rfl,by rw[mG];exact qC,fun v T=>?_,qm,eH qh u qh.size (fun i D=>by have:=r i D;omega),aj⟩;rcases rH.1 T with T|T
    ·exact O v T
    ·rw[iw.1 T];exact⟨n,rfl,qB⟩
theorem aez{a v:Nat}{d:aI}{M:DkM}(h:V8 w g S d M)(hi:i<d.all)(R:M.A=a)(Q:(M.ms.getD i default).s+v≤(M.ms.getD i default).n)(U:bQ (fun k=>k=a) w w')
  (P:dX flR w' 0 M.A d.all M.c (M.ms.set i ⟨(M.ms.getD i default).A,(M.ms.getD i default).s+v,(M.ms.getD i default).c,(M.ms.getD i default).s+v⟩)):
  Dw w' g S (d.yO i fun f=>FD f v)∧bQ S w w':=by
 have Z:In M.A a:=⟨(aH a 0),R,rfl⟩;have W:=h.sep.AF a i hi Z;have T:=(h.fl i hi).2;have O:=((h.fl i hi).1.dH U (fun k X e=>W (e▸X))).cut Q
 have:=WH (m:=⟨(M.ms.getD i default).A,(M.ms.getD i default).s+v,(M.ms.getD i default).c,(M.ms.getD i default).s+v⟩) (F:=fun f=>FD f v) h hi (U.mono (fun k _ e=>Or.inl (e▸Z))) P
  (by show OwnB w' 0 _ _ _ ((dh d.all i).data.take ((dh d.all i).safe+v));rw[←T];exact O) (by show _=(dh d.all i).safe+v;rw[←T]) (fun k X=>Or.inl X)
 refine⟨?_,this.2⟩;obtain⟨N,Y⟩:=this.1;have V:(fun k=>S k∨In (⟨(M.ms.getD i default).A,(M.ms.getD i default).s+v,(M.ms.getD i default).c,(M.ms.getD i default).s+v⟩:FlM).A k)=S:=funext fun k=>propext ⟨fun e=>e.elim id (fun q=>h.sF i hi k q),Or.inl⟩
 rw[V]at Y;exact⟨N,Y⟩
theorem aiA{a:Nat}{d:aI}{M:DkM}(h:V8 w g S d M)(hi:i<d.all)(Y:M.A=a)(X:(M.ms.getD i default).s=(M.ms.getD i default).n)(W:aP w w1):
  Dw (w1.setCell ⟨a,i*2+1,none⟩ (aB ((M.ms.getD i default).n:Nat))) g S (d.yO i fun f=>FD f 0)∧bQ S w (w1.setCell ⟨a,i*2+1,none⟩ (aB ((M.ms.getD i default).n:Nat))):=by
 have Z:i<M.ms:=by rw[h.all.len];exact hi
 have U:M.ms.getD i default=M.ms[i]:=by rw[dG,fP Z];rfl
 have V:=h.all.keep W;rw[Y]at V
 have T:=V.store (i:=i) (j:=1) (a:=(⟨(M.ms.getD i default).A,(M.ms.getD i default).s+0,(M.ms.getD i default).c,(M.ms.getD i default).s+0⟩:FlM)) (v:=aB ((M.ms.getD i default).n:Nat)) Z bn (by
  rw[dW,←X];show [_,_]=_;rw[U]at X ⊢;show [Value.slice (M.ms[i]).A (M.ms[i]).s (M.ms[i]).c,_]=[Value.slice (M.ms[i]).A (M.ms[i]).n (M.ms[i]).c,_];rw[X])
 have:=aez (v:=0) h hi Y aj ((bQ.of_below W).trans (yF w1 a (i*2+1) _)) (by rw[Y];exact T);exact this
theorem aiB{a v:Nat}{d:aI}{M:DkM}(h:V8 w g S d M)(hi:i<d.all)(Y:M.A=a)(U:(M.ms.getD i default).s+v≤(M.ms.getD i default).n)(X:aP w w1):
  Dw ((w1.setCell ⟨a,i*2,none⟩ (.slice (M.ms.getD i default).A ((M.ms.getD i default).s+v:Nat) (M.ms.getD i default).c)).setCell ⟨a,i*2+1,none⟩ (aB (((M.ms.getD i default).s:Int)+(v:Int)))) g S (d.yO i fun f=>FD f v)∧
  bQ S w ((w1.setCell ⟨a,i*2,none⟩ (.slice (M.ms.getD i default).A ((M.ms.getD i default).s+v:Nat) (M.ms.getD i default).c)).setCell ⟨a,i*2+1,none⟩ (aB (((M.ms.getD i default).s:Int)+(v:Int)))):=by
 rw[show(((M.ms.getD i default).s:Int)+(v:Int))=(((M.ms.getD i default).s+v:Nat):Int)from(Int.natCast_add _ _).symm];have Z:i<M.ms:=by rw[h.all.len];exact hi
 have T:M.ms.getD i default=M.ms[i]:=by rw[dG,fP Z];rfl
 have W:=h.all.keep X;rw[Y]at W;have R:=W.store (i:=i) (j:=0) (a:=(⟨(M.ms.getD i default).A,(M.ms.getD i default).s+v,(M.ms.getD i default).c,(M.ms.getD i default).s⟩:FlM)) (v:=.slice (M.ms.getD i default).A ((M.ms.getD i default).s+v:Nat) (M.ms.getD i default).c) Z bn (by rw[T];rfl);have V:=R.store (i:=i) (j:=1) (a:=(⟨(M.ms.getD i default).A,(M.ms.getD i default).s+v,(M.ms.getD i default).c,(M.ms.getD i default).s+v⟩:FlM)) (v:=aB ((M.ms.getD i default).s+v:Nat)) (by rw[pG];exact Z) bn (by rw[List.getElem_set_self];rfl);rw[List.set_set]at V;exact aez (v:=v) h hi Y U ((bQ.of_below X).trans ((yF w1 a (i*2) _).trans (yF _ a (i*2+1) _))) (by rw[Y];exact V)
theorem abR(W:n≤c)(V:j≤n)(Z:aK):(Instr.slice 108 (aG B n c) none (some (aB (j:Int))) none).run prog Z= .ok (aG B j c) Z:=by
 rw[run_slice_h (P:=prog) (w:=Z) (t:=108) (a:=B) (len:=n) (cap:=c) (ht:=aW) (kh:=.i64) (h:=j) (h0:=aj) (h2:=aj)];have X:(sizeOf (prog.elem 108)).run prog Z= .ok 4 Z:=aW
 rw[X];show Result.ok (sliced _ _ _ _ _) _=_;unfold sliced
 by_cases Y:c=0
 ·subst Y
  simp
 ·rw[au aj]
  cases B<;>simp[Addr.add]
structure aiC(w0 wr:World)(g:Nat)(S:Nat→Prop)(d:aI)(b:List iD):Prop where
 dw:Dw wr g S {d with all:=b}
 cut:Cj d.all b
 safe:∀n,(dh b n).safe≤(dh b n).data.length∧(dh b n).data.length≤16777216
 dH:bQ S w0 wr
theorem aiC.step{w0 wr w':aK}{g i v:Nat}{S:Nat→Prop}{d:aI}{b:List iD}(h:aiC w0 wr g S d b)(Z:(dh b i).safe+v≤(dh b i).data)(h1:Dw w' g S {d with all:=b.modify i fun f=>FD f v})(h2:bQ S wr w'):aiC w0 w' g S d (b.modify i fun f=>FD f v):=by
 refine⟨h1,h.cut.step (h.safe i).1 Z,fun n=>?_,h.dH.trans h2⟩;rw[Ih];split
 ·rename_i e
  rw[e.1];show(dh b i).safe+v≤((dh b i).data.take ((dh b i).safe+v)).length∧((dh b i).data.take ((dh b i).safe+v)).length≤_;have:=(h.safe i).2;rw[xO];omega
 ·exact h.safe n
theorem agm{v:aK}{d:aI}{M:DkM}{f:lD}(h:V8 v g S d M)(hy:bQ (fun i=>i=M.sb) v w)(R:pK Az u w (LH f))(T:pK Az u M.sb (LH f))(Q:aP w u){e:aI}(P:e=⟨d.room,d.all,f,f,[],0,false⟩):
  Dw ((((((u.setCell ⟨g,2,none⟩ (.map (some M.sb))).setCell ⟨g,3,none⟩ (.map (some w))).setCell ⟨g,4,none⟩ (bU)).setCell ⟨g,5,none⟩ (aB 0)).setCell ⟨g,6,none⟩ (.bool false)).setCell ⟨g,7,none⟩ (aB 0)) g (fun i=>S i∨i=w) e∧
  bQ S v ((((((u.setCell ⟨g,2,none⟩ (.map (some M.sb))).setCell ⟨g,3,none⟩ (.map (some w))).setCell ⟨g,4,none⟩ (bU)).setCell ⟨g,5,none⟩ (aB 0)).setCell ⟨g,6,none⟩ (.bool false)).setCell ⟨g,7,none⟩ (aB 0)):=by
 subst P;have Y:=h.sep;have U:=hy.trans (bQ.of_below Q)
 have X:bQ (fun i=>i=g) u ((((((u.setCell ⟨g,2,none⟩ (.map (some M.sb))).setCell ⟨g,3,none⟩ (.map (some w))).setCell ⟨g,4,none⟩ (bU)).setCell ⟨g,5,none⟩ (aB 0)).setCell ⟨g,6,none⟩ (.bool false)).setCell ⟨g,7,none⟩ (aB 0)):=
  (((((yF u g 2 _).trans (yF _ g 3 _)).trans (yF _ g 4 _)).trans (yF _ g 5 _)).trans (yF _ g 6 _)).trans (yF _ g 7 _)
 have O:=hy.size;have N:w.heap.size<u:=R.lt;have J:g<v:=h.lt g h.sg;have L:M.sb<v:=h.lt _ h.ss;have V:=h.box.dH U (fun e=>Y.gs e)
 refine⟨⟨{M with nb:=M.sb,sb:=w.heap.size,B:=none,e:=0,dn:=0},(((((V.store 2 _).store 3 _).store 4 _).store 5 _).store 6 _).store 7 _,(h.all.dH U (fun i Z e=>Y.sA (e▸Z))).dH X (fun i Z e=>Y.gA (e▸Z)),fun i Z=>⟨((h.fl i Z).1.dH U (fun k W e=>Y.sF i Z (e▸W))).dH X (fun k W e=>Y.gF i Z (e▸W)),(h.fl i Z).2⟩,h.apart,
  T.dH X (fun e=>Y.gs e.symm),R.dH X aj,?_,dS _,dX.nil _ _,.inl h.sg,.inl h.ss,.inr rfl,fun i Z=>.inl (h.sA i Z),(by rintro i ⟨p,e,_⟩;cases e),fun i Z k W=>.inl (h.sF i Z k W),fun i Z=>?_⟩,(U.mono (fun i _ e=>e▸h.ss)).trans (X.mono (fun i _ e=>e▸h.sg))⟩
 ·show M.sb≠w
  omega
 ·have K:=X.size
  rcases Z with Z|rfl
  ·have:=h.lt i Z;omega
  ·omega
theorem agn{d:aI}{P:dK}{t:aO}(hF:fZ d)(L:aZ d N)(hN:N≤900000)(ql:∀v∈t,-9223372036854775808≤v∧v≤9223372036854775807)(w:aK)(h:Dw w g S d)(hP:Ls w P pn t)(qm:0<pn→∀i,In P i→¬S i):
  Calls prog 22 #[aY g,aG P pn pc] w fun e R=>e=bM (eP #[])∧∃e',FM d e'∧jh w g S e' R:=by
 have qO:=dD L.steps hN
 have qo:=ay (fun R (hw:bQ S w R) (i m:Nat) (hm:m≤1000000000)=>pick_any (c:=pc) (i:=i) ql hm R ⟨hP.len,by
  rcases D8 pn with h0|h0
  ·exact⟨hP.rd.1,fun hn=>by have:=hP.len;omega⟩
  ·exact hP.rd.dH hw (fun p hp e=>qm h0 _ ⟨p,hp,rfl⟩ e)⟩)
 obtain⟨qP,qQ,qJ,qR,qS⟩:=rG (agl hF qO w h) (fun n=>(And.intro (L.DZ n).1 (L.DZ n).2.1)) L.stp h (by obtain⟨M,h⟩:=h;exact h.lt);have hS:=h.g;obtain⟨M0,h0⟩:=h;have x4:=h0.box.c4;clear h0 hP ql qm hF L;go_enter func22,ntmps22;have qT:=ay (qo w (bQ.refl _ _) 0 d.steps aj);go_wp2_with fail;refine qT.mono ?_;rintro e E ⟨⟨k,rfl,hk⟩,rfl⟩;go_wp2_with fail;refine qP.mono ?_;rintro e E ⟨A,n,c,l,rfl,W,I,hn,z⟩;obtain⟨H,qK⟩:=aV W (bQ.of_below (S:=S) z);have qa:Hid (aiC w E g S d d.all):=ay ⟨by obtain⟨M,h⟩:=qR;exact⟨M,h.keep (bQ.of_below (S:=fun _=>False) z) (fun _ _ h=>h)⟩,Cj.refl _,qQ,bQ.of_below z⟩;change Hid _ at I z;clear W x4;go_wp2_with fail
 go_loopg [5,7,8,9,23] n (fun kk v5 v7 v8 v9 qU wr=>∃(j r:Nat) (b:List iD),j+kk=n∧qU=j∧v5=r∧r≤j+1∧aiC w wr g S d b∧bQ S E wr)
 case atStart=>exact⟨0,1,d.all,aj,rfl,rfl,aj,qa,bQ.refl _ _⟩
 case round=>
  obtain⟨j,r,b,hj,rfl,rfl,qV,Y,K⟩:=hrel;change Hid _ at Y K
  by_cases qe:j<n
  ·have qL:(j:Int)<(n:Int):=aj
   obtain⟨HG,HJ,qq⟩:=dB (aj:gk-1<gk) (aj:j+1+(gk-1)=n) (aj:r+1≤j+1+1∧r≤j+1+1);have W:=H.dH K (fun i hi e=>by have:=(H.dN hi).1;have:=qS i e;omega);obtain⟨q,o,rfl,qr⟩:=W.ls.at_ qe;have qW:j<l:=by rw[W.len];exact qe
   obtain⟨i,qX,qY⟩:=I l[j] (lS qW);have c0:=qr 0 _ rfl;simp only[Ib,lC,dW]at c0;rw[qX]at c0;obtain⟨M,h⟩:=Y.dw;have qf:=Y.cut.len;have V:i<b:=by rw[qf];exact qY
   have x1:=h.box.c1;obtain⟨a,hA,y0,y1,qg⟩:=LU h V;rw[hA]at x1;have zw:(i:Int)<(b.length:Nat):=aj
   have qs:=Y.safe i;have U:=(h.fl i V).1.len;have y:=(h.fl i V).2;dsimp only at U y;rw[←y,U]at qs;have f0:=qg (i*2);have f1:=qg (i*2+1);obtain⟨qZ,za,zb⟩:=dB (fun hs (E:aK) hw=>aiA (w1:=E) h V hA hs hw) (fun v C (E:aK) hw=>aiB (v:=v) (w1:=E) h V hA C hw) ((h.fl i V).1.lb);have qM:=(h.fl i V).1.cap;have qt:Hid (∀v,(M.ms.getD i default).s+v≤(M.ms.getD i default).n→(dh b i).safe+v≤(dh b i).data):=ay (fun v C=>by rw[←y,U];exact C);have zc:=ay (fun R (hw:bQ S wr R) m (hm:m≤1000000000)=>qo R (Y.dH.trans hw) r m hm);clear h hA qg U y qr;generalize(M.ms.getD i default).A=FA at*;generalize(M.ms.getD i default).n=FN at*;generalize(M.ms.getD i default).c=FC at*;generalize(M.ms.getD i default).s=F at*;obtain⟨qu,zx⟩:=qs
   by_cases hm:F<FN
   ·obtain⟨D,hD⟩:∃D,FN=F+D:=⟨FN-F,aj⟩
    have zy:0<D:=aj
    have qh:IntKind.i64.wrap ((FN:Int)-(F:Int))=(D:Int):=by rw[iE _ aj];omega
    have ze:=ay (fun v (C:v≤D)=>LV (j:=F+v) (J:=(F:Int)+(v:Int)) zb qM aj aj);have zf:Hid (∀v,v≤D→IntKind.i64.wrap ((F:Int)+(v:Int))=(F:Int)+(v:Int)):=ay (fun v C=>iE _ aj);have zg:D≤1000000000:=aj
    have zh:=ay hD;clear hm qu hD qf;go_wp2_with fail
    go_quiet(fail)
    go_wp2_with fail
    go_region_law(first|(go_simp;go_at_call 50;refine(zc _ ((bQ.refl S wr).drewN (nq+1)) D zg).mono ?_;rintro e w6 ⟨⟨v,rfl,C⟩,rfl⟩;obtain⟨-,x,-⟩:=ze v C;have zi:=zf v C)|fail)
    all_goals(
     have HV:=ay C;have qv:aP wr (wr.drewN (nq+1)):=jM (aU _ _) (nq+1);have hD:=zh.out;obtain⟨HF,G⟩:=aV (za v aj _ qv) (qt v aj);clear x zi qv hD;go_wp2_with fail;clear qh;go_roundg(gk-1)
     case measure=>exact HG
     case rel=>exact⟨j+1,r+1,_,HJ,fA,fA,qq.1,Y.step G HF.1 HF.2,K.trans HF.2⟩)
   ·have qw:F=FN:=aj
    have qh:IntKind.i64.wrap ((FN:Int)-(F:Int))=0:=by rw[iE _ aj];omega
    obtain⟨HF,G⟩:=aV (fun q=>qZ qw (wr.drewN q) (jM (aU _ _) q)) (qt 0 aj);clear hm qw qu qf;go_wp2_with fail
    go_quiet(fail)
    go_wp2_with fail;clear qh;go_roundg(gk-1)
    case measure=>exact HG
    case rel=>exact⟨j+1,r,_,HJ,fA,rfl,qq.2,Y.step G (HF _).1 (HF _).2,K.trans (HF _).2⟩
  ·obtain⟨M,h⟩:=Y.dw
   obtain⟨zj,qy⟩:=aV (aae Y.cut hk) Y.dH;have x3:=h.box.c3;have x4:=h.box.c4;have T:dX stR wr 0 M.B d.steps M.e d.steps:=h.steps;have x:=abR (B:=M.B) T.cap hk;obtain⟨qz,zk,qk⟩:=dB (fun R (f:bQ (fun i=>i=M.sb) wr R)=>T.dH f (fun i hi e=>LJ h.safe T (e▸hi))) (fun R (f:bQ (fun i=>i=M.sb) wr R)=>h.box.dH f (fun e=>h.sep.gs e)) h.safe;change Hid _ at h;clear T;have HK:=ay hk;obtain⟨MB,qA⟩:∃B,M.B=B:=⟨_,rfl⟩;rw[qA]at x4 qz x;clear qA hj qV H I K qa qK;go_wp2_with fail
   go_loopg [12,84] k (fun kk zA zl wy=>∃O:Nat,O+kk=k∧zl=O∧pK Az wy M.sb (LH (d.view O))∧bQ (fun i=>i=M.sb) wr wy)
   case atStart=>exact⟨0,aj,rfl,by rw[O7];exact qk,bQ.refl _ _⟩
   case round=>
    obtain⟨O,zB,rfl,qB,qC⟩:=hrel;obtain⟨qD,Q⟩:=aV qB qC;clear qB qC x3 x4 x
    by_cases qe:O<k
    ·have qL:(O:Int)<(k:Int):=aj
     have qi:O<d.steps:=by have:=HK.vI;omega
     obtain⟨q,o,rfl,f⟩:=(qz _ Q).ls.at_ qi;have c0:=f 0 _ rfl;have c1:=f 1 _ rfl;have c2:=f 2 _ rfl;have c3:=f 3 _ rfl;obtain⟨qE,zm⟩:=aV (qJ d.steps[O] (lS qi)) (O9 d qi);simp only[stR,dW]at c0 c1 c2 c3;generalize d.steps[O]=s at*;obtain⟨sk,sn,st,sf⟩:=s;dsimp only at*;have zC:=ay Q.size;go_upto_region 16 with(fail)
     obtain⟨W5,u⟩:∃W5:aK,W5=wr.alloc (aS (stC ⟨sk,sn,st,sf⟩) 116):=⟨_,rfl⟩;have qj:aP wr W5:=by rw[u];exact aJ wr _
     have Z:bF W5 wr 116 (stC ⟨sk,sn,st,sf⟩):=by rw[u];exact bF.new wr _ _
     change Code.wp _ _ _ _ (wr.alloc (aS (stC ⟨sk,sn,st,sf⟩) 116));rw[←u];obtain⟨z0,z1,z2,z3⟩:=Z.s4;obtain⟨qN,zn⟩:=aV (aeu (s:=⟨sk,sn,st,sf⟩) qE.1 qE.2 W5 (qD.keep qj)) (Q.trans (bQ.of_below (S:=fun i=>i=M.sb) qj));clear u qj Z c0 c1 c2 c3;go_wp2_with(go_at_call 52;refine qN.aQ ?_;rintro w6 ⟨qF,qG⟩);change Hid _ at qF qG;clear z0 z1 z2 z3;go_wp2_with fail;go_roundg(gk-1)
     case measure=>omega
     case rel=>exact⟨O+1,aj,fA,by rw[zm];exact qF,zn.trans qG⟩
    ·obtain rfl:O=k:=aj
     obtain⟨zo,zq⟩:=aV (Wn wr qD) (fun R (hb:aP wr R)=>(zk wr Q).keep hb);go_wp2_with(go_at_call 53;refine zo.aQ ?_;rintro w3 ⟨zr,zt,qH⟩;have X:=zq w3 qH;have f2:=X.frozen 2;have f3:=X.frozen 3;have f4:=X.frozen 4;have f5:=X.frozen 5;have f6:=X.frozen 6;have f7:=X.frozen 7;have x2:aN w3 g 2 (.map (some M.nb)):=(X.at rfl);have x3:aN w3 g 3 (.map (some M.sb)):=(X.at rfl);have x4:aN w3 g 4 _:=(X.at rfl);have x5:aN w3 g 5 _:=(X.at rfl);have x6:aN w3 g 6 _:=(X.at rfl);have x7:aN w3 g 7 _:=(X.at rfl));have qI:=agm h Q zr zt qH rfl;have zu:=qy.size;have zv:=Q.size;exact eU (by simp[results,results22,go_sem]) rfl ⟨rfl,_,zj,qy.trans qI.2,_,qI.1,fun i hi=>hi.elim .inl (fun e=>.inr aj)⟩
theorem By6(a b c d e f:Int):dV [bJ a,bJ b,bJ c,bJ d,bJ e,bJ f]:=by
 intro x Z;simp only[je,kS,or_false]at Z;rcases Z with rfl|rfl|rfl|rfl|rfl|rfl<;>exact Y6 _
theorem amb(R:jo qn qx r cu go ra ro fi=true)(hn:n≤100000000)(hd:dV src)(w:aK)(y:Lb w A n src):
  Calls prog 188 #[.agg (jC qn qx r cu go ra ro fi),aG A n c] w (Val w (eP #[(jf (uV ⟨qn,qx,r,cu,go,ra,ro,fi⟩ src)),iI])):=by
 have J:=y.len;obtain⟨C,I,T,O⟩:=ES w 23 (jC qn qx r cu go ra ro fi);obtain⟨x,v,u,t,s,N,M,L⟩:=T.s8;obtain⟨m,HA,HX⟩:=dB (fun X=>wu R X) (fun X (h:aP w X)=>(y.keep h).e) (fun X (h:aP C X)=>T.keep h)
 have H:dV (uV ⟨qn,qx,r,cu,go,ra,ro,fi⟩ src):=by
  refine((((By6 _ _ _ _ _ _).app (jR _)).app (jR _)).app (jR _)).app hd
 have G:(uV ⟨qn,qx,r,cu,go,ra,ro,fi⟩ src).length=18+n:=by simp[uV,dY,J];omega
 obtain⟨k,HC⟩:=aV (fun X B b (h:Lb X B (18+n) (uV ⟨qn,qx,r,cu,go,ra,ro,fi⟩ src))=>Qj (c:=b) aj H X h) (show jf (uV ⟨qn,qx,r,cu,go,ra,ro,fi⟩ src)=bits .xor .u32 IntKind.u32.max (yN (uV ⟨qn,qx,r,cu,go,ra,ro,fi⟩ src) (18+n)) by unfold jf;rw[G]);obtain⟨qe,qf⟩:=BJ (uV ⟨qn,qx,r,cu,go,ra,ro,fi⟩ src);obtain⟨z,P⟩:∃z:aO,z=[(qn:Int)%256,(qx:Int)%256,(r:Int)%256,go%256,cu/256%256,cu%256]:=⟨_,rfl⟩;have j:Hid (uV ⟨qn,qx,r,cu,go,ra,ro,fi⟩ src=z++dY ra++dY ro++dY fi++src):=ay (by rw[P];rfl)
 have g:=ay (fun(X:aK) (hw:C.heap.size≤X)=>show OwnB (X.alloc (aS #[.int .u8 ((qn:Int)%256),.int .u8 ((qx:Int)%256),.int .u8 ((r:Int)%256),.int .u8 (go%256),.int .u8 (cu/256%256),.int .u8 (cu%256)] 5)) C X 6 6 z by
  rw[P];exact OwnB.built (l:=[(qn:Int)%256,(qx:Int)%256,(r:Int)%256,go%256,cu/256%256,cu%256]) hw bK)
 generalize jf (uV ⟨qn,qx,r,cu,go,ra,ro,fi⟩ src)=CR at*;generalize uV ⟨qn,qx,r,cu,go,ra,ro,fi⟩ src=KL at*;change Hid _ at O I;clear R hd y J T H G P;go_enter func188,ntmps188;go_upto_region 1 with(fail)
 change Code.wp _ _ _ _ (w.alloc (aS (jC qn qx r cu go ra ro fi) 23));rw[←I];go_upto_region 4 with(go_at_call 39;refine(m _).aQ ?_;rintro K Z)
 have k5:=N;have k6:=M;have k7:=L;have X2:=HX K Z;have x:=aC x Z;have v:=aC v Z;have u:=aC u Z;have t:=aC t Z;have s:=aC s Z;have N:=aC N Z;have M:=aC M Z;have L:=aC L Z;go_upto_region 5 with(fail)
 have Y:=aJ K (aS #[.int .u8 ((qn:Int)%256),.int .u8 ((qx:Int)%256),.int .u8 ((r:Int)%256),.int .u8 (go%256),.int .u8 (cu/256%256),.int .u8 (cu%256)] 5);have U:=g K Z.size;obtain⟨W3,F⟩:=kF (K.alloc (aS #[.int .u8 ((qn:Int)%256),.int .u8 ((qx:Int)%256),.int .u8 ((r:Int)%256),.int .u8 (go%256),.int .u8 (cu/256%256),.int .u8 (cu%256)] 5));change Code.wp _ _ _ _ (K.alloc (aS #[.int .u8 ((qn:Int)%256),.int .u8 ((qx:Int)%256),.int .u8 ((r:Int)%256),.int .u8 (go%256),.int .u8 (cu/256%256),.int .u8 (cu%256)] 5));rw[←F]at Y U ⊢;have D:=Z.trans (Y.mono Z.size);have q:=aC N Y;have p:=aC M Y;have o:=aC L Y;have d5:=q;have d6:=p;have d7:=o;have own:=U.drew;have S:=D.drew;have V:=S.size;clear x v u t s N M L F Y Z U X2
 go_region_held3(fun W=>aN W w 5 (aB ra)∧aN W w 6 (aB ro)∧aN W w 7 (aB fi))
  (first|with_reducible exact⟨q,p,o⟩|with_reducible exact⟨d5,d6,d7⟩|with_reducible exact⟨aC k5 S,aC k6 S,aC k7 S⟩|fail)
  (first
    |(go_at_call 140;refine(QT aj _ own V).mono ?_;rintro e w4 ⟨B4,b4,rfl,Q,E,f⟩;have S:=S.trans (E.below V (fun i hi=>(own.e.dN hi).1));have V:=S.size;have own:=Q)
    |fail)
 obtain⟨HO,d⟩:=aV own.e (HA _ (O.trans (S.mono O.size)));change Hid _ at S V;clear own Q E f d5 d6 d7 q p o k5 k6 k7;go_wp2_with(first|(at_builtin;refine aaY PS rfl _ _ rfl rfl HO rfl d (by show(_+n)*1≤_;omega) V aj ?_;intro B7 b7 w7 o7 a qg qh;have qa:=k w7 B7 b7 (by rw[j];exact o7.ownB.lb))|(go_at_call 94;refine qa.aQ ?_;rintro w8 rfl;rw[←HC])|fail);go_ret2;exact⟨rfl,O.trans ((S.trans a).mono O.size)⟩
theorem akR{n:Int}{d:aI}(R:n≤9223372036854775807)(w:aK)(h:Dw w g S d):
  Calls prog 24 #[aY g,n] w fun e U=>e=bM (eP #[])∧jh w g S (d.arm n) U:=by
 have T:=h.g;obtain⟨M,h⟩:=h;have X:=h.box.c6;have Q:=h.box.c5;have P:=h.box.frozen 5;have Z:=ay h;unfold aI.arm;cases Y:d.down with
 |true=>
  rw[Y]at X;rw[aF rfl];go_enter func24,ntmps24;go_wp2;refine eU (by simp[results,results24,go_sem]) rfl ⟨rfl,?_⟩;exact jh.of ⟨M,Z⟩ (bQ.refl S _) (fun _ h=>h)
 |false=>
  rw[Y]at X;rw[au bK];have W:=ay (yF w g 5 n.toNat);go_enter func24,ntmps24;go_wp2;rw[show max n 0=((n.toNat:Nat):Int) by omega];have V:=Z.aby (e:={d with armed:=n.toNat}) (n:=M.dn) W rfl rfl rfl rfl (by show n.toNat≤_;omega) (Z.box.store 5 _);rw[Y]at V;refine eU (by simp[results,results24,go_sem]) rfl ⟨rfl,?_⟩;exact jh.of ⟨_,V⟩ W (fun _ e=>e▸T)
theorem ai1{n:Int}{d:aI}(W:aZ d N)(w:aK)(h:Dw w g S d):
  Calls prog 25 #[aY g,n] w fun e Q=>e=bM (eV (d.grow n).2)∧jh w g S (d.grow n).1 Q:=by
 have P:=h.g;obtain⟨M,h⟩:=h;have V:=h.box.c6;have O:=h.box.c0;have L:=h.box.frozen 0;have K:=W.room;have Z:=ay h;unfold aI.grow;cases X:d.down with
 |true=>
  rw[X]at V;rw[aF rfl,pz (show(10:Int)≠0 by decide)];go_enter func25,ntmps25;go_wp2;go_ret;exact⟨rfl,jh.of ⟨M,Z⟩ (bQ.refl S _) (fun _ h=>h)⟩
 |false=>
  rw[X]at V;rw[au bK]
  by_cases U:n<0
  ·rw[aF (.inl U),pz (show(3:Int)≠0 by decide)]
   go_enter func25,ntmps25;go_wp2;go_ret;exact⟨rfl,jh.of ⟨M,Z⟩ (bQ.refl S _) (fun _ h=>h)⟩
  ·by_cases T:16777216-d.room<n
   ·rw[aF (.inr T),pz (show(3:Int)≠0 by decide)]
    go_enter func25,ntmps25;go_wp2;go_ret;exact⟨rfl,jh.of ⟨M,Z⟩ (bQ.refl S _) (fun _ h=>h)⟩
   ·rw[au (fun e=>e.elim U T),show eV 0=iI from rfl]
    have R:=ay (yF w g 0 (aB (d.room+n)));have Y:=(Z.aby (e:={d with room:=d.room+n}) (n:=M.dn) R rfl rfl rfl rfl Z.arm (Z.box.store 0 _));rw[X]at Y
    replace Y:=ay Y
    go_enter func25,ntmps25;go_wp2;go_ret;exact⟨rfl,jh.of ⟨_,Y⟩ R (fun _ e=>e▸P)⟩
theorem akS{r:Int}(Y:r<0∨16777216<r)(w:aK):Calls prog 40 #[r] w fun e Z=>e=bM (eP #[aY none,.iface 48 (aB 3)])∧w=Z:=by
 by_cases X:r<0
 ·go_enter func40,ntmps40
  go_wp2;go_ret2;exact sD
 ·have W:16777216<r:=aj
  go_enter func40,ntmps40;go_wp2;go_ret2;exact sD
theorem akT(w:aK)(r:Int):Dw (((w.alloc (.map #[] 0)).alloc (.map #[] 0)).alloc (aS #[r,bU,.map (some w),.map (some (w.heap.size+1)),bU,aB 0,.bool false,aB 0] 110)) (w.heap.size+1+1)
  (fun i=>w≤i∧i<(((w.alloc (.map #[] 0)).alloc (.map #[] 0)).alloc (aS #[r,bU,.map (some w),.map (some (w.heap.size+1)),bU,aB 0,.bool false,aB 0] 110))) (aI.new r)∧
  aP w (((w.alloc (.map #[] 0)).alloc (.map #[] 0)).alloc (aS #[r,bU,.map (some w),.map (some (w.heap.size+1)),bU,aB 0,.bool false,aB 0] 110)):=by
 have S:(w.alloc (.map #[] 0)).heap.size=w+1:=bK
 have R:((w.alloc (.map #[] 0)).alloc (.map #[] 0)).heap.size=w+1+1:=bK
 have Q:=aJ w (.map #[] 0);have b2:=aJ (w.alloc (.map #[] 0)) (.map #[] 0);have Y:=aJ ((w.alloc (.map #[] 0)).alloc (.map #[] 0)) (aS #[r,bU,.map (some w),.map (some (w.heap.size+1)),bU,aB 0,.bool false,aB 0] 110);have X:=bF.new ((w.alloc (.map #[] 0)).alloc (.map #[] 0)) 110 #[r,bU,.map (some w),.map (some (w.heap.size+1)),bU,aB 0,.bool false,aB 0];rw[R]at X;have P:=((pK.made (T:=Az) w).keep b2).keep Y;have W:=(pK.made (T:=Az) (w.alloc (.map #[] 0))).keep Y;rw[S]at W;have V:∀k,¬In none k:=by rintro k ⟨p,e,_⟩;cases e
 have U:(((w.alloc (.map #[] 0)).alloc (.map #[] 0)).alloc (aS #[r,bU,.map (some w),.map (some (w.heap.size+1)),bU,aB 0,.bool false,aB 0] 110)).heap.size=w+1+1+1:=bK
 refine⟨⟨⟨none,0,w.heap.size,w.heap.size+1,none,0,0,[]⟩,X,dX.nil _ _,fun i Z=>absurd Z (vM _),fun i j Z=>absurd Z (vM _),P,W,by show w.heap.size≠w.heap.size+1;omega,dS _,dX.nil _ _,⟨aj,aj⟩,⟨bC _,by show w.heap.size<_;omega⟩,⟨gW _,by show w.heap.size+1<_;omega⟩,
  fun i Z=>absurd Z (V i),fun i Z=>absurd Z (V i),fun i Z=>absurd Z (vM _),fun i Z=>Z.2⟩,(Q.trans (b2.mono aj)).trans (Y.mono aj)⟩
theorem aeJ{r:Int}(Y:0≤r∧r≤16777216)(w:aK):Calls prog 40 #[aB r] w fun e Z=>∃g,e=bM (eP #[BG g,iI])∧Dw Z g (fun i=>w≤i∧i<Z) (aI.new r)∧aP w Z:=by
 obtain⟨V,U⟩:=Y;have X:∀W:aK,(Instr.makeMap 107 none).run prog W= .ok (.map (some W)) (W.alloc (.map #[] 0)):=fun W=>aW
 go_enter func40,ntmps40;go_wp2;go_ret2;exact⟨w.heap.size+1+1,rfl,akT w r⟩
end Go.Proofs.YtiaeohgghaaciaaGreatDoor
