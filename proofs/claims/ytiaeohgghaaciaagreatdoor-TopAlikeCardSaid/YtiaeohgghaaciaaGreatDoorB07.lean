import Derived.Deep.DeepCutAuto
import Derived.Deep.RegionHeld3
import Derived.Deep.RegionLaw
import Derived.OwnWalk
import Derived.StillTail
import Derived.Test.YtiaeohgghaaciaaGreatDoorB05
import Derived.Test.YtiaeohgghaaciaaGreatDoorB06
namespace Go.Proofs.YtiaeohgghaaciaaGreatDoor
open Go Go.Maps Go.RowKit Go.Extern.Stop Go.Stop Go.Extern Go.Proofs.Tryz
set_option linter.all false
set_option maxRecDepth 100000
set_option maxHeartbeats 4000000
variable{a:Act}{cs:Array Value}{Q:Exit→Act→World→Prop}{mode vx vy:Int}{l p:List Int}{rest:List Oper}{H K N W base c c' d g i j k m n q qp x y z:Nat}{S:Nat→Prop}{o:Oper}{A B L:Option Addr}{E:Prop}{t:TypeId}{a':Value}{w w' w0 w1:World}
structure Lb(w:World)(A:Option Addr)(n:Nat)(l:List Int):Prop where
 len:l.length=n
 rd:yK .u8 w A l
structure OwnB(w:World)(base:Nat)(A:Option Addr)(n c:Nat)(l:List Int):Prop where
 len:l.length=n
 row:w.ownsRow base 5 1 (aG A n c) n (l.map (Value.int .u8))
section
variable{w w':aK}{A:dK}{n c base:Nat}{l:aO}
theorem Lb.keep(h:Lb w A n l)(Z:aP w w'):Lb w' A n l:=⟨h.len,h.rd.keep Z⟩
theorem Lb.at_(h:Lb w A n l){i:Nat}(hi:i<n):∃b o,A=some (aH b o)∧aN w b (o+i) (.int .u8 (l.getD i 0)):=by
 have Z:i<l:=by rw[h.len];exact hi
 obtain⟨b,o,Y,X⟩:=h.rd.at_ Z;exact⟨b,o,Y,by rw[dG,fP Z];exact X⟩
theorem OwnB.lb(h:OwnB w base A n c l):Lb w A n l:=⟨h.len,(yK.ER h.row).1⟩
theorem OwnB.keep(h:OwnB w base A n c l)(Z:aP w w'):OwnB w' base A n c l:=⟨h.len,oH h.row Z⟩
theorem OwnB.alloc(h:OwnB w base A n c l)(o:Obj):OwnB (w.alloc o) base A n c l:=⟨h.len,h.row.alloc o⟩
theorem OwnB.drew(h:OwnB w base A n c l):OwnB w.drew base A n c l:=h.keep (aU _ _).drew
theorem OwnB.lower(h:OwnB w base A n c l){b:Nat}(Z:b≤base):OwnB w b A n c l:=⟨h.len,own_base h.row Z⟩
theorem OwnB.nil(w:aK)(base:Nat)(l:aO):OwnB w base none 0 0 (l.take 0):=⟨rfl,iM _ _ _ _⟩
end
def ag8(w:aK)(n:Nat)(l:aO)(e:Ending)(w':aK):Prop:=∃A c,e=bM (aG A n c)∧OwnB w' w.heap.size A n c l∧aP w w'
def OH(w:aK)(n:Nat)(l:aO)(e:Ending)(w':aK):Prop:=∃A c,e=bM (eP #[aG A n c,iI])∧OwnB w' w.heap.size A n c l∧aP w w'
theorem ala{W:Array Oper}(U:o.guard=none)(s x:Operand)
  (N:o.op= .call {callee:=.builtin .append,args:=#[s,x],argTypes:=#[24,24]})
 {r:aO} (M:a.eval s=aG A n c) (Z:OwnB w base A n c l)
   (hx:a.eval x=aG B m c') (L:Lb w B m r) (H:n+m≤1000000) (O:base≤w)
   (h:∀B Y w',OwnB w' base B (n+m) Y (l++r)→Below base w w'→wpList prog W Q rest (a.put o.dst (aG B (n+m) Y)) w'):
   wpList prog W Q (o::rest) a w:=by
  obtain⟨K,J,T,S,R⟩:=iq Vf;obtain⟨rfl,P⟩:=L;refine yL _ U s x _ N base 5 K _ 1 1 underlying24 J T S R rfl aj _ n _ M Z.row B r c' _ hx P (MR _ _) (by unfold maxLen;omega) aj O ?_;intro G Y F V X _;exact h _ _ _ ⟨by simp[Z.len],by simpa using V⟩ ((aU base w).grown X O (fun k I=>(Z.row.lt k I).1))
theorem OwnB.empty(w:aK)(base:Nat)(Z:base≤w):OwnB (w.alloc (aS #[] 5)) base w 0 0 []:=⟨rfl,Ob w _ 1 base Z⟩
theorem OwnB.form(h:OwnB w base A n c l)(Y:0<n):∃g,A=some (aH g 0)∧base≤g∧g<w.heap.size∧(∀j,j<n→aN w g j (.int .u8 (l.getD j 0)))∧∀j,w.frozen? (aH g j)=false:=by
 obtain⟨g,Q,X,W,V,_,U,T⟩:=Qh h.row Y;injection X with S P O
 refine⟨g,S,W,V,fun j R=>U j _ ?_,T⟩;have Z:j<l.length:=by rw[h.len];exact R
 rw[gX,fP Z,dG,fP Z];rfl
theorem OwnB.store(h:OwnB w base g n c l)(j:Nat)(v:Int):OwnB (w.setCell ⟨g,j,none⟩ (.int .u8 v)) base g n c (l.set j v):=
 ⟨by rw[pG];exact h.len,by rw[List.map_set];exact Ry h.row j _⟩
def KO(c:Int):Int:=if bits .and .u32 c 1=1 then bits .xor .u32 (c/2) 3988292384 else c/2
def IZ(c:Int):Nat→Int
 |0=>c
 |k+1=>KO (IZ c k)
def yN(l:aO):Nat→Int
 |0=>4294967295
 |j+1=>IZ (bits .xor .u32 (yN l j) (l.getD j 0)) 8
theorem Qj(K:n≤9223372036854775807)(R:Bd 0 255 l)(w:aK)(Q:Lb w A n l):
  Calls prog 94 #[aG A n c] w fun e P=>e=bM (.int .u32 (bits .xor .u32 IntKind.u32.max (yN l n)))∧w=P:=by
 obtain⟨O,N⟩:=aV Q (dO R aj aj);go_enter func94,ntmps94;go_wp2
 go_loopg [3,5,8] n (fun k X J W wr=>∃j:Nat,j+k=n∧W=j∧X= .int .u32 (yN l j)∧wr=w)
 case atStart=>exact⟨0,aj,rfl,rfl,rfl⟩
 case round=>
  obtain⟨j,I,rfl,rfl,rfl⟩:=hrel
  by_cases V:j<n
  ·obtain⟨b2,H,rfl,G⟩:=O.at_ V
   have F:=N.out j;have U:=ay (show yN l (j+1)=IZ (bits .xor .u32 (yN l j) (l.getD j 0)) 8 from rfl);generalize l.getD j 0=x at*;generalize yN l j=C at*;go_wp2
   go_loopg [3,16] (8:Nat) (fun k X W M=>∃i:Nat,i+k=8∧W=i∧X= .int .u32 (IZ (bits .xor .u32 C x) i)∧M=wr)
   case atStart=>exact⟨0,aj,rfl,rfl,rfl⟩
   case round=>
    obtain⟨i,E,rfl,rfl,rfl⟩:=hrel
    by_cases L:i<8
    ·have S:(i:Int)<8:=aj
     have Z:=ay (show IZ (bits .xor .u32 C x) (i+1)=KO (IZ (bits .xor .u32 C x) i)from rfl);generalize IZ (bits .xor .u32 C x) i=D at*
     by_cases Y:bits .and .u32 D 1=1
     ·have T:(bits .and .u32 D 1==1)=true:=by simpa using Y
      unfold KO at Z;rw[aF Y]at Z;go_wp2;go_roundg(gk-1)
      case measure=>omega
      case rel=>exact⟨i+1,aj,fA,by rw[Z.out],rfl⟩
     ·have T:(bits .and .u32 D 1==1)=false:=by simpa using Y
      unfold KO at Z;rw[au Y]at Z;go_wp2;go_roundg(gk-1)
      case measure=>omega
      case rel=>exact⟨i+1,aj,fA,by rw[Z.out],rfl⟩
    ·obtain rfl:i=8:=aj
     go_wp2;go_roundg(n-j-1)
     case measure=>omega
     case rel=>exact⟨j+1,aj,fA,by rw[U.out],rfl⟩
  ·obtain rfl:j=n:=aj
   go_wp2;go_ret;exact sD
def jf(l:aO):Int:=bits .xor .u32 IntKind.u32.max (yN l l.length)
def bJ(v:Int):Int:=v%256
def dY(v:Int):aO:=[bJ (v/16777216),bJ (v/65536),bJ (v/256),bJ v]
def iP(kind:Int)(data:aO):aO:=[kind,(data.length:Int)/65536,bJ ((data.length:Int)/256),bJ data.length]++data
def dQ(kind:Int)(data:aO):aO:=iP kind data++dY (jf (iP kind data))
theorem Y6(v:Int):0≤bJ v∧bJ v≤255:=by unfold bJ;omega
theorem OwnB.built(Z:base≤w)(Y:l.length≤100):OwnB (w.alloc (.cells (l.map (Value.int .u8)).toArray 5)) base w l l l:=
 ⟨rfl,bK,.inr ⟨w,l.length,_,rfl,Z,lV w _,bC _,by unfold maxLen;omega,bK,by simp[wO]⟩⟩
theorem UG{kind:Int}{data:aO}(t:1≤kind∧kind≤255)(s:n≤65536)(hd:Bd 0 255 data)(w:aK)(L:Lb w A n data):
  Calls prog 126 #[kind,aG A n c] w fun e Z=>∃B b,e=bM (eP #[aG B (n+8) b,iI])∧OwnB Z w B (n+8) b (dQ kind data)∧aP w Z:=by
 have W:=L.len;have K:=ay L
 have S:Bd 0 255 (iP kind data):=by
  intro v J;rcases rH.1 J with h|h
  ·simp at h
   rcases h with rfl|rfl|rfl|rfl
   ·omega
   ·omega
   ·exact Y6 _
   ·exact Y6 _
  ·exact hd v h
 obtain⟨I,H,G⟩:=dB (show iP kind data=[kind,(n:Int)/65536,(n:Int)/256%256,(n:Int)%256]++data by unfold iP bJ;rw[W]) (fun Z B b (h:Lb Z B (4+n) (iP kind data))=>Qj (c:=b) aj S Z h) (show jf (iP kind data)=bits .xor .u32 IntKind.u32.max (yN (iP kind data) (4+n)) by unfold jf;rw[show(iP kind data).length=4+n by unfold iP;simp;omega]);unfold dQ;have r:¬kind=0:=aj
 have Y:=aJ w (aS #[.int .u8 kind,.int .u8 ((n:Int)/65536),.int .u8 ((n:Int)/256%256),.int .u8 ((n:Int)%256)] 5)
 have F:Hid (OwnB (w.alloc (aS #[.int .u8 kind,.int .u8 ((n:Int)/65536),.int .u8 ((n:Int)/256%256),.int .u8 ((n:Int)%256)] 5)) w w 4 4 [kind,(n:Int)/65536,(n:Int)/256%256,(n:Int)%256]):=
  ay (OwnB.built (l:=[kind,(n:Int)/65536,(n:Int)/256%256,(n:Int)%256]) (bC _) bK)
 obtain⟨R,E⟩:=aV (K.keep Y) Y;generalize iP kind data=U at*;generalize jf U=C at*;go_enter func126,ntmps126;go_wp2_with(at_builtin;refine ala rfl _ _ rfl rfl F rfl R aj bK ?_;intro q p V T Q);rw[←I]at T;have X:=ay (E.trans Q);refine(H _ _ _ T.lb).aQ ?_;rintro m rfl;rw[←G];have P:=X.size;have D:=fun o=>T.alloc o
 have O:=ay (fun l:aO=>fun(k:l.length=4)=>(OwnB.built (w:=V) (base:=V.heap.size) (l:=l) (bC _) aj).lb);go_wp2_with(at_builtin;refine ala rfl _ _ rfl rfl (D _) rfl (O.out (dY C) rfl) aj jy ?_;intro z y j x N);obtain⟨u,M⟩:=aV ((X.trans ((aJ V (aS #[.int .u8 (C/16777216%256),.int .u8 (C/65536%256),.int .u8 (C/256%256),.int .u8 (C%256)] 5)).mono P)).trans N) x;go_wp2;go_ret2;exact⟨z,y,by rw[(aj:n+8=4+n+4)];rfl,by rw[(aj:n+8=4+n+4)];exact M,u⟩
def nS(b:aO)(i:Nat):Int:=b.getD i 0
def iL(b:aO)(i:Nat):Nat:=(nS b (i+1)*65536+nS b (i+2)*256+nS b (i+3)).toNat
def yw(b:aO)(i:Nat):Int:=nS b i*16777216+nS b (i+1)*65536+nS b (i+2)*256+nS b (i+3)
structure Y8 where
 kind:Int
 data:aO
 fin:Nat
def nH(b:aO)(i:Nat):Option Y8:=
 if b.length≤i then none
 else if nS b i=0 then some ⟨0,[],i+1⟩
 else if b.length<i+4 then none
 else if 65536<iL b i then none
 else if b.length<i+iL b i+8 then none
 else if jf ((b.drop i).take (4+iL b i))≠yw b (i+4+iL b i)then none
 else some ⟨nS b i,(b.drop (i+4)).take (iL b i),i+8+iL b i⟩
structure bV where
 kind:Int
 sum:Int
 num:Int
 len:Int
 code:Int
def bV.same(a b:bV):Bool:=a.kind==b.kind&&a.sum==b.sum&&a.num==b.num&&a.len==b.len&&a.code==b.code
theorem bV.same_iff{a b:bV}:a.same b=true↔a=b:=by
 obtain⟨Z,Y,X,W,V⟩:=a;obtain⟨U,b2,T,b4,S⟩:=b;simp[bV.same,and_assoc]
def FQ(k:Int):Bool:=decide (48≤k∧k≤51)
def Fb(v a b:Int):Bool:=decide (a≤v∧v≤b)
def Aa(r:bV):Bool:=
 if r.kind=48 then Fb r.sum 0 4294967295&&Fb r.num 0 16
 else if r.kind=49 then Fb r.sum 0 4294967295&&Fb r.len 0 16777216&&Fb r.num 0 15
 else if r.kind=50 then Fb r.code 1 15
 else Fb r.sum 0 4294967295&&Fb r.len 0 16777216
def Et(r:bV):bV:=
 if r.kind=50 then⟨r.kind,0,0,0,r.code⟩
 else if r.kind=48 then⟨r.kind,r.sum,r.num,0,0⟩
 else if r.kind=51 then⟨r.kind,r.sum,0,r.len,0⟩
 else⟨r.kind,r.sum,r.num,r.len,0⟩
def jQ(r:bV):Bool:=FQ r.kind&&Aa r&&(Et r).same r
def fQ(r:bV):aO:=
 if r.kind=50 then [bJ r.code]
 else if r.kind=48 then dY r.sum++ [bJ r.num]
 else if r.kind=49 then [bJ r.num]++dY r.len++dY r.sum
 else dY r.len++dY r.sum
def bH(r:bV):aO:=dQ r.kind (fQ r)
def Oe(k:Int)(d:aO):bV:=
 if k=50 then⟨k,0,0,0,nS d 0⟩
 else if k=48 then⟨k,yw d 0,nS d 4,0,0⟩
 else if k=49 then⟨k,yw d 5,nS d 0,yw d 1,0⟩
 else⟨k,yw d 4,0,yw d 0,0⟩
def Qk(k:Int):Nat:=if k=50 then 1 else if k=48 then 5 else if k=49 then 9 else 8
def Pn(u:Y8):Option bV:=
 if FQ u.kind=false then none else if u.data.length≠Qk u.kind then none else if jQ (Oe u.kind u.data)then some (Oe u.kind u.data)else none
def I4(b:aO):Nat→Nat→List bV × Nat
 |0,i=>([],i)
 |k+1,i=>
  match nH b i with
  |none=>([],i)
  |some u=>
   match Pn u with
   |none=>([],i)
   |some r=>let x:=I4 b k u.fin;(r::x.1,x.2)
def J3(b:aO):List bV × Nat:=I4 b (b.length+1) 0
structure bT where
 state:Nat
 sum:Int
 chunks:Int
 code:Int
 done:Nat→Option bV
def bT.new:bT:=⟨0,0,0,0,fun _=>none⟩
def bT.count(j:bT):Nat→Nat
 |0=>0
 |k+1=>j.count k+if(j.done k).isSome then 1 else 0
def bT.apply(j:bT)(r:bV):bT × Int:=
 if jQ r=false then(j,2)
 else if j.state=0∧r.kind=48 then({j with state:=1,sum:=r.sum,chunks:=r.num},0)
 else if j.state≠1∨r.kind=48 then(j,12)
 else if r.kind=49 then if j.chunks≤r.num then(j,3)else({j with done:=fun n=>if n=r.num.toNat then some r else j.done n},0)
 else if r.kind=50 then if 0<j.chunks then(j,14)else({j with state:=2,code:=r.code},0)
 else if j.chunks=0∨(j.count 16:Int)<j.chunks then(j,14)
 else({j with state:=3},0)
def bT.run(j:bT):List bV→bT × Nat
 | []=>(j,0)
 |r::l=>if(j.apply r).2≠0 then(j,0)else let x:=(j.apply r).1.run l;(x.1,x.2+1)
def bT.forget(j:bT)(n:Nat):bT:=if j.state=1 then{j with done:=fun m=>if m=n then none else j.done m}else j
def bT.missing(j:bT):List Nat:=(List.range j.chunks.toNat).filter fun n=>(j.done n).isNone
structure bI where
 chunks:Nat
 pk:Nat→aO
 out:aO
 key:Int
 bad:Int
structure aX where
 has:Bool
 n:Nat
 step:Nat
 data:aO
def aX.zero:aX:=⟨false,0,0,[]⟩
structure bZ where
 job:bT
 tasks:List aX
 made:aO
 down:Bool
def iJ(kind n:Int)(b:aO):bV:=⟨kind,jf b,n,b.length,0⟩
def bZ.taken(f:bZ)(n:Nat):Bool:=f.tasks.any fun t=>t.has&&t.n==n
def bZ.wants(f:bZ):List Nat:=if f.job.missing=[]then [f.job.chunks.toNat]else f.job.missing
def bZ.take(f:bZ):Option Nat:=f.wants.find? fun n=>!f.taken n
section
variable(X:bI)
def bI.file(n:Nat):aO:=if n=X.chunks then X.out else X.pk n
def bI.temp(n:Nat):Nat:=if n=X.chunks then 3 else JF n
def bI.name(n:Nat):Nat:=if n=X.chunks then 2 else iR n
def bI.xR(t:aX):bV:=if t.n=X.chunks then iJ 51 0 t.data else iJ 49 t.n t.data
def lZ(d:aI)(j:bT)(r:bV):aI × bT × Int:=
 let x:=d.sync 0
 if x.2≠0 then(x.1,j,x.2)else(x.1,(j.apply r).1,(j.apply r).2)
def pX(d:aI)(j:bT)(r:bV):aI × bT × Int:=
 let x:=d.append 0 (bH r)
 if x.2≠0 then(x.1,j,x.2)else lZ x.1 j r
structure vO where
 d:aI
 job:bT
 made:aO
 data:aO
 err:Int
def eG(d:aI)(f:bZ)(t:aX):vO:=
 match t.step with
 |0=>⟨d,f.job,if t.n=X.chunks then f.made else f.made++ [(t.n:Int)],X.file t.n,0⟩
 |1=>let x:=d.create (X.temp t.n);⟨x.1,f.job,f.made,t.data,x.2⟩
 |2=>let x:=d.append (X.temp t.n) t.data;⟨x.1,f.job,f.made,t.data,x.2⟩
 |3=>let x:=d.sync (X.temp t.n);⟨x.1,f.job,f.made,t.data,x.2⟩
 |4=>let x:=d.rename (X.temp t.n) (X.name t.n);⟨x.1,f.job,f.made,t.data,x.2⟩
 |5=>let x:=d.ji;⟨x.1,f.job,f.made,t.data,x.2⟩
 |6=>let x:=d.append 0 (bH (X.xR t));⟨x.1,f.job,f.made,t.data,x.2⟩
 |_=>let x:=lZ d f.job (X.xR t);⟨x.1,x.2.1,f.made,t.data,x.2.2⟩
def bZ.has(f:bZ)(w:Nat):Option aX:=
 let t:=f.tasks.getD w aX.zero
 if t.has then some t else(f.take).map fun n=>⟨true,n,0,[]⟩
def nZ(d:aI)(t:aX)(err:Int):aI × Bool × Int:=
 if 1≤t.step∧t.step≤4∧(d.names (X.temp t.n)).isSome then
  let x:=d.remove (X.temp t.n)
  if x.2≠0 then(x.1,false,x.2)else(x.1,true,err)
 else(d,true,err)
def eF(d:aI)(f:bZ)(w:Int):aI × bZ × Int:=
 if w<0∨f.tasks.length≤w then(d,f,3)
 else if f.down then(d,f,10)
 else if f.job.state≠1 then(d,f,0)
 else match f.has w.toNat with
  |none=>(d,f,0)
  |some t=>
   let s:=eG X d f t
   if s.err=0 then(s.d,{f with job:=s.job,made:=s.made,tasks:=f.tasks.set w.toNat (if t.step=7 then aX.zero else⟨true,t.n,t.step+1,s.data⟩)},0)
   else if s.err=10 then(s.d,{f with job:=s.job,made:=s.made,tasks:=f.tasks.set w.toNat ⟨true,t.n,t.step,s.data⟩,down:=true},10)
   else
    let x:=nZ X s.d t s.err
    (x.1,{f with job:=s.job,made:=s.made,tasks:=f.tasks.set w.toNat (if x.2.1 then aX.zero else⟨true,t.n,t.step,s.data⟩),down:=decide (x.2.2=10)},x.2.2)
def pR(d:aI)(Z:Bool):List Nat→aI × Bool × Int
 | []=>(d,Z,0)
 |x::l=>if x%2=1 then(if(d.remove x).2≠0 then((d.remove x).1,Z,(d.remove x).2)else pR (d.remove x).1 true l)else pR d Z l
def lu(d:aI)(l:List Nat):aI × Int:=
 let x:=pR d false l
 if x.2.2≠0 then(x.1,x.2.2)else if x.2.1 then x.1.ji else(x.1,0)
def pY(d:aI):aI × Int:=if(d.names 0).isSome then(d,0)else let x:=d.create 0;if x.2≠0 then x else x.1.ji
def xX(d:aI)(b:aO):aI × Int:=
 let Z:=d.create 1
 if Z.2≠0 then Z else
 let Y:=Z.1.append 1 b
 if Y.2≠0 then Y else
 let W:=Y.1.sync 1
 if W.2≠0 then W else
 let V:=W.1.rename 1 0
 if V.2≠0 then V else V.1.ji
def ru(l:List bV):Nat:=(l.map fun r=>(bH r).length).sum
def lF(d:aI):aI × bT × Int:=
 let b:=(d.file 0).data
 let x:=bT.new.run (J3 b).1
 let p:=ru ((J3 b).1.take x.2)
 if p=b.length then(d,x.1,0)else let y:=xX d (b.take p);(y.1,x.1,y.2)
def oJ(d:aI)(j:bT):aI × bT × Int:=
 if j.state=0 then pX d j ⟨48,X.key,X.chunks,0,0⟩else if j.sum≠X.key∨j.chunks≠X.chunks then(d,j,14)else(d,j,0)
def vX(d:aI)(j:bT):aI × bT × Int:=
 if X.bad=0 then if j.state=2 then(d,j,14)else(d,j,0)
 else if j.state=1 then pX d j ⟨50,0,0,0,X.bad⟩else(d,j,0)
def aI.same(d:aI)(x:Nat)(b:aO):Bool:=decide (d.CX x=0)&&decide ((d.file x).data=b)
def uZ(d:aI)(j:bT):Nat→bT
 |0=>j
 |n+1=>
  let k:=uZ d j n
  match k.done n with
  |none=>k
  |some r=>if d.same (iR n) (X.pk n)=false∨(iJ 49 n (X.pk n)).same r=false then k.forget n else k
def nN(d:aI)(j:bT):bT:=if j.state=1 then uZ X d j X.chunks else j
def mV(d:aI)(j:bT):aI × bT × Int:=
 if j.state≠3∧(j.state≠1∨j.missing≠ []∨(d.names 2).isSome=false)then(d,j,0)
 else if j.state=3∧d.same 2 X.out=false then(d,j,14)
 else if j.state=1∧d.same 2 X.out then pX d j (iJ 51 0 X.out)
 else(d,j,0)
def dR(d:aI)(l:List Nat):aI × bT × Int × Int:=
 let V:=lu d l
 if V.2≠0 then(V.1,bT.new,1,V.2)else
 let U:=pY V.1
 if U.2≠0 then(U.1,bT.new,2,U.2)else
 let Y:=lF U.1
 if Y.2.2≠0 then(Y.1,Y.2.1,3,Y.2.2)else
 let W:=oJ X Y.1 Y.2.1
 if W.2.2≠0 then(W.1,W.2.1,4,W.2.2)else
 let Z:=vX X W.1 W.2.1
 if Z.2.2≠0 then(Z.1,Z.2.1,5,Z.2.2)else
 if X.bad≠0 then(Z.1,Z.2.1,0,0)else
 let T:=mV X Z.1 (nN X Z.1 Z.2.1)
 (T.1,T.2.1,7,T.2.2)
structure oK where
 d:aI
 f:Option bZ
inductive MW:oK→Int→Int→oK→Int→Prop
 |ag9 (d:aI) (n:Int):MW ⟨d,none⟩ 1 n ⟨d,none⟩ 12
 |pick (d:aI) (f:bZ) (n:Int):MW ⟨d,some f⟩ 1 n ⟨(eF X d f n).1,some (eF X d f n).2.1⟩ (eF X d f n).2.2
 |crash (d e:aI) (f:Option bZ) (n:Int) (h:FM d e):MW ⟨d,f⟩ 2 n ⟨e,none⟩ 0
 |arm (d:aI) (f:Option bZ) (n:Int):MW ⟨d,f⟩ 4 n ⟨d.arm n,f⟩ 0
 |grow (d:aI) (f:Option bZ) (n:Int):MW ⟨d,f⟩ 5 n ⟨(d.grow n).1,f⟩ (d.grow n).2
end
abbrev dV(l:aO):Prop:=∀v∈l,0≤v∧v≤255
theorem dV.app{m:aO}(h:dV l)(k:dV m):dV (l++m):=fun v Z=>(rH.1 Z).elim (h v) (k v)
theorem jR(v:Int):dV (dY v):=by
 intro x Z;simp only[dY,bJ,je,kS,or_false]at Z;omega
theorem acw(a b:Int):0≤bits .xor .u32 a b∧bits .xor .u32 a b≤4294967295:=by
 unfold bits;rw[IntKind.wrap_u32];omega
theorem BJ(l:aO):0≤jf l∧jf l≤4294967295:=acw _ _
theorem D9{v:Int}(h:0≤v∧v≤4294967295):bJ (v/16777216)*16777216+bJ (v/65536)*65536+bJ (v/256)*256+bJ v=v:=by
 unfold bJ;omega
theorem Ea(i:Nat):nS (p++l) (p.length+i)=nS l i:=by
 unfold nS;rw[dG,dG,ET aj]
 congr 2
 omega
theorem aaM(h:i<p):nS (p++l) i=nS p i:=by
 unfold nS;rw[dG,dG,JD h]
theorem Jt(k:Int)(d:aO):(iP k d).length=d+4:=by simp[iP]
theorem iG(k:Int)(d:aO):(dQ k d).length=d+8:=by simp[dQ,Jt,dY]
theorem KP{k:Int}{d r:aO}(h:d.length≤65536):iL (iP k d++r) 0=d.length:=by
 have Z:nS (iP k d++r) (0+1)=(d.length:Int)/65536:=rfl;have Y:nS (iP k d++r) (0+2)=(d.length:Int)/256%256:=rfl;have X:nS (iP k d++r) (0+3)=(d.length:Int)%256:=rfl;unfold iL;rw[Z,Y,X];omega
theorem JG{k:Int}{d p r:aO}(hk:k≠0)(h:d.length≤65536):nH (p++(dQ k d++r)) p=some ⟨k,d,p.length+(d.length+8)⟩:=by
 have hn:iL (p++(dQ k d++r)) p=d:=by
  have h1:iL (p++(dQ k d++r)) p=iL (dQ k d++r) 0:=by
   unfold iL;rw[Ea,Ea,Ea]
  rw[h1];unfold dQ;rw[wQ];exact KP h
 have h0:nS (p++(dQ k d++r)) p=k:=by
  have:=Ea (p:=p) (l:=dQ k d++r) 0;rw[dW]at this;rw[this];rfl
 have hl:(p++(dQ k d++r)).length=p+(d.length+8+r.length):=by simp[iG]
 have hdrop:(p++(dQ k d++r)).drop p=dQ k d++r:=List.drop_left
 have hc:((p++(dQ k d++r)).drop p).take (4+d.length)=iP k d:=by
  rw[hdrop];unfold dQ;rw[wQ];have e:4+d.length=(iP k d):=by rw[Jt];omega
  rw[e,pJ]
 have hs:yw (p++(dQ k d++r)) (p.length+4+d.length)=jf (iP k d):=by
  have e0:p.length+4+d.length=p+(iP k d):=Ht
  have hb:∀i,i<4→nS (p++(dQ k d++r)) (p.length+(iP k d)+i)=nS (dY (jf (iP k d))) i:=by
   intro i hi;have e1:p++(dQ k d++r)=(p++iP k d)++(dY (jf (iP k d))++r):=by unfold dQ;simp only[wQ]
   have e2:p.length+(iP k d).length+i=(p++iP k d).length+i:=Ht
   rw[e1,e2,Ea,aaM (by simpa[dY]using hi)]
  rw[e0];unfold yw;have b0:=hb 0 aj;rw[dW]at b0;rw[b0,hb 1 aj,hb 2 aj,hb 3 aj];exact D9 (BJ _)
 have hd:((p++(dQ k d++r)).drop (p.length+4)).take d=d:=by
  have e1:p++(dQ k d++r)=(p++ [k,(d.length:Int)/65536,bJ ((d.length:Int)/256),bJ d])++(d++(dY (jf (iP k d))++r)):=by
   unfold dQ
   conv=>lhs;unfold iP
   simp only[wQ];rfl
  have e2:p.length+4=(p++ [k,(d.length:Int)/65536,bJ ((d.length:Int)/256),bJ d]).length:=bK
  rw[e1,e2,List.drop_left,pJ]
 unfold nH;rw[hn,h0,hl,au aj,au hk,au aj,au aj,au aj,hc,hs,au bK,hd]
 congr 2
 omega
theorem Ql{k:Int}{d p:aO}{m:Nat}(hk:k≠0)(h:d.length≤65536)(hm:m<d+8):nH (p++(dQ k d).take m) p=none:=by
 have hl:(p++(dQ k d).take m).length=p+m:=by
  rw[mG,xO,iG];omega
 unfold nH
 by_cases h0:m=0
 ·grind
 have hb:∀i,i<m→nS (p++(dQ k d).take m) (p.length+i)=nS (dQ k d) i:=by
  intro i hi;rw[Ea];unfold nS;rw[dG,dG,kW hi]
 have h0':nS (p++(dQ k d).take m) p=k:=by
  have:=hb 0 aj;rw[dW]at this;rw[this];rfl
 rw[hl,au aj,h0',au hk]
 by_cases h4:m<4
 ·grind
 have hn:iL (p++(dQ k d).take m) p=d:=by
  unfold iL;rw[hb 1 aj,hb 2 aj,hb 3 aj];have:=KP (k:=k) (r:=dY (jf (iP k d))) h;unfold iL at this;exact this
 rw[au aj,hn,au aj,aF aj]
theorem Ac{v:Int}(h:0≤v∧v≤255):bJ v=v:=by unfold bJ;omega
theorem Gn{r:bV}(h:jQ r=true):FQ r.kind=true∧Aa r=true∧Et r=r:=by
 unfold jQ at h;simp only[jU]at h;exact⟨h.1.1,h.1.2,bV.same_iff.1 h.2⟩
theorem Ur{r:bV}(h:jQ r=true):(fQ r)=Qk r.kind:=by
 unfold fQ Qk;split
 ·rfl
 ·split
  ·rfl
  ·split<;>rfl
theorem wW(r:bV):(fQ r).length≤9:=by
 unfold fQ;split
 ·simp
 ·split
  ·simp[dY]
  ·split<;>simp[dY]
theorem Vg{r:bV}{e:Nat}(h:jQ r=true):Pn ⟨r.kind,fQ r,e⟩=some r:=by
 have T:=Ur h;obtain⟨U,W,Y⟩:=Gn h
 have S:Oe r.kind (fQ r)=r:=by
  have R:=tu U;obtain⟨k,s,n,l,c⟩:=r;unfold Aa Fb at W;unfold Et at Y;unfold Oe fQ;dsimp only at*
  by_cases Z:k=50
  ·subst Z
   simp at W Y;obtain⟨rfl,rfl,rfl⟩:=Y;simp only[tN];show bV.mk 50 0 0 0 (bJ c)=_;rw[Ac aj]
  ·rw[au Z]at*
   by_cases X:k=48
   ·subst X
    simp at W Y;obtain⟨rfl,rfl⟩:=Y;simp only[tN,au Z];show bV.mk 48 (bJ (s/16777216)*16777216+bJ (s/65536)*65536+bJ (s/256)*256+bJ s) (bJ n) 0 0=_;rw[D9 aj,Ac aj]
   ·rw[au X]at*
    by_cases V:k=49
    ·subst V
     simp at W Y;subst Y;simp only[tN,au Z,au X];show bV.mk 49 (bJ (s/16777216)*16777216+bJ (s/65536)*65536+bJ (s/256)*256+bJ s) (bJ n) (bJ (l/16777216)*16777216+bJ (l/65536)*65536+bJ (l/256)*256+bJ l) 0=_;rw[D9 aj,D9 aj,Ac aj]
    ·obtain rfl:k=51:=aj
     simp at W Y;obtain⟨rfl,rfl⟩:=Y;simp only[au Z,au X,au V];show bV.mk 51 (bJ (s/16777216)*16777216+bJ (s/65536)*65536+bJ (s/256)*256+bJ s) 0 (bJ (l/16777216)*16777216+bJ (l/65536)*65536+bJ (l/256)*256+bJ l) 0=_;rw[D9 aj,D9 aj]
 unfold Pn;dsimp only;rw[U,au bK,au (by rw[T];simp),S,aF h]
def bD(l:List bV):aO:=l.flatMap bH
theorem kN(r:bV):(bH r).length=(fQ r)+8:=iG _ _
theorem Ju{r:bV}(h:jQ r=true):r.kind≠0:=by
 have:=tu (Gn h).1;omega
theorem Us{l:List bV}(hl:∀r∈l,jQ r=true){c:bV}(hc:jQ c=true){m:Nat}(hm:m<(bH c)):∀(p:aO) (k:Nat),l<k→
  I4 (p++(bD l++(bH c).take m)) k p=(l,p.length+(bD l)):=by
 induction l with
 |nil=>
  intro p k hk;obtain⟨k,rfl⟩:∃j,k=j+1:=⟨k-1,by simp at hk;omega⟩;unfold I4;have:=Ql (p:=p) (Ju hc) (by have:=wW c;omega) (by rwa[kN]at hm:m<(fQ c)+8);simp only[bD,List.flatMap_nil,jI];unfold bH;rw[this];rfl
 |cons r l ih=>
  intro p k hk;obtain⟨k,rfl⟩:∃j,k=j+1:=⟨k-1,by simp at hk;omega⟩;have hr:=hl r bK;have e1:bD (r::l)=bH r++bD l:=rfl;have e2:p++(bD (r::l)++(bH c).take m)=p++(dQ r.kind (fQ r)++(bD l++(bH c).take m)):=by rw[e1];simp only[wQ];rfl
  unfold I4;rw[e2,JG (Ju hr) (by have:=wW r;omega)];simp only;rw[Vg hr];simp only;have e3:p++(dQ r.kind (fQ r)++(bD l++(bH c).take m))=(p++bH r)++(bD l++(bH c).take m):=Ht
  have e4:p.length+((fQ r).length+8)=(p++bH r):=by rw[mG,kN]
  have:=ih (fun x hx=>hl x (by simp[hx])) (p++bH r) k (by simp at hk;omega);rw[e3,e4,this];simp only[e1,mG,iO]
theorem Ik(l:List bV):l.length≤(bD l):=by
 induction l with
 |nil=>simp
 |cons r l Z=>
  have:(bD (r::l)).length=(bH r)+(bD l):=by simp[bD]
  rw[this,kN,xQ];omega
theorem MX(l:List bV):ru l=(bD l):=by
 induction l with
 |nil=>rfl
 |cons r l Z=>
  have:(bD (r::l)).length=(bH r)+(bD l):=by simp[bD]
  rw[this,←Z];simp[ru]
theorem OI{l:List bV}(Z:∀r∈l,jQ r=true){c:bV}(Y:jQ c=true)(X:m<(bH c)):J3 (bD l++(bH c).take m)=(l,(bD l).length):=by
 have:=Us Z Y X [] ((bD l++(bH c).take m).length+1) (by have:=Ik l;simp;omega);simpa[J3]using this
inductive wR:bV→Prop
 |start (s n:Int) (hs:0≤s∧s≤4294967295) (hn:0≤n∧n≤16):wR ⟨48,s,n,0,0⟩
 |done (s n l:Int) (hs:0≤s∧s≤4294967295) (hn:0≤n∧n≤15) (hl:0≤l∧l≤16777216):wR ⟨49,s,n,l,0⟩
 |fail (c:Int) (hc:1≤c∧c≤15):wR ⟨50,0,0,0,c⟩
 |fin (s l:Int) (hs:0≤s∧s≤4294967295) (hl:0≤l∧l≤16777216):wR ⟨51,s,0,l,0⟩
theorem FT{r:bV}(h:jQ r=true):wR r:=by
 obtain⟨U,Z,Y⟩:=Gn h;have T:=tu U;obtain⟨k,s,n,l,c⟩:=r;unfold Aa Fb at Z;unfold Et at Y;dsimp only at*
 by_cases X:k=50
 ·subst X
  simp at Z Y;obtain⟨rfl,rfl,rfl⟩:=Y;exact .fail c Z
 rw[au X]at*
 by_cases W:k=48
 ·subst W
  simp at Z Y;obtain⟨rfl,rfl⟩:=Y;exact .start s n Z.1 Z.2
 rw[au W]at*
 by_cases V:k=49
 ·subst V
  simp at Z Y;subst Y;exact .done s n l Z.1.1 Z.2 Z.1.2
 obtain rfl:k=51:=aj
 simp at Z Y;obtain⟨rfl,rfl⟩:=Y;exact .fin s l Z.1 Z.2
theorem KQ{r:bV}(h:wR r):fQ r=match r.kind with|50=>[bJ r.code]|48=>dY r.sum++ [bJ r.num]|49=>[bJ r.num]++dY r.len++dY r.sum|_=>dY r.len++dY r.sum:=by
 cases h<;>rfl
def In(A:dK)(i:Nat):Prop:=∃p,A=some p∧p.block=i
theorem In.mk'{p:Addr}:In (some p) p.block:=⟨p,rfl,rfl⟩
theorem In.eq(h:In q i):i=q:=by obtain⟨p,Z,Y⟩:=h;injection Z with Z;subst Z;exact Y.symm
theorem OwnB.lt{w:aK}{base n c:Nat}{A:dK}{l:aO}(h:OwnB w base A n c l){i:Nat}(hi:In A i):base≤i∧i<w:=by
 obtain⟨p,rfl,rfl⟩:=hi;exact h.row.lt _ rfl
theorem OwnB.dH(h:OwnB w base A n c l)(Y:bQ S w w')(X:∀i,In A i→¬S i):OwnB w' base A n c l:=
 ⟨h.len,mO h.row Y fun i Z=>by
   rcases A with _|q
   ·simp[Value.ownBlock]at Z
   ·simp only[Value.ownBlock,fD]at Z
    subst Z;exact X _ In.mk'⟩
theorem OwnB.I7(h:OwnB w base A n c l)(Z:bF w g t cs)(ht:t≠5):¬In A g:=by
 rintro⟨p,rfl,e⟩;exact dP h.row Z (jP ht) (by simp[Value.ownBlock,e])
theorem aoF{V:Array Oper}(S:o.guard=none)(s x:Operand)
  (M:o.op= .call {callee:=.builtin .append,args:=#[s,x],argTypes:=#[24,24]})
 {v:Int} (L:a.eval s=aG A n c) (U:OwnB w base A n c l)
   (hx:a.eval x=aG g 1 c') (K:w.heap[g]? =some (.cells #[.int .u8 v] 5 (0,0))) (H:n≤1000000) (J:base≤w)
   (h:∀B X w',OwnB w' base B (n+1) X (l++ [v])→bQ (In A) w w'→(∀i,In B i→In A i∨w≤i)→wpList prog V Q rest (a.put o.dst (aG B (n+1) X)) w'):
   wpList prog V Q (o::rest) a w:=by
  obtain⟨I,Y,R,P,O⟩:=iq Vf
  refine iy _ S s x _ M base 5 I _ 1 1 underlying24 Y R P O rfl aj _ n _ L U.row ⟨g,0,Option.none⟩ 1 c' [.int .u8 v] hx rfl
   (fH (cs:=#[.int .u8 v]) (t:=5) (fr:=(0,0)) K) (by simp[Value.oneCell']) aj (by unfold maxLen;omega) aj J _ rfl ?_
  intro G X F T W Z _;refine h _ _ _ ⟨by simp[U.len],by simpa using T⟩ (bQ.xB W fun i _ Y=>?_) fun i Y=>?_
  ·rcases A with _|p
   ·simp[Value.ownBlock]at Y
   ·simp only[Value.ownBlock,fD]at Y
    exact⟨p,rfl,Y.symm⟩
  ·have N:=Y.eq
   subst N;rcases Z with Z|rfl
   ·rcases A with _|r
    ·simp[Value.ownBlock]at Z
    ·simp only[Value.ownBlock,fD]at Z
     exact .inl ⟨r,rfl,Z⟩
   ·exact .inr (bC _)
theorem acB{T:Array Oper}{K:Act→aK→Prop}(S:o.guard=none)(s x:Operand)
  (M:o.op= .call {callee:=.builtin .append,args:=#[s,x],argTypes:=#[24,24]})
 {v:Int} (L:a.eval s=aG A n c) (V:OwnB w base A n c l)
   (hx:a.eval x=aG g 1 c') (J:w.heap[g]? =some (.cells #[.int .u8 v] 5 (0,0))) (G:n≤1000000) (I:base≤w)
   (h:∀B X w',OwnB w' base B (n+1) X (l++ [v])→bQ (In A) w w'→(∀i,In B i→In A i∨w≤i)→K (a.put o.dst (aG B (n+1) X)) w'):
   if Region.wanted o (yielded T a.tmps)=true then Oper.wp prog o a w K Q else E:=by
  obtain⟨H,Y,R,P,O⟩:=iq Vf
  refine step_append_lies _ S s x _ M base 5 H _ 1 1 underlying24 Y R P O rfl aj _ n _ L V.row ⟨g,0,Option.none⟩ 1 c' [.int .u8 v] hx rfl
   (fH (cs:=#[.int .u8 v]) (t:=5) (fr:=(0,0)) J) (by simp[Value.oneCell']) aj (by unfold maxLen;omega) aj I _ rfl ?_
  intro F X D U W Z _;refine h _ _ _ ⟨by simp[V.len],by simpa using U⟩ (bQ.xB W fun i _ Y=>?_) fun i Y=>?_
  ·rcases A with _|p
   ·simp[Value.ownBlock]at Y
   ·simp only[Value.ownBlock,fD]at Y
    exact⟨p,rfl,Y.symm⟩
  ·have N:=Y.eq
   subst N;rcases Z with Z|rfl
   ·rcases A with _|r
    ·simp[Value.ownBlock]at Z
    ·simp only[Value.ownBlock,fD]at Z
     exact .inl ⟨r,rfl,Z⟩
   ·exact .inr (bC _)
structure EN(w:World)(base g:Nat)(A:Option Addr)(c:Nat)(e:jO):Prop where
 blk:bF w g 402 #[aG A e.out.length c,.int .u64 e.low,.int .u64 e.r]
 own:OwnB w base A e.out.length c e.out
def Ah(w:aK)(base g:Nat)(A:dK)(e:jO)(w':aK):Prop:=
 ∃Z Y,EN w' base g Z Y e∧bQ (fun i=>i=g∨In A i) w w'∧∀i,In Z i→In A i∨w.heap.size≤i
theorem EN.not{e:jO}(h:EN w base g A c e):¬In A g:=h.own.I7 h.blk bn
theorem EN.dH{S:Nat→Prop}{w w':aK}{base g c:Nat}{A:dK}{e:jO}(h:EN w base g A c e)(Z:bQ S w w')(Y:¬S g)(X:∀i,In A i→¬S i):EN w' base g A c e:=⟨h.blk.dH Z Y,h.own.dH Z X⟩
theorem EN.keep{w w':aK}{base g c:Nat}{A:dK}{e:jO}(h:EN w base g A c e)(Z:aP w w'):EN w' base g A c e:=⟨h.blk.keep Z,h.own.keep Z⟩
theorem ae5{e:jO}(P:Bd 0 255 e.out)(K:e.out.length≤1000000)(w:aK)(h:EN w base g A c e):
  Calls prog 385 #[aY g] w fun r O=>r=bM (eP #[])∧OwnB O base A e.out c (uy e.out e.out)∧bQ (In A) w O:=by
 have V:=h.not;obtain⟨J,N⟩:=aV h.blk h.own;have Q:=J.c0;obtain⟨n,I⟩:∃n,e.out.length=n:=⟨_,rfl⟩;rw[I]at K Q N ⊢;generalize e.out=l at*;clear h;go_enter func385,ntmps385;go_wp2
 go_loopg [2] n (fun k H wr=>∃L,H= aB ((k:Int)-1)∧k≤n∧uy L k=uy l n∧Bd 0 255 L∧OwnB wr base A n c L∧bQ (In A) w wr)
 case atStart=>exact⟨l,rfl,bC _,rfl,P,N,bQ.refl _ _⟩
 case round=>
  obtain⟨L,rfl,z,Y,W,own,Z⟩:=hrel;have y:=bG Q Z V
  by_cases x:1≤gk
  ·obtain⟨m,rfl⟩:∃m,gk=m+1:=⟨gk-1,aj⟩
   have G:((m+1:Nat):Int)-1=(m:Int):=aj
   rw[G];obtain⟨q,rfl,F,E,U,T⟩:=own.form aj;have u:=U m aj;have t:=T m;have s:=dO W aj aj m;have D:g≠q:=fun e=>V (e▸In.mk')
   obtain⟨S,R⟩:=aV (own.store m) (fun v=>Z.setCell (p:=(aH q m)) (fun _=>In.mk') v);rw[show uy L (m+1)=if L.getD m 0=255 then uy (L.set m 0) m else L.set m (L.getD m 0+1)from rfl]at Y;change Hid _ at W Y;clear own Z U T Q P;generalize o:L.getD m 0=X at*
   by_cases M:X=255
   ·subst M
    rw[aF rfl]at Y;go_wp2;go_roundg m
    case measure=>omega
    case rel=>exact⟨L.set m 0,fA,aj,Y.out,Vh W aj,S 0,R _⟩
   ·rw[au M]at Y
    have C:¬X+1=0:=aj
    have B:X+1≤255:=aj
    go_wp2;exact aT (by simp[results,results385,go_sem]) rfl ⟨rfl,by rw[←Y.out];exact S _,R _⟩
  ·obtain rfl:gk=0:=aj
   change Hid _ at Y;go_wp2
   go_end0
   exact⟨rfl,by rw[←Y];exact own,Z⟩
theorem Ah.step{w w1 u:aK}{base g:Nat}{A A1 A2:dK}{c2:Nat}{e:jO}(h1:bQ (fun i=>i=g∨In A i) w w1)(h2:∀i,In A1 i→In A i∨w≤i)
  (Y:EN u base g A2 c2 e) (X:bQ (fun i=>i=g∨In A1 i) w1 u) (W:∀i,In A2 i→In A1 i∨w1≤i):Ah w base g A e u:=
 ⟨A2,c2,Y,h1.step X (fun i Z h=>by
   rcases h with rfl|h
   ·exact .inl rfl
   ·rcases h2 i h with h|h
    ·exact .inr h
    ·omega),fun i Z=>by
   rcases W i Z with h|h
   ·exact h2 i h
   ·exact .inr (dD h1.size h)⟩
theorem Ew(v:Int):IntKind.u8.wrap v=v%256:=by rw[IntKind.wrap_u8]
theorem EN.two{e:jO}(h:EN w base g A c e)(lo r:Int):Ah w base g A ⟨e.out,lo,r⟩ ((w.setCell ⟨g,1,none⟩ (.int .u64 lo)).setCell ⟨g,2,none⟩ (.int .u64 r)):=by
 have Z:=((bQ.refl (fun i=>i=g) w).setCell (p:=(aH g 1)) (fun _=>rfl) (.int .u64 lo)).setCell (p:=(aH g 2)) (fun _=>rfl) (.int .u64 r);exact⟨A,c,⟨(h.blk.store 1 _).store 2 _,h.own.dH Z (fun _ Y e=>h.not (e▸Y))⟩,Z.mono (fun _ _ h=>.inl h),fun _ h=>.inl h⟩
theorem EN.three{e:jO}(h:EN w base g A c e)(Z lo r:Int):EN (((w.setCell ⟨g,1,none⟩ (.int .u64 Z)).setCell ⟨g,2,none⟩ (.int .u64 r)).setCell ⟨g,1,none⟩ (.int .u64 lo)) base g A c ⟨e.out,lo,r⟩∧
  bQ (fun i=>i=g) w (((w.setCell ⟨g,1,none⟩ (.int .u64 Z)).setCell ⟨g,2,none⟩ (.int .u64 r)).setCell ⟨g,1,none⟩ (.int .u64 lo)):=by
 have Y:=(((bQ.refl (fun i=>i=g) w).setCell (p:=(aH g 1)) (fun _=>rfl) (.int .u64 Z)).setCell (p:=(aH g 2)) (fun _=>rfl) (.int .u64 r)).setCell (p:=(aH g 1)) (fun _=>rfl) (.int .u64 lo);exact⟨⟨((h.blk.store 1 _).store 2 _).store 1 _,h.own.dH Y (fun _ X e=>h.not (e▸X))⟩,Y⟩
theorem EN.carried{e:jO}(h:EN w0 base g A c e)(Z:l.length=e.out)(h0:bQ (fun i=>i=g) w w0)(X:OwnB w1 base A e.out c l)(Y:bQ (In A) w0 w1):Ah w base g A ⟨l,e.low,e.r⟩ w1:=
 ⟨A,c,⟨by show bF w1 g _ #[aG A l c,_,_];rw[Z];exact h.blk.dH Y h.not,by show OwnB w1 base A l c l;rw[Z];exact X⟩,(h0.mono (fun _ _ h=>.inl h)).trans (Y.mono fun _ _ h=>.inr h),fun _ h=>.inl h⟩
theorem EN.push{b':Nat}{e:jO}{v lo r:Int}(h:EN w base g A c e)(T:OwnB w1 base B (e.out.length+1) b' (e.out++ [v]))(W:aP w w0)(U:bQ (In A) w0 w1)(Y:∀i,In B i→In A i∨w0≤i):
  EN (((w1.setCell ⟨g,0,none⟩ (aG B (e.out.length+1:Nat) b')).setCell ⟨g,1,none⟩ (.int .u64 lo)).setCell ⟨g,2,none⟩ (.int .u64 r)) base g B b' ⟨e.out++ [v],lo,r⟩∧
  bQ (fun i=>i=g∨In A i) w (((w1.setCell ⟨g,0,none⟩ (aG B (e.out.length+1:Nat) b')).setCell ⟨g,1,none⟩ (.int .u64 lo)).setCell ⟨g,2,none⟩ (.int .u64 r))∧∀i,In B i→In A i∨w≤i:=by
 have X:=h.not;have S:=(((h.blk.keep W).dH U X).store 0 (aG B (e.out.length+1:Nat) b')).store 1 (.int .u64 lo)|>.store 2 (.int .u64 r);have R:=h.blk.lt;have Q:=W.size;refine⟨⟨?_,?_⟩,?_,fun i V=>?_⟩
 ·rw[show(jO.mk (e.out++ [v]) lo r).out.length=e.out.length+1 by simp]
  exact S
 ·rw[show(jO.mk (e.out++ [v]) lo r).out.length=e.out.length+1 by simp]
  refine T.dH ((((bQ.refl (fun i=>i=g) w1).setCell (p:=(aH g 0)) (fun _=>rfl) _).setCell (p:=(aH g 1)) (fun _=>rfl) _).setCell (p:=(aH g 2)) (fun _=>rfl) _) ?_;rintro i V rfl;rcases Y i V with Z|Z
  ·exact X Z
  ·omega
 ·exact(((((bQ.of_below W).step U (fun i _ h=>.inr h)).setCell (p:=(aH g 0)) (fun _=>.inl rfl) _).setCell (p:=(aH g 1)) (fun _=>.inl rfl) _).setCell (p:=(aH g 2)) (fun _=>.inl rfl) _)
 ·rcases Y i V with Z|Z
  ·exact .inl Z
  ·exact .inr aj
theorem Vp{e:jO}{x:Int}{b:Bool}(j:e.ok)(hx:8192≤x∧x+8192≤e.r)(hl:e.out.length≤900000)(w:aK)(qj:base≤w)(h:EN w base g A c e):
  Calls prog 384 #[aY g,.int .u64 x,.bool b] w fun r w'=>r=bM (eP #[])∧Ah w base g A (Jv e x b) w':=by
 obtain⟨HM,HL⟩:=aV (MZ (b:=b) j hx) (show(AA e x b).out.length≤900000 by rw[Na];exact hl);obtain⟨E,hE⟩:∃E,oZ 2 (AA e x b)=E:=⟨_,rfl⟩;unfold Jv;rw[hE];change Hid _ at hE;obtain⟨c0,R,c2⟩:=h.blk.s3;have B:=h.blk.frozen 0;have a:=h.blk.frozen 1;have f2:=h.blk.frozen 2;have b1:=j.aaN;have b2:=j.aaO;have b3:=j.r0;have b4:=j.r1;obtain⟨H,qg⟩:=aV h j.bd;have h0:=h.not;clear h j;cases b with
 |false=>
  go_enter func384,ntmps384;go_wp2_with fail
  have HO:Hid (Ah w base g A (AA e x false) (w.setCell ⟨g,2,none⟩ (.int .u64 x))):=
   ay ⟨A,c,⟨H.blk.store 2 (.int .u64 x),H.own.dH ((bQ.refl (fun i=>i=g) w).setCell (p:=(aH g 2)) (fun _=>rfl) _) (fun i hi e=>H.not (e▸hi))⟩,(bQ.refl _ w).setCell (p:=(aH g 2)) (fun _=>.inl rfl) _,fun _ h=>.inl h⟩
  clear c0 R c2 B a f2
  go_loopg [] (2:Nat) (fun k wr=>∃M,oZ k M=E∧M.mid k∧M.out+k≤900002∧Ah w base g A M wr)
  case atStart=>exact⟨_,hE,HM,by have:=HL.vI;omega,HO⟩
  case round=>
   obtain⟨M,U,W,hl,N,R,X,Q,L⟩:=hrel;obtain⟨u,t,k2⟩:=X.blk.s3;have b1:=W.aaN;have b2:=W.aaO;have b4:=W.r1
   by_cases s:M.r<16777216
   ·obtain⟨m,rfl⟩:∃m,gk=m+1:=by
     rcases gk with _|m
     ·have:=W.r0;omega
     ·exact⟨m,rfl⟩
    have I:=ay (Gp W s);unfold oZ at U;rw[aF s]at U
    have b3:0≤M.r:=by
     have h9:=W.r0;rcases Int.lt_or_le M.r 0 with n|S
     ·have:M.r*256^(m+1)≤0:=nV aj (Int.pow_nonneg aj)
      omega
     ·exact S
    have qa:=Q.size;have T:=fun o=>bF.alloc X.blk o
    obtain⟨G,f⟩:=aV X.not (and_low32 (x:=M.low*256) aj aj);change Hid _ at U X Q L T;clear W;have F:∀o,aN (wr.alloc o) g 0 (aG N M.out R):=fun o=>aC u (aJ wr o)
    have D:∀o,aN (wr.alloc o) g 1 (.int .u64 M.low):=fun o=>aC t (aJ wr o)
    go_wp2_with fail
    go_region_law(first|(refine acB kE _ _ kE kE ((X.out.own.alloc _).drew) kE (lV _ _) aj jy ?_;intro z V y K Z Y;have P:=((T.out _).keep (aU _ _).drew).dH Z G.out;have B:=P.frozen 0;have d0:aN y g 0 (aG N M.out R):=(P.at rfl))|fail)
    all_goals(
     rw[Ew]at K Z Y;have O:=P.store 0 (aG z (M.out.length+1:Nat) V);have d1:=O.c1;have a:=O.frozen 1;have J:=O.store 1 (.int .u64 (bits .and .u64 (M.low*256) 4294967295));have d2:=J.c2;have f2:=J.frozen 2;have l:=Z.size;change Hid _ at K Z Y;clear P O J d0 u t k2 F D B;go_wp2_with fail;go_roundg m
     case measure=>omega
     case rel=>
      refine⟨vY M,U,I.out,by simp[vY];omega,?_⟩;rw[f.out];obtain⟨v,q,p3⟩:=EN.push (lo:=M.low*256%4294967296) (r:=M.r*256) X K ((aJ wr _).drew) Z Y;exact Ah.step Q L v q p3)
   ·go_wp2_with fail
    exact eU (by simp[results,results384,go_sem]) rfl ⟨rfl,by
     have:M=E:=by
      rw[←U];rcases gk with _|k
      ·rfl
      ·unfold oZ;rw[au aj]
     subst this;exact⟨N,R,X,Q,L⟩⟩
 |true=>
  change Hid _ at h0
  by_cases hc:4294967295<e.low+x
  ·have f:=and_low32 (x:=e.low+x) aj aj
   have C:AA e x true=⟨uy e.out e.out,(e.low+x)%4294967296,e.r-x⟩:=by
    show xC e x=_;unfold xC;rw[aF hc]
   obtain⟨v,q⟩:=H.three (e.low+x) ((e.low+x)%4294967296) (e.r-x);obtain⟨qh,qi,HC⟩:=dB v q (ae5 (e:=⟨e.out,(e.low+x)%4294967296,e.r-x⟩) qg (by show e.out.length≤1000000;omega) _ v);have g1:aN (w.setCell ⟨g,1,none⟩ (.int .u64 (e.low+x))) g 2 (.int .u64 e.r):=(H.blk.store 1 _).at rfl
   have g2:=(H.blk.store 1 (.int .u64 (e.low+x))).frozen 2;have g3:aN ((w.setCell ⟨g,1,none⟩ (.int .u64 (e.low+x))).setCell ⟨g,2,none⟩ (.int .u64 (e.r-x))) g 1 (.int .u64 (e.low+x)):=((H.blk.store 1 _).store 2 _).at rfl
   have g4:=((H.blk.store 1 (.int .u64 (e.low+x))).store 2 (.int .u64 (e.r-x))).frozen 1;change Hid _ at C;clear v q;go_enter func384,ntmps384;go_wp2_with fail;refine HC.mono ?_;rintro rr w3 ⟨rfl,qe,qf⟩;have HO:Hid (Ah w base g A (AA e x true) w3):=ay (by rw[C];exact qh.carried (I5 _ _) qi qe qf);clear qe qf f c0 R c2 B a f2 g1 g2 g3 g4;go_wp2_with fail
   go_loopg [] (2:Nat) (fun k wr=>∃M,oZ k M=E∧M.mid k∧M.out+k≤900002∧Ah w base g A M wr)
   case atStart=>exact⟨_,hE,HM,by have:=HL.vI;omega,HO⟩
   case round=>
    obtain⟨M,U,W,hl,N,R,X,Q,L⟩:=hrel;have u:=X.blk.c0;have t:aN wr g 1 (.int .u64 M.low):=X.blk.at rfl
    have k2:aN wr g 2 (.int .u64 M.r):=X.blk.at rfl
    have b1:=W.aaN;have b2:=W.aaO;have b4:=W.r1
    by_cases s:M.r<16777216
    ·obtain⟨m,rfl⟩:∃m,gk=m+1:=by
      rcases gk with _|m
      ·have:=W.r0;omega
      ·exact⟨m,rfl⟩
     have I:=ay (Gp W s);unfold oZ at U;rw[aF s]at U
     have b3:0≤M.r:=by
      have h9:=W.r0;rcases Int.lt_or_le M.r 0 with n|S
      ·have:M.r*256^(m+1)≤0:=nV aj (Int.pow_nonneg aj)
       omega
      ·exact S
     obtain⟨h0,H1,H2,H3⟩:=jH U X Q L;have qa:=Q.size;have T:=fun o=>bF.alloc X.blk o
     obtain⟨G,f,d⟩:=dB X.not (and_low32 (x:=M.low*256) aj aj) T;clear U X Q L W T;have F:∀o,aN (wr.alloc o) g 0 (aG N M.out R):=fun o=>aC u (aJ wr o)
     have D:∀o,aN (wr.alloc o) g 1 (.int .u64 M.low):=fun o=>aC t (aJ wr o)
     go_wp2_with fail
     go_region_law(first|(refine acB kE _ _ kE kE ((H1.vI.own.alloc _).drew) kE (lV _ _) aj jy ?_;intro z V y K Z Y;have P:=((d.out _).keep (aU _ _).drew).dH Z G.out;have B:=P.frozen 0;have d0:aN y g 0 (aG N M.out R):=(P.at rfl))|fail)
     all_goals(
      rw[Ew]at K Z Y;have O:=P.store 0 (aG z (M.out.length+1:Nat) V);have d1:aN (y.setCell ⟨g,0,none⟩ (aG z (M.out.length+1:Nat) V)) g 1 (.int .u64 M.low):=O.at rfl
      have a:=O.frozen 1;have J:=O.store 1 (.int .u64 (bits .and .u64 (M.low*256) 4294967295));have d2:aN ((y.setCell ⟨g,0,none⟩ (aG z (M.out.length+1:Nat) V)).setCell ⟨g,1,none⟩ (.int .u64 (bits .and .u64 (M.low*256) 4294967295))) g 2 (.int .u64 M.r):=J.at rfl
      have f2:=J.frozen 2;have l:=Z.size;change Hid _ at K Z Y;clear P O J d0 u t k2 F D B;go_wp2_with fail;go_roundg m
      case measure=>omega
      case rel=>
       refine⟨vY M,h0,I.out,by simp[vY];omega,?_⟩;rw[f.out];obtain⟨v,q,p3⟩:=EN.push (lo:=M.low*256%4294967296) (r:=M.r*256) H1 K ((aJ wr _).drew) Z Y;exact Ah.step H2 H3 v q p3)
    ·go_wp2_with fail
     exact eU (by simp[results,results384,go_sem]) rfl ⟨rfl,by
      have:M=E:=by
       rw[←U];rcases gk with _|k
       ·rfl
       ·unfold oZ;rw[au aj]
      subst this;exact⟨N,R,X,Q,L⟩⟩
  ·have C:AA e x true=⟨e.out,e.low+x,e.r-x⟩:=by
    show xC e x=_;unfold xC;rw[au hc]
   have g1:aN (w.setCell ⟨g,1,none⟩ (.int .u64 (e.low+x))) g 2 (.int .u64 e.r):=(H.blk.store 1 _).at rfl
   have g2:=(H.blk.store 1 (.int .u64 (e.low+x))).frozen 2;have g3:aN ((w.setCell ⟨g,1,none⟩ (.int .u64 (e.low+x))).setCell ⟨g,2,none⟩ (.int .u64 (e.r-x))) g 1 (.int .u64 (e.low+x)):=((H.blk.store 1 _).store 2 _).at rfl
   have HO:Hid (Ah w base g A (AA e x true) ((w.setCell ⟨g,1,none⟩ (.int .u64 (e.low+x))).setCell ⟨g,2,none⟩ (.int .u64 (e.r-x)))):=ay (by rw[C];exact H.two _ _);change Hid _ at C;go_enter func384,ntmps384;go_wp2_with fail;clear c0 R c2 B a f2 g1 g2 g3
   go_loopg [] (2:Nat) (fun k wr=>∃M,oZ k M=E∧M.mid k∧M.out+k≤900002∧Ah w base g A M wr)
   case atStart=>exact⟨_,hE,HM,by have:=HL.vI;omega,HO⟩
   case round=>
    obtain⟨M,U,W,hl,N,R,X,Q,L⟩:=hrel;have u:aN wr g 0 (aG N M.out R):=X.blk.at rfl
    have t:aN wr g 1 (.int .u64 M.low):=X.blk.at rfl
    have k2:aN wr g 2 (.int .u64 M.r):=X.blk.at rfl
    have b1:=W.aaN;have b2:=W.aaO;have b4:=W.r1
    by_cases s:M.r<16777216
    ·obtain⟨m,rfl⟩:∃m,gk=m+1:=by
      rcases gk with _|m
      ·have:=W.r0;omega
      ·exact⟨m,rfl⟩
     have I:=ay (Gp W s);unfold oZ at U;rw[aF s]at U
     have b3:0≤M.r:=by
      have h9:=W.r0;rcases Int.lt_or_le M.r 0 with n|S
      ·have:M.r*256^(m+1)≤0:=nV aj (Int.pow_nonneg aj)
       omega
      ·exact S
     obtain⟨h0,H1,H2,H3⟩:=jH U X Q L;have qa:=Q.size;have T:=fun o=>bF.alloc X.blk o
     obtain⟨G,f,d⟩:=dB X.not (and_low32 (x:=M.low*256) aj aj) T;clear U X Q L W T;have F:∀o,aN (wr.alloc o) g 0 (aG N M.out R):=fun o=>aC u (aJ wr o)
     have D:∀o,aN (wr.alloc o) g 1 (.int .u64 M.low):=fun o=>aC t (aJ wr o)
     go_wp2_with fail
     go_region_law(first|(refine acB kE _ _ kE kE ((H1.vI.own.alloc _).drew) kE (lV _ _) aj jy ?_;intro z V y K Z Y;have P:=((d.out _).keep (aU _ _).drew).dH Z G.out;have B:=P.frozen 0;have d0:aN y g 0 (aG N M.out R):=(P.at rfl))|fail)
     all_goals(
      rw[Ew]at K Z Y;have O:=P.store 0 (aG z (M.out.length+1:Nat) V);have d1:aN (y.setCell ⟨g,0,none⟩ (aG z (M.out.length+1:Nat) V)) g 1 (.int .u64 M.low):=O.at rfl
      have a:=O.frozen 1;have J:=O.store 1 (.int .u64 (bits .and .u64 (M.low*256) 4294967295));have d2:aN ((y.setCell ⟨g,0,none⟩ (aG z (M.out.length+1:Nat) V)).setCell ⟨g,1,none⟩ (.int .u64 (bits .and .u64 (M.low*256) 4294967295))) g 2 (.int .u64 M.r):=J.at rfl
      have f2:=J.frozen 2;have l:=Z.size;change Hid _ at K Z Y;clear P O J d0 u t k2 F D B;go_wp2_with fail;go_roundg m
      case measure=>omega
      case rel=>
       refine⟨vY M,h0,I.out,by simp[vY];omega,?_⟩;rw[f.out];obtain⟨v,q,p3⟩:=EN.push (lo:=M.low*256%4294967296) (r:=M.r*256) H1 K ((aJ wr _).drew) Z Y;exact Ah.step H2 H3 v q p3)
    ·go_wp2_with fail
     exact eU (by simp[results,results384,go_sem]) rfl ⟨rfl,by
      have:M=E:=by
       rw[←U];rcases gk with _|k
       ·rfl
       ·unfold oZ;rw[au aj]
      subst this;exact⟨N,R,X,Q,L⟩⟩
abbrev Ip(m:jD)(Z:Nat):Array cO:=(m.ch.map (Value.int .i64)++ [Value.pointer (some (aH Z 0))]).toArray
structure EO(w:World)(base g ge:Nat)(A:Option Addr)(c:Nat)(m:jD):Prop where
 len:m.ch.length=64
 blk:bF w g 380 (Ip m ge)
 enc:EN w base ge A c m.e
def jE(w:aK)(base g Z:Nat)(A:dK)(m:jD)(w':aK):Prop:=
 ∃Y X,EO w' base g Z Y X m∧bQ (fun i=>i=g∨i=Z∨In A i) w w'∧∀i,In Y i→In A i∨w.heap.size≤i
section
variable{w w' w1 w2:aK}{base g ge c:Nat}{A:dK}{m m1 m2:jD}
theorem EO.ne(h:EO w base g ge A c m):g≠ge:=h.blk.apart h.enc.blk bn
theorem EO.amD(h:EO w base g ge A c m):¬In A g:=h.enc.own.I7 h.blk bn
theorem EO.at_(h:EO w base g ge A c m)(hi:i<64):w.cell? (aH g i)=some (aB (m.ch.getD i 0)):=by
 have Z:i<m.ch:=by rw[h.len];exact hi
 rw[h.blk.cell];simp only[Ip,oC];rw[JD (by simpa using Z),gX,fP Z,dG,fP Z];rfl
theorem EO.Zd(h:EO w base g ge A c m):w.cell? (aH g 64)=some (aY ge):=by
 have Z:=h.len;rw[h.blk.cell];simp only[Ip,oC];rw[ET (by simp[Z])];simp[Z]
theorem EO.dH{S:Nat→Prop}(h:EO w base g ge A c m)(Z:bQ S w w')(Y:¬S g)(X:¬S ge)(W:∀i,In A i→¬S i):EO w' base g ge A c m:=⟨h.len,h.blk.dH Z Y,h.enc.dH Z X W⟩
theorem EO.keep(h:EO w base g ge A c m)(Z:aP w w'):EO w' base g ge A c m:=⟨h.len,h.blk.keep Z,h.enc.keep Z⟩
theorem EO.store(h:EO w base g ge A c m){i:Nat}(hi:i<64)(v:Int):EO (w.setCell ⟨g,i,none⟩ v) base g ge A c ⟨m.ch.set i v,m.e⟩:=by
 have Z:=h.len;have Y:=(bQ.refl (fun i=>i=g) w).setCell (p:=(aH g i)) (fun _=>rfl) v;refine⟨by show(m.ch.set i v).length=64;rw[pG];exact Z,?_,h.enc.dH Y (fun e=>h.ne e.symm) (fun i hi e=>h.amD (e▸hi))⟩;have X:=h.blk.store i v
 have e:(Ip m ge).setIfInBounds i v=Ip ⟨m.ch.set i v,m.e⟩ ge:=by
  apply Array.ext';simp only[Ip,oh,List.map_set];rw[List.set_append,aF (by simp[Z];exact hi)]
 rwa[e]at X
theorem jE.refl(h:EO w base g ge A c m):jE w base g ge A m w:=⟨A,c,h,bQ.refl _ _,fun _ h=>.inl h⟩
theorem jE.step{A1:dK}(h2:bQ (fun i=>i=g∨i=ge∨In A i) w w1)(Z:∀i,In A1 i→In A i∨w≤i)(k:jE w1 base g ge A1 m2 w2):jE w base g ge A m2 w2:=by
 obtain⟨X,W,V,U,T⟩:=k;refine⟨X,W,V,h2.step U (fun i Y h=>?_),fun i Y=>?_⟩
 ·rcases h with rfl|rfl|h
  ·exact .inl rfl
  ·exact .inr (.inl rfl)
  ·rcases Z i h with h|h
   ·exact .inr (.inr h)
   ·omega
 ·rcases T i Y with h|h
  ·exact Z i h
  ·exact .inr (dD h2.size h)
theorem jE.then_(h:jE w base g ge A m1 w1)(k:∀Z Y,EO w1 base g ge Z Y m1→jE w1 base g ge Z m2 w2):jE w base g ge A m2 w2:=by
 obtain⟨Z,Y,X,W,V⟩:=h;exact jE.step W V (k Z Y X)
theorem jE.of_below(h:EO w base g ge A c m)(Z:aP w w'):jE w base g ge A m w':=⟨A,c,h.keep Z,bQ.of_below Z,fun _ h=>.inl h⟩
theorem jE.size(h:jE w base g ge A m w'):w.heap.size≤w':=by obtain⟨_,_,_,h,_⟩:=h;exact h.size
theorem jE.enc(h:EO w base g ge A c m){e:jO}(Y:Ah w base ge A e w'):jE w base g ge A ⟨m.ch,e⟩ w':=by
 obtain⟨X,W,V,Z,U⟩:=Y;refine⟨X,W,⟨h.len,h.blk.dH Z ?_,V⟩,Z.mono (fun i _ h=>.inr h),U⟩;rintro(e|e)
 ·exact h.ne e
 ·exact h.amD e
theorem bF.tH(Z:bF w q t cs)(h:EO w base g ge A c m)(Y:jE w base g ge A m2 w')(h1:t≠380)(h2:t≠402)(X:t≠5):bF w' q t cs:=by
 obtain⟨_,_,_,W,_⟩:=Y;refine Z.dH W ?_;rintro(e|e|e)
 ·exact Z.apart h.blk h1 e
 ·exact Z.apart h.enc.blk h2 e
 ·exact h.enc.own.I7 Z X e
theorem Own.tH{b:Nat}(Z:Own w b B n d l)(h:EO w base g ge A c m)(X:jE w base g ge A m2 w'):Own w' b B n d l:=by
 obtain⟨_,_,_,W,_⟩:=X;refine⟨Z.len,mO Z.row W fun i Y=>?_⟩;rintro(e|e|⟨p,rfl,e⟩)
 ·subst e;exact dP Z.row h.blk bn Y
 ·subst e;exact dP Z.row h.enc.blk bn Y
 ·exact EZ Z.row h.enc.own.row bn i Y (by simp[Value.ownBlock,e])
end
theorem ae6{ctx:Nat}{m:jD}{b:Bool}(Z:m.ok)(hx:ctx<64)(w:aK)(h:EO w base g j A c m):
  Calls prog 381 #[aY g,ctx,.bool b] w
   fun e Y=>e=bM (eP #[])∧EO Y base g j A c ⟨m.ch.set ctx (Eb (m.ch.getD ctx 0) b),m.e⟩∧bQ (fun i=>i=g) w Y:=by
 have k:=h.at_ hx;have f:=h.blk.frozen ctx;have V:=Rz Z.len Z.bd hx;obtain⟨X,W⟩:=aV (fun v=>h.store hx v) (fun v=>(bQ.refl (fun i=>i=g) w).setCell (p:=(aH g ctx)) (fun _=>rfl) v);generalize m.ch.getD ctx 0=p at*;cases b with
 |true=>
  go_enter func381,ntmps381;go_wp2
  go_region
  all_goals(
   go_wp2
   go_end0
   exact⟨rfl,(X _).keep (aU _ _).drew,(W _).drew⟩)
 |false=>
  go_enter func381,ntmps381;go_wp2
  go_region
  all_goals(
   go_wp2
   go_end0
   exact⟨rfl,(X _).keep (aU _ _).drew,(W _).drew⟩)
theorem ae7{p:Int}(Y:1≤p∧p≤2047)(w:aK):Calls prog 383 #[p] w fun e Z=>e=bM (.bool true)∧w=Z:=by
 go_enter func383,ntmps383;go_wp2;go_ret;exact sD
theorem ae8{e:jO}{b:Bool}(Z:e.ok)(W:e.out.length≤900000)(w:aK)(Y:base≤w)(h:EN w base g A c e):
  Calls prog 382 #[aY g,.bool b] w fun r X=>r=bM (eP #[])∧Ah w base g A (J4 e b) X:=by
 have T:=h.blk.c2;have S:=Z.r0;have b4:=Z.r1;have V:=ay (Vp (b:=b) Z (x:=e.r/2) aj W w Y h);unfold J4;go_enter func382,ntmps382;go_wp2_with fail;refine V.mono ?_;rintro r X ⟨rfl,U⟩;go_wp2
 go_end0
 exact⟨rfl,U⟩
theorem ae9{e:jO}{p:Int}{b:Bool}(Z:e.ok)(W:1≤p∧p≤2047)(V:e.out.length≤900000)(w:aK)(X:base≤w)(h:EN w base g A c e):
  Calls prog 380 #[aY g,p,.bool b] w fun r Y=>r=bM iI∧Ah w base g A (Eu e p b) Y:=by
 have P:=h.blk.c2;have U:=Z.r0;have b4:=Z.r1;have T:=Vk U W;have S:=ay (Vp (b:=b) Z T V w X h);unfold Eu;have R:=ay (ae7 W);go_enter func380,ntmps380;go_wp2_with fail;refine(R _).mono ?_;rintro r Y ⟨rfl,rfl⟩;go_wp2_with fail;refine S.mono ?_;rintro r Y ⟨rfl,Q⟩;go_wp2;go_ret;exact⟨rfl,Q⟩
theorem acC(hx:x<64)(w:aK):Calls prog 379 #[x] w fun e Z=>e=bM (.bool true)∧w=Z:=by
 have Y:(x:Int)<64:=aj
 go_enter func379,ntmps379;go_wp2;go_ret;exact sD
section
variable{base g ge c:Nat}{A:dK}{m:jD}
theorem EC{b:Bool}(W:m.ok)(V:m.e.out.length≤900000)(w:aK)(X:base≤w)(h:EO w base g ge A c m):
  Calls prog 378 #[aY g,.bool b] w fun e Z=>e=bM (.bool b)∧jE w base g ge A (ug m (.f b)) Z:=by
 have k:=h.Zd;obtain⟨U,T⟩:=aV (ae8 (b:=b) W.e V w X h.enc) (fun(e:jO) Z (Y:Ah w base ge A e Z)=>jE.enc h Y);go_enter func378,ntmps378;go_wp2_with fail;refine U.aQ ?_;rintro Z Y;have S:=ay (T _ _ Y);go_wp2;go_ret;exact⟨rfl,S⟩
theorem rW{b:Bool}(hx:x<64)(Z:m.ok)(I:m.e.out.length≤900000)(w:aK)(R:base≤w)(h:EO w base g ge A c m):
  Calls prog 376 #[aY g,x,.bool b] w fun e X=>e=bM (.bool b)∧jE w base g ge A (ug m (.c x b)) X:=by
 have k:=h.Zd;have H:=h.at_ hx;have O:=Rz Z.len Z.bd hx;have r:(x:Int)<64:=aj
 obtain⟨G,F,E,N,Q⟩:=rG (acC hx) (ae9 (b:=b) Z.e O I w.drew R (h.enc.keep (aU _ _).drew)) (fun(e:jO) X (V:Ah w.drew base ge A e X)=>jE.step (A1:=A) (bQ.of_below (aU w w).drew) (fun i h=>.inl h) (jE.enc (h.keep (aU _ _).drew) V)) Z ((Tq (b:=b) Z.e O).1);generalize T:m.ch.getD x 0=q at*;go_enter func376,ntmps376;go_wp2_with fail;refine(G _).aQ ?_;rintro X rfl;go_wp2
 go_region_held3(fun W=>aN W g 64 (aY ge)∧aN W g x (aB q))
  (first|exact⟨k,H⟩|exact⟨D,C⟩|fail)
  ((go_at_call 380;refine F.aQ ?_;rintro M V;have B:=E _ _ V;obtain⟨U,L,S,z,y⟩:=B;have D:=S.Zd;have C:aN M g x (aB q):=T▸S.at_ hx))
 go_wp2_with fail;have P:=ae6 (b:=b) (m:=⟨m.ch,Eu m.e q b⟩) ⟨N.len,N.bd,Q.out⟩ hx M S;refine P.aQ ?_;rintro K ⟨v,u⟩
 have Y:Hid (jE w base g ge A (ug m (.c x b)) K):=by
  have t:ug m (.c x b)=⟨m.ch.set x (Eb q b),Eu m.e q b⟩:=by rw[←T];rfl
  rw[t]
  have s:EO K base g ge U L ⟨m.ch.set x (Eb q b),Eu m.e q b⟩:=by
   have J:=v;simp only[T]at J;exact J
  exact ay (jE.step z y ⟨U,L,s,u.mono (fun _ _ h=>.inl h),fun _ h=>.inl h⟩)
 go_wp2;go_ret;exact⟨rfl,Y.out⟩
end
theorem Pq{U:Array Oper}{K:Act→aK→Prop}(T:o.guard=none)(s x:Operand)
  (M:o.op= .call {callee:=.builtin .append,args:=#[s,x],argTypes:=#[24,24]})
 {r:aO} (L:a.eval s=aG A n c) (Y:OwnB w base A n c l)
   (hx:a.eval x=aG B m c') (J:Lb w B m r) (G:n+m≤1000000) (N:base≤w)
   (h:∀B X w',OwnB w' base B (n+m) X (l++r)→Below base w w'→bQ (In A) w w'→K (a.put o.dst (aG B (n+m) X)) w'):
   if Region.wanted o (yielded U a.tmps)=true then Oper.wp prog o a w K Q else E:=by
  obtain⟨I,W,S,R,P⟩:=iq Vf;obtain⟨rfl,O⟩:=J;refine IV _ T s x _ M base 5 I _ 1 1 underlying24 W S R P rfl aj _ n _ L Y.row B r c' _ hx O (MR _ _) (by unfold maxLen;omega) aj N ?_;intro F X D V Z _;refine h _ _ _ ⟨by simp[Y.len],by simpa using V⟩ ((aU base w).grown Z N (fun k H=>(Y.row.lt k H).1)) (bQ.xB Z fun i _ W=>?_);rcases A with _|p
  ·simp[Value.ownBlock]at W
  ·simp only[Value.ownBlock,fD]at W
   exact⟨p,rfl,W.symm⟩
theorem Lb.dH{w w':aK}{S:Nat→Prop}{n:Nat}{A:dK}{l:aO}(h:Lb w A n l)(Z:bQ S w w')(Y:∀i,In A i→¬S i):Lb w' A n l:=⟨h.len,h.rd.dH Z (fun p X=>Y _ ⟨p,X,rfl⟩)⟩
theorem OwnB.alE(w:aK)(o:Obj):OwnB ((w.alloc o).alloc (aS #[] 5)) w (some (aH (w.heap.size+1) 0)) 0 0 []:=by
 have h:=OwnB.empty (w.alloc o) w bK;rw[show(w.alloc o).heap.size=w.heap.size+1 by simp]at h;exact h
theorem OwnB.cut(h:OwnB w base A n c l)(M:k≤n):OwnB w base A k c (l.take k):=by
 refine⟨by rw[xO,h.len];omega,?_⟩;have V:=h.row;refine⟨by simp[h.len];omega,?_⟩;rcases V.2 with⟨e,U⟩|⟨g,O,X,e,T,S,L,R,Q,P⟩
 ·injection e with Z N Y
  subst Z;have W:k=0:=aj
  subst W;exact .inl ⟨by rw[Y],rfl⟩
 ·injection e with Z U Y
  subst Z;subst Y;refine .inr ⟨g,c,X,rfl,T,S,aj,R,Q,?_⟩;rw[List.map_take,←P,List.take_take]
  congr 1
  omega
theorem ajE{e:jO}(v:e.ok)(hl:e.out.length≤900000)(w:aK)(h:EN w base g A c e):
  Calls prog 296 #[aY g] w fun r M=>∃B b,r=bM (aG B (uP e) b)∧OwnB M w B (uP e) b (uP e)∧aP w M:=by
 have K:=h.blk.c0;have J:=h.blk.c1;have b1:=v.aaN;have b2:=v.aaO;have HA:=ay h.own.lb;have a:∀o,aN ((w.alloc o).drew) g 0 (aG A e.out c):=fun o=>aC K (aJ w o).drew
 have qa:∀o,aN ((w.alloc o).drew) g 1 (.int .u64 e.low):=fun o=>aC J (aJ w o).drew
 have qe:∀o Q,aN (((w.alloc o).alloc Q).drew) g 0 (aG A e.out c):=fun o Q=>aC K (gU w o Q).drew
 have qf:∀o Q,aN (((w.alloc o).alloc Q).drew) g 1 (.int .u64 e.low):=fun o Q=>aC J (gU w o Q).drew
 obtain⟨R,S⟩:=kF ([IntKind.u8.wrap (e.low/16777216),IntKind.u8.wrap (e.low/65536),IntKind.u8.wrap (e.low/256),IntKind.u8.wrap e.low])
 have O:Hid (∀M:aK,Lb (M.alloc (aS #[.int .u8 (IntKind.u8.wrap (e.low/16777216)),.int .u8 (IntKind.u8.wrap (e.low/65536)),.int .u8 (IntKind.u8.wrap (e.low/256)),.int .u8 (IntKind.u8.wrap e.low)] 5)) M 4 R):=ay (fun M=>by
  rw[S];exact(OwnB.built (l:=[IntKind.u8.wrap (e.low/16777216),IntKind.u8.wrap (e.low/65536),IntKind.u8.wrap (e.low/256),IntKind.u8.wrap e.low]) (bC _) bK).lb)
 have qg:R.length=4:=by rw[S];rfl
 change Hid _ at S;clear h;go_enter func296,ntmps296;go_wp2;go_cut [3] (fun s wx=>∃B b,s=aG B (e.out.length+4:Nat) b∧OwnB wx w B (e.out.length+4) b (e.out++R)∧aP w wx)
 case first=>
  go_region_held3(fun W=>aN W g 0 (aG A e.out c)∧aN W g 1 (.int .u64 e.low))
   (first|exact⟨K,J⟩|exact⟨a _,qa _⟩|exact⟨qe _ _,qf _ _⟩|exact⟨aC K Z,aC J Z⟩|exact⟨aC K (Z.alloc Z.size _),aC J (Z.alloc Z.size _)⟩|exact⟨aC K Y,aC J Y⟩|fail)
   (first
     |(refine Pq kE (.tmp 9) (.tmp 33) kE kE (I.alloc _) kE (O p) aj (by have:=Z.size;first|(simp;done)|(simp;omega)) ?_;intro H b2 P T V E;have Y:aP w P:=(Z.alloc Z.size _).trans V)
     |(refine Pq kE (.tmp 9) (.tmp 33) kE kE (D) kE (by have hh:=((O (w.alloc (.cells #[] 5))).keep (aU _ _).drew).dH C (fun i u e=>by have t:=u.eq;have n:=e.eq;(try simp at t n);omega);rw[show(w.alloc (.cells #[] 5)).heap.size=w.heap.size+1 by simp]at hh;exact hh) aj (by have:=Z.size;exact this) ?_;intro H b2 P T V E;have T:OwnB P w H (e.out.length+4) b2 (e.out++R):=(by rw[dI]at T;exact T);have Y:aP w P:=Z.trans V)
     |(refine Pq kE (.tmp 9) (.tmp 33) kE kE (D) kE ((((O w).keep (aJ _ (.cells #[] 5))).keep (aU _ _).drew).dH C (fun i u e=>by have t:=u.eq;have n:=e.eq;(try simp at t n);omega)) aj (by have:=Z.size;exact this) ?_;intro H b2 P T V E;have T:OwnB P w H (e.out.length+4) b2 (e.out++R):=(by rw[dI]at T;exact T);have Y:aP w P:=Z.trans V)
     |(refine Pq kE (.tmp 4) (.tmp 8) kE kE (by first|exact(OwnB.empty w w (bC _)).drew|exact((OwnB.empty w w (bC _)).alloc _).drew|exact(OwnB.alE w _).drew) kE (by first|exact(HA.keep (aJ w _).drew)|exact(HA.keep (gU w _ _).drew)) aj (by first|(simp;done)|(simp;omega)) ?_;intro B1 b1 p I z C;have D:=I;have I:OwnB p w B1 e.out b1 e.out:=(by rw[dI]at I;exact I);have Z:aP w p:=(by first|exact((aJ w _).drew).trans z|exact((gU w _ _).drew).trans z))
     |fail)
  all_goals(
   go_wp2;go_meet;exact⟨H,b2,by first|rfl|rw[dI],T,Y⟩)
 case rest=>
  obtain⟨B,b,rfl,o,m⟩:=hcut
  have f:uP e=vg (e.out++R) (e.out.length+4):=by
   unfold uP;rw[S,Ew,Ew,Ew,Ew]
  have y:(e.out++R).length=e.out+4:=by rw[mG,qg]
  obtain⟨q,rfl,-,-,ho,-⟩:=o.form aj
  have qh:e.out.length+4≤b:=by
   obtain⟨g',qi,hv,-,-,t,-⟩:=Qh o.row aj;injection hv with e1 e2 e3
   omega
  generalize e.out++R=L at*;generalize hN:e.out.length+4=N at*;change Hid _ at f o m ho y;go_wp2
  go_loopg [3] N (fun k s wr=>s=aG q k b∧k≤N∧vg L k=vg L N∧wr=wc)
  case atStart=>exact⟨rfl,bC _,rfl,rfl⟩
  case round=>
   obtain⟨rfl,hk,G,rfl⟩:=hrel
   have U:∀j,j≤N→(uP e=L.take j)→OwnB wr w q (uP e) b (uP e)∧(uP e)=j:=fun j hj v=>by
    have hl:(L.take j)=j:=by rw[xO,y];omega
    rw[v,hl];exact⟨o.cut hj,rfl⟩
   change Hid _ at U;rcases gk with _|i
   ·have F:=U 0 aj (by rw[f,←G];rfl)
    go_wp2;go_ret;exact⟨some (aH q 0),b,by rw[F.2];rfl,F.1,m⟩
   ·have u:(i:Int)<((i+1:Nat):Int):=aj
    have hc:=ho i aj;have X:vg L (i+1)=if L.getD i 0=0 then vg L i else L.take (i+1):=rfl
    generalize L.getD i 0=x at*
    by_cases d:x=0
    ·rw[aF d,G]at X
     have qj:(x==0)=true:=by simpa using d
     change Hid _ at X;clear G;go_wp2;go_roundg i
     case measure=>omega
     case rel=>exact⟨fA,aj,X.symm,rfl⟩
    ·rw[au d,G]at X
     have F:=U (i+1) aj (by rw[f,X]);clear X G;go_wp2;go_ret;exact⟨some (aH q 0),b,by rw[F.2];rfl,F.1,m⟩
theorem ajF{m:jD}(Y:m.ok)(X:m.e.out.length≤900000)(w:aK)(h:EO w base g i A c m):
  Calls prog 276 #[aY g] w fun r Z=>∃B b,r=bM (aG B (uP m.e) b)∧OwnB Z w B (uP m.e) b (uP m.e)∧aP w Z:=by
 have k:=h.Zd;have W:=ay (ajE Y.e X w h.enc);go_enter func276,ntmps276;go_wp2_with fail;refine W.mono ?_;rintro r U ⟨B,b,rfl,o,V⟩;go_wp2;go_ret;exact⟨B,b,rfl,o,V⟩
structure Jr(w:World)(base W H n g c:Nat)(p:List Int):Prop where
 wd:1≤W∧W≤32
 ht:1≤H∧H≤32
 size:n=W*H
 may:GK W H p=true
 own:Own w base (some (aH g 0)) n c p
section
variable{w w':aK}{base W H n g c:Nat}{p:aO}
theorem Jr.fr(h:Jr w base W H n g c p):Fr w W H n g p:=⟨h.wd,h.ht,by rw[h.size];exact fC h.wd.2 h.ht.2,h.size,h.may,h.own.ls⟩
theorem Jr.keep(h:Jr w base W H n g c p)(Z:aP w w'):Jr w' base W H n g c p:=⟨h.wd,h.ht,h.size,h.may,h.own.keep Z⟩
theorem Jr.lt(h:Jr w base W H n g c p):g<w:=(h.own.row.lt g rfl).2
end
theorem UK{q:aO}(h:GK W H p=true)(Z:q.length=p)(Y:Bd 0 255 q):GK W H q=true:=by
 unfold GK at h ⊢;simp only[jU,oQ]at h ⊢;exact⟨⟨h.1.1,by rw[Z];exact h.1.2⟩,(oG 0 255 q).2 Y⟩
theorem alF{cs:aO}{a b:Int}(Z:Bd a b p)(X:Bd a b cs):Bd a b (Ir p i cs):=by
 intro v Y;simp only[Ir,rH]at Y;rcases Y with h|h|h
 ·exact Z v (D7 h)
 ·exact X v h
 ·exact Z v (gZ h)
theorem Fg{W x y m:Nat}{b p:aO}{u v:Int}(Z:Bd u v p)(Y:Bd u v b):∀j,Bd u v (IQ W x y m b p j)
 |0=>Z
 |j+1=>alF (Fg Z Y j) fun z X=>Y z (gZ (D7 X))
theorem RG:Bd 0 255 (GY K qp p l):=lK fun i _=>by unfold So.clip;omega
def AO(W x y n K qp:Nat)(mode:Int)(l p:aO):aO:=
 DI W x y n (GY K qp (vZ mode n (uQ W p x y n) (rC W p x y n) (yP W p x y)) l) p
theorem acM{T:dK}(Y:n=4∨n=8)(Z:Bd 0 255 p)(X:Ls w T n (uQ W p x y n))(V:Ls w L n (rC W p x y n)):Eds w n T L (uQ W p x y n) (rC W p x y n) (yP W p x y):=
 ⟨Y,X,V,lK fun _ _=>Ja Z _ _,lK fun _ _=>Ja Z _ _,Ja Z _ _⟩
theorem acN(hn:n=4∧K=4∨n=8∧K=6)(hq:qp≤15)(z:0≤mode∧mode≤3)(hx:x+n≤W)(hy:y+n≤H)(hl:Bd (-16320) 16320 l)(w:aK)
  (V:Jr w base W H N g c p) (o:Ls w L (2^K) l):
  Calls prog 295 #[uf W H g N c,x,y,n,mode,qp,aG L (2^K:Nat) d] w
   fun e Z=>e=bM (eP #[])∧Jr Z base W H N g c (AO W x y n K qp mode l p)∧bQ (fun i=>i=g) w Z:=by
 have R:n=4∨n=8:=aj
 have qa:4≤n∧n≤8:=aj
 have hK:K=4∨K=6:=aj
 have G:2^K=n*n:=by rcases hn with⟨rfl,rfl⟩|⟨rfl,rfl⟩<;>rfl
 have O:=aJ w (dA W H g N c);have E:=V.keep O;have X:=E.fr;have hg:=V.lt;obtain⟨H1,HF,H2⟩:=dB (Ye (c:=c) (x:=x) (y:=y) R hx hy _ X) (bF.new w 90 #[W,H,aG g N c]) (fun Z T t L' l' (hT:Ls Z T n (uQ W p x y n)) (o:Ls Z L' n (rC W p x y n))=>Vw (c:=t) (d:=l') z Z (acM R X.bd hT o));have u:Bd 0 255 (vZ mode n (uQ W p x y n) (rC W p x y n) (yP W p x y)):=Nh R (lK fun _ _=>Ja X.bd _ _) (lK fun _ _=>Ja X.bd _ _)
 have H3:=ay (fun Z P c' (hw:Below (w.alloc (dA W H g N c)) (w.alloc (dA W H g N c)) Z) (hP:Ls Z P (2^K) (vZ mode n (uQ W p x y n) (rC W p x y n) (yP W p x y)))=>
  ahi (c:=c') (d:=d) hK hq u hl Z hP ((o.keep O).keep hw))
 obtain⟨H4,HO⟩:=aV (fun Z B b' (q:aO) (k:Own Z base g N c p) (hB:Ls Z B (2^K) q) (hd:2^K≤b') (qe:∀r,B=some r→r.block≠g)=>acE (x:=x) (y:=y) (m:=n) qa G V.wd.2 V.ht.2 hx hy V.size Z k hB hd qe) E.own;have qf:=V.own.len
 have I:∀Z,Own Z base g N c (AO W x y n K qp mode l p)→Jr Z base W H N g c (AO W x y n K qp mode l p):=fun Z k=>
  ⟨V.wd,V.ht,V.size,UK V.may (by rw[k.len,qf]) (Fg X.bd RG n),k⟩
 unfold AO at*;generalize vZ mode n (uQ W p x y n) (rC W p x y n) (yP W p x y)=F at*;rw[←G]at H2;generalize hQ:(2^K:Nat)=Q at*;change Hid _ at O I;clear hQ V E X o hl u G;go_enter func295,ntmps295;go_wp2_with fail;refine H1.mono ?_;rintro e w1 ⟨T,t,D,dd,rfl,lt,ll,C⟩;go_wp2_with fail;refine(H2 _ _ _ _ _ lt ll).mono ?_;rintro e v ⟨P,pc,rfl,oP,Y⟩;have Y:=C.trans (Y.mono C.size);have lP:=oP.ls;have M:=HF.keep Y;obtain⟨h,f,b⟩:=M.s3;have A:w≠g:=aj
 have s:=Y.size;have qj:w.heap.size+1≤v.heap.size:=by simpa using s
 clear lt ll C oP M s;go_wp2
 go_region_held3(fun a=>aN a w 0 (aB W)∧aN a w 1 (aB H)∧aN a w 2 (aG g N c))
  (first
    |(exact⟨h,f,b⟩)
    |(exact⟨bG (aC h J) U A,bG (aC f J) U A,bG (aC b J) U A⟩)
    |(exact⟨aC h J,aC f J,aC b J⟩)|fail)
  (first
    |(go_at_call 294;refine(H3 _ _ _ Y.drew (lP.keep (aU _ _).drew)).mono ?_;rintro e w3 ⟨B3,b3,rfl,j,qg⟩;have J:aP v w3:=(aU v v).drew.trans qg)
    |(go_at_call 293;refine(H4 _ _ _ _ (HO.keep (Y.trans (J.mono Y.size))) j.ls j.cap (fun r hr=>by have h1:=(j.row.lt r.block (by subst hr;rfl)).1;have h2:v≤r.block:=h1;omega)).aQ ?_;rintro w4 ⟨o4,U⟩)
    |fail)
 obtain⟨qh,qi⟩:=aV (I _ o4) ((bQ.of_below (S:=fun i=>i=g) ((O.trans (Y.mono bK)).trans (J.mono aj))).trans U);clear o4 U j;go_wp2;exact eU (by simp[results,results295,go_sem]) rfl ⟨rfl,qh,qi⟩
theorem ajK(x y:Int)(w:aK)(T:Fr w W H n A p)(Z:bF w m 90 #[W,H,aG A n c]):
  Calls prog 337 #[x,y,aY m] w (Val w (atF W H p x y)):=by
 obtain⟨V,U,O,S,_,R⟩:=T;have N:=Zf V.1 x;have M:=Zf U.1 y;have Q:cla H y*W+cla W x<n:=by rw[S];exact ad8 (Zg V.1 x) (Zg U.1 y)
 obtain⟨b,o,rfl,L⟩:=R.at_ Q;obtain⟨K,J,I⟩:=Z.s3;unfold atF;generalize cla W x=X at*;generalize cla H y=Y at*;have G:(Y:Int)*(W:Int)=((Y*W:Nat):Int):=bK
 generalize Y*W=P at*;generalize p.getD (P+X) 0=v at*;go_enter func337,ntmps337;go_wp2;go_ret;exact⟨rfl,aU _ _⟩
theorem and_one:∀k,k<256→bits .and .i64 ((k:Nat)-128:Int) 1=((k:Nat)-128:Int)%2:=by decide+kernel
theorem aaW{x:Int}(h: -128≤x∧x<128):bits .and .i64 x 1=x%2:=by
 have:=and_one (x+128).toNat aj;rwa[show((x+128).toNat:Int)-128=x by omega]at this
theorem KW(h:Bd 0 255 p)(x y:Int):0≤atF W H p x y∧atF W H p x y≤255:=dO h aj aj _
def FV(W H:Nat)(p:aO)(hx hy:Int):Int:=
 let a:=atF W H p (hx/2) (hy/2)
 let b:=atF W H p (hx/2+1) (hy/2)
 let c:=atF W H p (hx/2) (hy/2+1)
 let d:=atF W H p (hx/2+1) (hy/2+1)
 if hx%2=0∧hy%2=0 then a else if hy%2=0 then(a+b+1)/2 else if hx%2=0 then(a+c+1)/2 else(a+b+c+d+2)/4
theorem ahk{hx hy:Int}(C: -128≤hx∧hx<128)(I: -128≤hy∧hy<128)(w:aK)(Q:Fr w W H n A p):
  Calls prog 322 #[uf W H A n c,hx,hy] w (Val w (FV W H p hx hy)):=by
 have V:=aJ w (dA W H A n c);have G:=bF.new w 90 #[W,H,aG A n c];have O:=ay (fun x y F (E:Below (w.alloc (dA W H A n c)) (w.alloc (dA W H A n c)) F)=>ajK x y F ((Q.keep V).keep E) (G.keep E));have P:=aaW C;have S:=aaW I;have v:=KW (W:=W) (H:=H) Q.bd (hx/2) (hy/2);have u:=KW (W:=W) (H:=H) Q.bd (hx/2+1) (hy/2);have t:=KW (W:=W) (H:=H) Q.bd (hx/2) (hy/2+1);have s:=KW (W:=W) (H:=H) Q.bd (hx/2+1) (hy/2+1);have r:IntKind.i64.wrap (hx/2+1)=hx/2+1:=iE _ aj;have q:IntKind.i64.wrap (hy/2+1)=hy/2+1:=iE _ aj;obtain⟨L,N,M,B⟩:=jH (O (hx/2) (hy/2)) (O (hx/2+1) (hy/2)) (O (hx/2) (hy/2+1)) (O (hx/2+1) (hy/2+1));change Hid _ at V;clear Q G O;unfold FV;generalize atF W H p (hx/2) (hy/2)=a at*;generalize atF W H p (hx/2+1) (hy/2)=b at*;generalize atF W H p (hx/2) (hy/2+1)=o at*;generalize atF W H p (hx/2+1) (hy/2+1)=d at*
 by_cases T:hx%2=0
 ·have z:(bits .and .i64 hx 1==0)=true:=by rw[P,T];rfl
  by_cases X:hy%2=0
  ·have K:(bits .and .i64 hy 1==0)=true:=by rw[S,X];rfl
   simp only[T,X,and_self,tN];clear P S T X;go_enter func322,ntmps322;go_wp2_with fail;refine(L _ (aU _ _)).aQ ?_;rintro J Z;go_wp2;go_ret;exact⟨rfl,V.trans (Z.mono bK)⟩
  ·have K:(bits .and .i64 hy 1==0)=false:=by rw[S,oO];exact X
   simp only[T,X,and_false,rJ,tN];clear P S T X;go_enter func322,ntmps322;go_wp2_with fail;refine(L _ (aU _ _)).aQ ?_;rintro J Z;go_wp2_with fail;refine(M _ Z).aQ ?_;rintro D Y;go_wp2;go_ret;exact⟨rfl,V.trans ((Z.trans (Y.mono Z.size)).mono bK)⟩
 ·have z:(bits .and .i64 hx 1==0)=false:=by rw[P,oO];exact T
  by_cases X:hy%2=0
  ·have K:(bits .and .i64 hy 1==0)=true:=by rw[S,X];rfl
   simp only[T,X,false_and,rJ,tN];clear P S T X;go_enter func322,ntmps322;go_wp2_with fail;refine(L _ (aU _ _)).aQ ?_;rintro J Z;go_wp2_with fail;refine(N _ Z).aQ ?_;rintro D Y;go_wp2_with fail;go_ret;exact⟨rfl,V.trans ((Z.trans (Y.mono Z.size)).mono bK)⟩
  ·have K:(bits .and .i64 hy 1==0)=false:=by rw[S,oO];exact X
   simp only[T,X,and_self,rJ];clear P S T X;go_enter func322,ntmps322;go_wp2_with fail;refine(L _ (aU _ _)).aQ ?_;rintro J Z;go_wp2_with fail;refine(N _ Z).aQ ?_;rintro D Y;have Y:=Z.trans (Y.mono Z.size);go_wp2_with fail;refine(M _ Y).aQ ?_;rintro m U;have U:=Y.trans (U.mono Y.size);go_wp2_with fail;refine(B _ U).aQ ?_;rintro l R;have R:=U.trans (R.mono U.size);go_wp2_with fail;go_ret;exact⟨rfl,V.trans (R.mono bK)⟩
abbrev afg(x y:Int):cO:=.agg #[aB x,aB y]
abbrev Aj(x y:Int):Obj:=.cells #[aB x,aB y] 364
def Vx(W H:Nat)(p:aO)(x y:Nat)(vx vy:Int)(k:Nat):Int:=FV W H p (2*((x:Int)+(k%8:Nat))+vx) (2*((y:Int)+(k/8:Nat))+vy)
def gK(W H:Nat)(p:aO)(x y:Nat)(vx vy:Int):aO:=jK 64 (Vx W H p x y vx vy)
theorem Px(hx:x≤32)(hy:y≤32)(e: -15≤vx∧vx≤15)(d: -15≤vy∧vy≤15)(w:aK)(C:Fr w W H n A p):
  Calls prog 302 #[uf W H A n c,x,y,aB 8,afg vx vy] w (Ve w 64 (gK W H p x y vx vy)):=by
 have T:=(aJ w (dA W H A n c)).trans ((aJ (w.alloc (dA W H A n c)) (Aj vx vy)).mono bK)
 obtain⟨Y,b,z,u,t,s,r⟩:∃Y:aK,Y.heap.size=w+2∧Hid (Fr Y W H n A p)∧Hid (bF Y w 90 #[W,H,aG A n c])∧Hid (bF Y (w.heap.size+1) 364 #[vx,vy])∧Hid (aP w Y)∧
   Hid (∀P,Below ((w.alloc (dA W H A n c)).alloc (Aj vx vy)) ((w.alloc (dA W H A n c)).alloc (Aj vx vy)) P→aP Y P):=
  ⟨_,bK,ay (C.keep T),ay ((bF.new w 90 #[W,H,aG A n c]).alloc (Aj vx vy)),ay (bF.new1 w (dA W H A n c) 364 #[vx,vy]),ay T,ay fun _ h=>h⟩
 obtain⟨q,o⟩:=aV (show(gK W H p x y vx vy).length=64 from fB _ _) (fun k (m:k<64)=>show(gK W H p x y vx vy).take (k+1)=(gK W H p x y vx vy).take k++ [Vx W H p x y vx vy k]from y7 _ m);go_enter func302,ntmps302;go_wp2_with(at_make;refine amC rfl _ _ rfl rfl rfl (n:=64) rfl aj ?_;intro P S X);have X:=r _ X;have l:=ay S
 go_loopg [11,12,13,19] (8:Nat) (fun k O a L N wr=>∃(j c:Nat) (B:dK),j+k=8∧N=j∧O=aG B (8*j) c∧
  Own wr (w.heap.size+2) B (8*j) c ((gK W H p x y vx vy).take (8*j))∧aP Y wr)
 case atStart=>exact⟨0,_,_,aj,rfl,rfl,by simpa using l.out,X⟩
 case round=>
  obtain⟨j,cj,B,hj,rfl,rfl,own,Z⟩:=hrel
  by_cases qa:j<8
  ·have E:(j:Int)<8:=aj
   go_wp2
   go_loopg [11,13,23] (8:Nat) (fun k O L N I=>∃(i c:Nat) (B:dK),i+k=8∧N=i∧O=aG B (8*j+i) c∧
    Own I (w.heap.size+2) B (8*j+i) c ((gK W H p x y vx vy).take (8*j+i))∧aP Y I)
   case atStart=>exact⟨0,_,_,aj,rfl,rfl,own,Z⟩
   case round=>
    obtain⟨i,ci,Bi,hi,rfl,rfl,own,Z⟩:=hrel
    by_cases qe:i<8
    ·have D:(i:Int)<8:=aj
     obtain⟨V,M,G⟩:=dB (o (8*j+i) aj) (u.keep Z) (t.keep Z);obtain⟨h0,h1,h2⟩:=M.out.s3;have g0:=G.out.c0;have g1:=G.out.c1;unfold Vx at V;rw[show(8*j+i)%8=i by omega,show(8*j+i)/8=j by omega]at V;have g:=ay (ahk (c:=c) (hx:=2*((x:Int)+i)+vx) (hy:=2*((y:Int)+j)+vy) aj aj _ (z.keep Z));generalize FV W H p _ _=v at*;have F:=Z.size
     go_wp2_with(first
      |(go_at_call 322;refine g.aQ ?_;rintro w2 U;have R:=own.keep U;have K:=dD F U.size)
      |(at_builtin;refine app1 rfl _ _ rfl rfl (R.alloc _) rfl (lV _ _) aj jy ?_;intro B3 c3 w3 Q J))
     go_roundg(gk-1)
     case measure=>omega
     case rel=>exact⟨i+1,_,_,aj,fA,rfl,by rw[←iO,V.out];exact Q,((Z.trans (U.mono F)).trans ((aJ _ _).mono K)).trans (J.mono aj)⟩
    ·obtain rfl:i=8:=aj
     go_wp2;go_roundg(8-j-1)
     case measure=>omega
     case rel=>exact⟨j+1,_,_,aj,fA,rfl,own,Z⟩
  ·obtain rfl:j=8:=aj
   have f:=ay (own.full q);go_wp2;go_ret;exact⟨_,_,rfl,f.lower aj,s.trans (Z.mono aj)⟩
theorem ahJ(v:Int)(h:j<l):(l.set j v).take (j+1)=l.take j++ [v]:=by
 rw[BH (by simpa using h),List.getElem_set_self,List.take_set_of_le (bC _)]
structure Ji where
 w:Int
 h:Int
 A:dK
 Du:aO
 c:Nat
def Ji.cells(f:Ji):List cO:=[aB f.w,aB f.h,aG f.A f.Du.length f.c]
def Dn(l:List Ji):List cO:=l.flatMap Ji.cells
theorem Yu(l m:List Ji):Dn (l++m)=Dn l++Dn m:=by simp[Dn]
theorem afI(l:List Ji)(i:Nat)(h:i<l):
  (Dn l)[i*3]? =some (aB l[i].w)∧(Dn l)[i*3+1]? =some (aB l[i].h)∧(Dn l)[i*3+2]? =some (.slice l[i].A l[i].Du.length l[i].c):=by
 induction l generalizing i with
 |nil=>simp at h
 |cons a r Z=>
  cases i with
  |zero=>simp[Dn,Ji.cells]
  |succ i=>
   have:=Z i (by simpa using h);simp only[Dn,Ji.cells,List.flatMap_cons,sZ]at*
   rw[show(i+1)*3=3+i*3 by omega,ET bK,(aj:3+i*3+1=3+(i*3+1)),ET bK,
    show 3+i*3+2=3+(i*3+2) by omega,ET bK]
   simpa using this
def RdF(w:aK)(A:dK)(l:List Ji):Prop:=Rd w 3 A l.length (Dn l)∧∀f∈l,yK .i64 w f.A f.Du∧f.Du.length≤9223372036854775807
theorem RdF.keep{w w':aK}{A:dK}{l:List Ji}(h:RdF w A l)(Z:Below w w w'):RdF w' A l:=
 ⟨Rd.keep h.1 Z,fun f Y=>⟨(h.2 f Y).1.keep Z,(h.2 f Y).2⟩⟩
theorem RdF.at_{l:List Ji}(h:RdF w A l)(hi:i<l):
  ∃b o,A=some (aH b o)∧w.cell? (aH b (o+i*3))=some (aB l[i].w)∧w.cell? (aH b (o+i*3+1))=some (aB l[i].h)∧
   w.cell? (aH b (o+i*3+2))=some (.slice l[i].A l[i].Du.length l[i].c):=by
 obtain⟨b,o,Y,Z⟩:=h.1.2 aj;obtain⟨X,W,V⟩:=afI l i hi;exact⟨b,o,Y,Z _ _ X,Z _ _ W,Z _ _ V⟩
theorem RdF.Du{w:aK}{A:dK}{l:List Ji}(h:RdF w A l){i:Nat}(hi:i<l):yK .i64 w l[i].A l[i].Du∧l[i].Du.length≤9223372036854775807:=
 h.2 _ (lS hi)
def fits(w h:Int)(l:List Ji):Bool:=l.all fun f=>decide (f.w=w)&&decide (f.h=h)
def anO:List Ji→aO
 | []=>[]
 |f::r=>[75,83,f.w/8,f.h/8,((f::r).length:Int)]++Bi.pack (So.ad6 f.w.toNat ((f::r).map Ji.Du))
theorem Gj{a b b':cO}(h:bF w z 79 #[a,b]):
  bQ (fun i=>i=z) w ((w.setCell ⟨z,0,none⟩ a').setCell ⟨z,1,none⟩ b')∧bF ((w.setCell ⟨z,0,none⟩ a').setCell ⟨z,1,none⟩ b') z 79 #[a',b']:=
 ⟨((bQ.refl (fun i=>i=z) w).setCell (p:=(aH z 0)) (fun _=>rfl) _).setCell (p:=(aH z 1)) (fun _=>rfl) _,
   by have:=(h.store 0 a').store 1 b';simpa using this⟩
theorem iW{a b:cO}(h:bF w z 79 #[a,b]):
  (w.cell? (aH z 0)=some a∧w.cell? (aH z 1)=some b)∧w.frozen? (aH z 0)=false∧w.frozen? (aH z 1)=false:=
 ⟨⟨h.at rfl,h.at rfl⟩,h.frozen 0,h.frozen 1⟩
end Go.Proofs.YtiaeohgghaaciaaGreatDoor
