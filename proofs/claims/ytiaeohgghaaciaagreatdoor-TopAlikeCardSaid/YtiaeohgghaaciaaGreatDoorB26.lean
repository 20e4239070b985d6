import Derived.Test.YtiaeohgghaaciaaGreatDoorB03
import Derived.Test.YtiaeohgghaaciaaGreatDoorB25
namespace Go.Proofs.YtiaeohgghaaciaaGreatDoor
open Go Go.Maps Go.RowKit Go.Extern.Stop Go.Stop Go.Extern Go.Proofs.Tryz
set_option linter.all false
set_option maxRecDepth 100000
set_option maxHeartbeats 4000000
variable{base c i j n:Nat}{A:Option Addr}{v:Value}
section
open Go.ChangeShapes Go.WideShapes Go.Joins Go.Deep
theorem ak2{α:Type}{Q:Nat→α→Prop}:∀(n:Nat),(∀i,i<n→∃o,Q i o)→∃l:List α,l.length=n∧∀i (h:i<l.length),Q i l[i]:=by
 intro n
 induction n with
 |zero=>intro _;exact⟨[],rfl,fun i h=>by simp at h⟩
 |succ n W=>
  intro h;obtain⟨l,Y,V⟩:=W fun i X=>h i aj
  obtain⟨o,U⟩:=h n aj;refine⟨l++ [o],by simp[Y],fun i X=>?_⟩
  by_cases Z:i<l.length
  ·rw[jJ Z];exact V i Z
  ·have:i=n:=by simp at X;omega
   subst this;simp[Y,U]
theorem Uk{H:Type}{enc:TypeId × cO→H}{W:aK}{Y:Nat→Bool}{X:Bool}{d:DataW H}{p:List MemPlace}(h:DataW.Trod enc prog W base Y X 24 (aG A n c) d p):
  n=0∨∃V S,d= .slice V S∧V.length=n:=by
 obtain⟨T,R⟩:=h;rcases open_ints underlying24 underlying5 aW R with⟨Z,_⟩|⟨x,m,N,Q,Z,_,M,L,P,U,_,_⟩
 ·simp[Value.cells]at Z
  exact .inl Z.2.1
 ·simp[Value.cells]at Z
  obtain⟨rfl,rfl,rfl⟩:=Z;simp only[jd]at U;refine .inr ⟨_,_,U.1,?_⟩;have O:n≤Q.length:=by rw[P];split<;>omega
  simp[lits,xO];omega
section
variable{H:Type}{enc:TypeId × cO→H}{W:aK}{base b0:Nat}{spare:Nat→Bool}{held:Bool}
theorem Ul{d:DataW H}{p:List MemPlace}(Q:Value.okWide prog W .any b0 24 v)(h:DataW.Trod enc prog W base spare held 24 v d p):
  ∃(A:dK) (l:aO) (c:Nat),v=aG A l.length c∧yK .u8 W A l∧l.length≤9223372036854775807∧l.length≤c∧c≤9223372036854775807∧∀n∈l,0≤n∧n≤255:=by
 obtain⟨J,Z,U,rfl⟩:=okWide_slice underlying24 Q;obtain⟨R,P⟩:=h;rcases open_ints underlying24 underlying5 aW P with⟨Y,_⟩|⟨x,n,c,T,Y,_,I,O,N,_,X,S⟩
 ·simp[Value.cells]at Y
  obtain⟨rfl,rfl,rfl⟩:=Y;exact⟨none,[],0,rfl,yK.nil,bK,bK,bK,bK⟩
 ·simp[Value.cells]at Y
  obtain⟨rfl,rfl,rfl⟩:=Y;unfold maxLen at O;have K:Z≤T.length:=by rw[N];split<;>omega
  have V:(T.take Z).length=Z:=by rw[xO];omega
  refine⟨some x,T.take Z,U,by rw[V],yK.Rw (fun i M=>?_),aj,aj,aj,fun n L=>?_⟩
  ·rw[V]at M
   have:=X i aj;rw[dG,fP aj]at this;rw[this,List.getElem_take];rfl
  ·exact bounds_u8 (S n (D7 L))
theorem adS{u:cO}{y:DataW H × List MemPlace}(h:DataW.trod enc prog W base spare held j 34 [u]=some y):
  ∃(A:dK) (l:aO) (c:Nat),u=aG A l.length c∧yK .i64 W A l∧l.length≤9223372036854775807∧∀v∈l,-9223372036854775808≤v∧v≤9223372036854775807:=by
 rcases open_ints underlying34 underlying3 aW h with⟨Z,_⟩|⟨x,n,c,V,Z,_,O,T,S,_,Y,U⟩
 ·simp only[List.cons.injEq,and_true]at Z
  exact⟨none,[],0,Z,yK.nil,bK,bK⟩
 ·simp only[List.cons.injEq,and_true]at Z
  unfold maxLen at T;have P:n≤V.length:=by rw[S];split<;>omega
  have X:(V.take n).length=n:=by rw[xO];omega
  refine⟨some x,V.take n,c,by rw[X];exact Z,yK.Rw (fun i R=>?_),aj,fun v Q=>bounds_i64 (U v (D7 Q))⟩;rw[X]at R;have:=Y i aj;rw[dG,fP aj]at this;rw[this,List.getElem_take];rfl
def anq(W:aK)(a:Xg):Prop:=(a.m≤9223372036854775807∧a.n≤9223372036854775807)∧(∀v∈a.l,-9223372036854775808≤v∧v≤9223372036854775807)∧Ls W a.A a.n a.l
theorem agJ{cs:List cO}{y:DataW H × List MemPlace}(P:cs.length=3)(h:DataW.trod enc prog W base spare held i 36 cs=some y):∃a:Xg,cs=acR.enc a∧anq W a:=by
 have Z:prog.cellsOf 3=1:=aW
 have U:prog.cellsOf 34=1:=aW
 obtain⟨O,X,_,B,_,Y,V⟩:=DataW.trod_struct underlying36 h
 match cs,P with
 | [N,M,L],_=>
   match O,Y with
   | [K,J,I],_=>
     obtain⟨G,R,_,z⟩:=kZ underlying3 (show DataW.trod enc prog W base spare held X 3 [N]=some K by simpa[Z]using V 0 _ rfl);obtain⟨F,Q,_,E⟩:=kZ underlying3 (show DataW.trod enc prog W base spare held X 3 [M]=some J by simpa[Z]using V 1 _ rfl);obtain⟨A,l,c,D,C,T,S⟩:=adS (show DataW.trod enc prog W base spare held X 34 [L]=some I by simpa[Z,U]using V 2 _ rfl);simp only[List.cons.injEq,and_true]at R Q;subst R Q D;exact⟨⟨G,F,A,l.length,c,l⟩,rfl,⟨(bounds_i64 E).2,T⟩,S,rfl,C⟩
theorem SV{d:DataW H}{p:List MemPlace}(J:Value.okWide prog W .any b0 25 v)(h:DataW.Trod enc prog W base spare held 25 v d p):
  ∃(A:dK) (l:List Xg) (c:Nat),v=aG A l.length c∧AcL W A l.length l∧l.length≤9223372036854775807:=by
 obtain⟨r,Y,U,rfl⟩:=okWide_slice underlying25 J;obtain⟨K,I⟩:=h;rcases open_slice underlying25 I with⟨Z,_⟩|⟨a,y,x,m,n,D,Pl,Z,_,q,G,S,_,F⟩
 ·simp[Value.cells]at Z
  obtain⟨rfl,rfl,rfl⟩:=Z;exact⟨none,[],0,rfl,⟨Qo.none W,fun a E=>by cases E⟩,bK⟩
 ·simp[Value.cells]at Z
  obtain⟨rfl,rfl,rfl⟩:=Z;unfold maxLen at G;have w:Y≤m:=by rw[S];split<;>omega
  have C:prog.cellsOf 36=3:=aW
  have R:∀i,i<Y→∃f:Xg,(∀j u,j<3→(acR.enc f)[j]? =some u→W.cell? (a.add (i*3+j))=some u)∧anq W f:=by
   intro i t;obtain⟨s,M,B⟩:=F i aj;rw[C]at M;obtain⟨_,Q,P⟩:=World.cells?_some M;obtain⟨f,rfl,O⟩:=agJ Q B;refine⟨f,fun j u T V=>?_,O⟩;have:=P j aj;rw[Go.Proofs.YtiaeohgghaaciaaGreatDoor.add_add]at this;rw[this,←V]
  obtain⟨l,N,L⟩:=ak2 Y R;refine⟨some a,l,U,by rw[N],⟨⟨rfl,Rd.Rw (tJ.aaX acR l) (fun j u V=>?_) bn⟩,fun o z=>?_⟩,aj⟩
  ·have T:j<(acR.flat l).length:=(lX.1 V).1
   rw[tJ.aaX]at T;have T:j<l.length*3:=T;have X:j/3<l.length:=aj
   have e:j=j/3*3+j%3:=aj
   rw[e]at V ⊢;exact(L _ X).1 _ u aj (by rw[←V];exact(tJ.flat_get acR X (aj:j%3<3)).symm)
  ·obtain⟨i,X,rfl⟩:=List.getElem_of_mem z
   exact(L i X).2
end
end
end Go.Proofs.YtiaeohgghaaciaaGreatDoor
