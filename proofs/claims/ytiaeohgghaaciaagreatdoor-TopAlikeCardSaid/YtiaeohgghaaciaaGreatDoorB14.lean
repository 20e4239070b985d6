import Derived.StringKeys
import Derived.Test.YtiaeohgghaaciaaGreatDoorB13
namespace Go.Proofs.YtiaeohgghaaciaaGreatDoor
open Go Go.Maps Go.RowKit Go.Extern.Stop Go.Stop Go.Extern Go.Proofs.Tryz
set_option linter.all false
set_option maxRecDepth 100000
set_option maxHeartbeats 4000000
variable{cs:Array Value}{b l:List Int}{N base c cap d g i j k m n x:Nat}{S:Nat→Prop}{A B:Option Addr}{t:TypeId}{w w':World}
section
structure Gv(X:bI)(s:Nat→Option iD)(t:aX):Prop where
 has:t.has=true
 n:t.n≤X.chunks
 step:t.step≤7
 data:1≤t.step→t.data=X.file t.n
 s2:t.step=2→∀v,s (X.temp t.n)=some v→v.data=[]
 s3:t.step=3→∀v,s (X.temp t.n)=some v→v.data=X.file t.n
 s4:t.step=4→∀v,s (X.temp t.n)=some v→v.data=X.file t.n∧v.safe=v.data.length
 s5:5≤t.step→(s (X.name t.n)).isSome=true
structure QX(X:bI)(d:aI)(j:bT)(ts:List aX):Prop where
 up:d.down=false
 bad:X.bad=0
 tasks:∀i,(ts.getD i aX.zero).has=true→Gv X d.see (ts.getD i aX.zero)
 apart:∀i k,(ts.getD i aX.zero).has=true→(ts.getD k aX.zero).has=true→(ts.getD i aX.zero).n=(ts.getD k aX.zero).n→i=k
 jw:∃v,d.see 0=some v∧Em X v.data
 done:∀n r,j.done n=some r→(d.see (iR n)).isSome=true
structure ahY(X:bI)(d:aI)(f:bZ):Prop where
 job:lQ X f.job
 st:f.job.state≠0
 up:f.down=false→d.down=false
 run:f.down=false→f.job.state=1→QX X d f.job f.tasks
variable{X:bI}{ρ:Nat→Nat}{d:aI}
theorem oN(n:Nat):X.temp n=X.name n+1:=by unfold bI.temp bI.name JF iR;split<;>omega
theorem wY(n:Nat):X.name n%2=0∧2≤X.name n:=by unfold bI.name iR;split<;>omega
theorem QY{a b:Nat}(h:X.name a=X.name b):a=b:=by unfold bI.name iR at h;split at h<;>split at h<;>omega
theorem NJ(h:n≠X.chunks):X.name n=iR n:=by unfold bI.name;rw[au h]
theorem abv(h:n≤X.chunks)(Z:1≤X.chunks):X.temp n<4+2*X.chunks:=by unfold bI.temp JF;split<;>omega
theorem Gv.keep{s s':Nat→Option iD}{t:aX}(h:Gv X s t)(h1:s' (X.temp t.n)=s (X.temp t.n))(h2:(s (X.name t.n)).isSome=true→(s' (X.name t.n)).isSome=true):Gv X s' t:=
 ⟨h.has,h.n,h.step,h.data,fun e v Z=>h.s2 e v (by rw[←h1];exact Z),fun e v Z=>h.s3 e v (by rw[←h1];exact Z),fun e v Z=>h.s4 e v (by rw[←h1];exact Z),fun e=>h2 (h.s5 e)⟩
theorem XI(n:Nat):X.cont (X.name n)=X.file n:=by
 unfold bI.cont bI.name bI.file iR;split
 ·rfl
 ·grind
theorem Fz(Z:X.bad=0){t:aX}(Y:t.n≤X.chunks)(hd:t.data=X.file t.n):gq X (X.xR t):=by
 unfold bI.xR;rw[hd];unfold bI.file;split
 ·exact .fin Z
 ·exact .done t.n aj
structure wU(X:bI)(n:Nat)(s s':Nat→Option iD):Prop where
 temp:∀m,m≠n→s' (X.temp m)=s (X.temp m)
 name:∀m,(s (X.name m)).isSome=true→(s' (X.name m)).isSome=true
 jw:(∃v,s 0=some v∧Em X v.data)→∃v,s' 0=some v∧Em X v.data
theorem wU.refl(n:Nat)(s:Nat→Option iD):wU X n s s:=⟨fun _ _=>rfl,fun _ h=>h,fun h=>h⟩
theorem wU.same{s s':Nat→Option iD}(h:∀x,s' x=s x):wU X n s s':=⟨fun _ _=>h _,fun _ k=>by rw[h];exact k,fun k=>by rw[h];exact k⟩
theorem wU.own{s s':Nat→Option iD}(h:∀x,x≠X.temp n→s' x=s x):wU X n s s':=by
 refine⟨fun m Z=>h _ fun e=>?_,fun m k=>?_,fun k=>?_⟩
 ·rw[oN,oN]at e
  exact Z (QY (X:=X) aj)
 ·rw[h]
  ·exact k
  ·rw[oN]
   have:=wY (X:=X) m;have:=wY (X:=X) n;omega
 ·rw[h]
  ·exact k
  ·rw[oN];omega
structure Ub(X:bI)(d:aI)(t:aX)(S:vO)(j0:bT):Prop where
 inv:∃ρ,bY X ρ S.d
 job:lQ X S.job
 st:S.job.state≠0
 up:S.err≠10→S.d.down=false
 far:S.err≠10→wU X t.n d.see S.d.see
 done:∀n r,S.job.done n=some r→(∃r,j0.done n=some r)∨(n<X.chunks∧n=t.n∧5≤t.step)
 next:S.err=0→t.step<7→Gv X S.d.see ⟨true,t.n,t.step+1,S.data⟩
theorem OW(j:bT)(r:bV):(j.apply r).2≠10∧((j.apply r).2≠0→(j.apply r).1=j):=by
 unfold bT.apply;split
 ·grind
 ·grind
theorem Me(j:bT)(r:bV)(h:j.state≠0):(j.apply r).1.state≠0:=by
 unfold bT.apply;split
 ·exact h
 ·grind
theorem NK(j:bT)(r:bV){n:Nat}{q:bV}(h:(j.apply r).1.done n=some q):(∃q,j.done n=some q)∨(r.kind=49∧n=r.num.toNat∧r.num<j.chunks):=by
 unfold bT.apply at h;split at h
 ·grind
 ·grind
theorem vU.up{r:aI × Int}{f:Nat→Option iD}(h:vU d r f)(e:r.2≠10):r.1.down=false:=by
 by_cases Z:r.2=0
 ·exact(h.ok Z).1
 ·rcases h.no Z with Y|Y
  ·omega
  ·exact Y.2.1
theorem vU.far{r:aI × Int}{f:Nat→Option iD}(h:vU d r f)(e:r.2≠10)(V:r.2=0→wU X n d.see f):wU X n d.see r.1.see:=by
 by_cases Y:r.2=0
 ·have Z:=(h.ok Y).2
  have W:=V Y;exact⟨fun m U=>by rw[Z];exact W.temp m U,fun m k=>by rw[Z];exact W.name m k,fun k=>by obtain⟨v,T,S⟩:=W.jw k;exact⟨v,by rw[Z];exact T,S⟩⟩
 ·rcases h.no Y with Z|Z
  ·omega
  ·exact wU.same Z.2.2
theorem Uc(hX:X.ok)(hd:bY X ρ d)(hu:d.down=false)(hb:X.bad=0){f:bZ}(hj:lQ X f.job)(hs:f.job.state=1)(hjw:∃v,d.see 0=some v∧Em X v.data){t:aX}(ht:Gv X d.see t):Ub X d t (eG X d f t) f.job:=by
 have hs0:f.job.state≠0:=aj
 have h1c:=hX.good hb;have hodd:X.temp t.n%2=1:=by have:=wY (X:=X) t.n;rw[oN];omega
 obtain⟨v0,hv0,hw0⟩:=hjw;obtain⟨n0,hn0,hf0⟩:=uo hv0;obtain⟨hh,hn,hst,hdat,h2,h3,h4,h5⟩:=ht;have hkept:∀n r,f.job.done n=some r→(∃r,f.job.done n=some r)∨(n<X.chunks∧n=t.n∧5≤t.step):=fun n r h=>.inl ⟨r,h⟩
 obtain⟨th,tn,ts,td⟩:=t;dsimp only at*
 match ts,hst with
 |0,_=>
  exact⟨⟨ρ,hd⟩,hj,hs0,fun _=>hu,fun _=>wU.refl _ _,hkept,fun _ _=>⟨rfl,hn,by show 1≤7;omega,fun _=>rfl,(fun e=>by cases e),(fun e=>by cases e),(fun e=>by cases e),fun e=>by dsimp only at e;omega⟩⟩
 |1,_=>
  have hw:=DY hd hu (X.temp tn);obtain⟨ρ',hi⟩:=hd.create (abv hn h1c) (.inl hodd)
  exact⟨⟨ρ',hi⟩,hj,hs0,fun e=>hw.up e,fun e=>hw.far e fun _=>wU.own fun x hx=>au hx,hkept,fun e _=>⟨rfl,hn,by show 2≤7;omega,fun _=>hdat aj,fun _ v hv=>by
   replace hv:aI.see (d.create (X.temp tn)).1 (X.temp tn)=some v:=hv
   rw[(hw.ok e).2,aF rfl]at hv;injection hv with hv
   rw[←hv],(fun e=>by cases e),(fun e=>by cases e),fun e=>by dsimp only at e;omega⟩⟩
 |2,_=>
  have hw:=AY hd hu (X.temp tn) td;have hi:=hd.append (x:=X.temp tn) (b:=td) (.inl hodd)
  exact⟨⟨ρ,hi⟩,hj,hs0,fun e=>hw.up e,fun e=>hw.far e fun _=>wU.own fun x hx=>au hx,hkept,fun e _=>⟨rfl,hn,by show 3≤7;omega,fun _=>hdat aj,(fun e=>by cases e),fun _ v hv=>by
   replace hv:aI.see (d.append (X.temp tn) td).1 (X.temp tn)=some v:=hv
   rw[(hw.ok e).2,aF rfl]at hv;obtain⟨u,hu,rfl⟩:=nU.1 hv;show u.data++td=_;rw[h2 rfl u hu,hdat aj,jI],(fun e=>by cases e),fun e=>by dsimp only at e;omega⟩⟩
 |3,_=>
  have hw:=DL hd hu (X.temp tn);have hi:=hd.sync (x:=X.temp tn) (.inl hodd)
  exact⟨⟨ρ,hi⟩,hj,hs0,fun e=>hw.up e,fun e=>hw.far e fun _=>wU.own fun x hx=>au hx,hkept,fun e _=>⟨rfl,hn,by show 4≤7;omega,fun _=>hdat aj,(fun e=>by cases e),(fun e=>by cases e),fun _ v hv=>by
   replace hv:aI.see (d.sync (X.temp tn)).1 (X.temp tn)=some v:=hv
   rw[(hw.ok e).2,aF rfl]at hv;obtain⟨u,hu,rfl⟩:=nU.1 hv;exact⟨h3 rfl u hu,rfl⟩,fun e=>by dsimp only at e;omega⟩⟩
 |4,_=>
  have hw:=Ie hu (X.temp tn) (X.name tn);have hne:=wY (X:=X) tn
  have hi:=hd.rename (x:=X.temp tn) (z:=X.name tn) (oN tn) hne.1 (fun m hm=>⟨fun e=>aj,fun _=>by
   have:=h4 rfl _ (Gu hm);exact⟨hb,by rw[XI];exact this.1,this.2⟩⟩)
  refine⟨⟨ρ,hi⟩,hj,hs0,fun e=>hw.up e,fun e=>hw.far e fun e0=>⟨fun m hm=>?_,fun m k=>?_,fun k=>?_⟩,hkept,fun e _=>⟨rfl,hn,by show 5≤7;omega,fun _=>hdat aj,(fun e=>by cases e),(fun e=>by cases e),(fun e=>by cases e),fun _=>?_⟩⟩
  ·have k1:X.temp m≠X.name tn:=by have:=wY (X:=X) m;rw[oN];omega
   have k2:X.temp m≠X.temp tn:=fun e=>hm (QY (X:=X) (by rw[oN,oN]at e;exact Nat.succ.inj e))
   rw[au k1,au k2]
  ·have hr:=Kv (d:=d) e0
   by_cases e:X.name m=X.name tn
   ·grind
   ·rw[au e,au (by have:=wY (X:=X) m;rw[oN];omega)];exact k
  ·grind
  ·show(aI.see (d.rename (X.temp tn) (X.name tn)).1 (X.name tn)).isSome=true
   rw[(hw.ok e).2,aF rfl];exact Kv (d:=d) e
 |5,_=>
  have hw:=xw hu;have hi:=hd.ji
  exact⟨⟨ρ,hi⟩,hj,hs0,fun e=>hw.up e,fun e=>hw.far e fun _=>wU.refl _ _,hkept,fun e _=>⟨rfl,hn,by show 6≤7;omega,fun _=>hdat aj,(fun e=>by cases e),(fun e=>by cases e),(fun e=>by cases e),fun _=>by
   show(aI.see d.ji.1 (X.name tn)).isSome=true;rw[(hw.ok e).2];exact h5 aj⟩⟩
 |6,_=>
  have hg:gq X (X.xR ⟨th,tn,6,td⟩):=Fz hb hn (hdat aj);have hw:=AY hd hu 0 (bH (X.xR ⟨th,tn,6,td⟩))
  have hi:=hd.append (x:=0) (b:=bH (X.xR ⟨th,tn,6,td⟩)) (.inr ⟨rfl,fun n e=>by
   rw[hn0]at e;injection e with e;subst e
   rw[hf0];exact⟨(hw0.app hg).jl,hw0.part hg _⟩⟩)
  refine⟨⟨ρ,hi⟩,hj,hs0,fun e=>hw.up e,fun e=>hw.far e fun _=>⟨fun m _=>?_,fun m k=>?_,fun _=>?_⟩,hkept,fun e _=>⟨rfl,hn,by show 7≤7;omega,fun _=>hdat aj,(fun e=>by cases e),(fun e=>by cases e),(fun e=>by cases e),fun _=>?_⟩⟩
  ·rw[au (by rw[oN];omega)]
  ·grind
  ·rw[aF rfl,hv0]
   exact⟨_,rfl,hw0.app hg⟩
  ·show(aI.see (d.append 0 (bH (X.xR ⟨th,tn,6,td⟩))).1 (X.name tn)).isSome=true
   rw[(hw.ok e).2,au (by have:=wY (X:=X) tn;omega)];exact h5 aj
 |7,_=>
  have hg:gq X (X.xR ⟨th,tn,7,td⟩):=Fz hb hn (hdat aj);have hw:=DL hd hu 0;have hi:=hd.sync (x:=0) (.inr rfl)
  have RZ:(d.sync 0).2≠10→wU X tn d.see (d.sync 0).1.see:=fun e=>hw.far e fun _=>⟨fun m _=>by
   rw[au (by rw[oN];omega)],fun m k=>by
   rw[au (by have:=wY (X:=X) m;omega)];exact k,fun _=>by
   rw[aF rfl,hv0];exact⟨_,rfl,hw0⟩⟩
  show Ub X d ⟨th,tn,7,td⟩ ⟨(lZ d f.job (X.xR ⟨th,tn,7,td⟩)).1,(lZ d f.job (X.xR ⟨th,tn,7,td⟩)).2.1,f.made,td,(lZ d f.job (X.xR ⟨th,tn,7,td⟩)).2.2⟩ f.job;unfold lZ;dsimp only
  by_cases e0:(d.sync 0).2=0
  ·rw[au (by rw[e0];simp)]
   refine⟨⟨ρ,hi⟩,hj.apply hX hg,Me _ _ hs0,fun _=>(hw.ok e0).1,fun _=>RZ (by rw[e0];decide),fun n r h=>?_,fun _ h=>absurd h (by show¬7<7;omega)⟩;rcases NK _ _ h with h1|⟨h1,h2,h3⟩
   ·exact .inl h1
   ·refine .inr ?_
    unfold bI.xR at h1 h2 h3;dsimp only at h1 h2 h3;split at h1
    ·cases h1
    ·rename_i hne
     rw[au hne]at h2;have:n=tn:=by rw[h2];show((tn:Nat):Int).toNat=tn;omega
     exact⟨aj,this,by show 5≤7;omega⟩
  ·rw[aF e0]
   exact⟨⟨ρ,hi⟩,hj,hs0,fun e=>hw.up e,RZ,hkept,fun _ h=>absurd h (by show¬7<7;omega)⟩
 |k+8,h=>omega
end
section
variable{X:bI}{ρ:Nat→Nat}{d:aI}
theorem JQ(l:List aX)(w:Nat)(t:aX)(i:Nat):(l.set w t).getD i aX.zero=if i=w∧w<l then t else l.getD i aX.zero:=Ht
theorem Uy{j:bT}(h:j.missing=[])(Z:n<j.chunks.toNat):∃r,j.done n=some r:=by
 unfold bT.missing at h;rw[List.filter_eq_nil_iff]at h;have:=h n (yH.2 Z);cases e:j.done n with
 |none=>rw[e]at this;simp at this
 |some r=>exact⟨r,rfl⟩
structure YF(X:bI)(d:aI)(f:bZ)(w:Nat)(t:aX):Prop where
 ok:Gv X d.see t
 far:∀k,k≠w→(f.tasks.getD k aX.zero).has=true→(f.tasks.getD k aX.zero).n≠t.n
 all:t.step=0→t.n=X.chunks→∀n,n<X.chunks→∃r,f.job.done n=some r
 lt:t.n<X.chunks∨t.n=X.chunks
theorem adk{f:bZ}(hj:lQ X f.job)(hs:f.job.state=1)(hr:QX X d f.job f.tasks){w:Nat}{t:aX}(h:f.has w=some t)(h0:(f.tasks.getD w aX.zero).has=true→1≤(f.tasks.getD w aX.zero).step):YF X d f w t:=by
 unfold bZ.has at h;dsimp only at h;have hc:=(hj.of aj).2;split at h
 ·rename_i hh
  injection h with h
  subst h;have:=hr.tasks w hh;exact⟨this,fun k hk hk2 e=>hk (hr.apart k w hk2 hh e),fun e=>by have:=h0 hh;omega,by have:=this.n;omega⟩
 ·rename_i hh
  obtain⟨n,hn,rfl⟩:=nU.1 h;have h1:=List.find?_some hn;have h2:=List.mem_of_find?_eq_some hn
  have hnc:n≤X.chunks∧(n=X.chunks→f.job.missing=[]):=by
   unfold bZ.wants at h2;split at h2
   ·grind
   ·unfold bT.missing at h2
    have:=yH.1 (List.mem_filter.1 h2).1;exact⟨aj,fun e=>aj⟩
  refine⟨⟨rfl,hnc.1,dS _,(fun e=>by cases e),(fun e=>by cases e),(fun e=>by cases e),(fun e=>by cases e),fun e=>by dsimp only at e;omega⟩,fun k hk hk2 e=>?_,fun _ e m hm=>Uy (hnc.2 e) aj,by show n<_∨n=_;omega⟩;have h3:f.taken n=false:=Ht
  unfold bZ.taken at h3;rw[kG]at h3
  have hkl:k<f.tasks:=by
   rcases Nat.lt_or_ge k f.tasks with h4|h4
   ·exact h4
   ·rw[dG,IU h4]at hk2;cases hk2
  have hm:f.tasks.getD k aX.zero∈f.tasks:=Ht
  have:=h3 _ hm;rw[hk2,e]at this;simp at this
def Kw(Z:List aX):Prop:=∀i,(Z.getD i aX.zero).has=true→1≤(Z.getD i aX.zero).step
theorem QX.set{j j':bT}{ts:List aX}{d':aI}(hr:QX X d j ts){w:Nat}{t t':aX}(RZ:wU X t.n d.see d'.see)(hap:∀k,k≠w→(ts.getD k aX.zero).has=true→(ts.getD k aX.zero).n≠t.n)
  (hu:d'.down=false) (hn:t'.has=true→Gv X d'.see t'∧t'.n=t.n) (hdone:∀n r,j'.done n=some r→(∃r,j.done n=some r)∨(n<X.chunks∧n=t.n∧(d.see (X.name t.n)).isSome=true)) (hc:∀n r,j.done n=some r→n<X.chunks):
  QX X d' j' (ts.set w t'):=by
 refine⟨hu,hr.bad,fun i hi=>?_,fun i k hi hk e=>?_,RZ.jw hr.jw,fun n r h=>?_⟩
 ·rw[JQ]at hi ⊢
  by_cases h:i=w∧w<ts
  ·grind
  ·rw[au h]at hi ⊢
   have h1:=hr.tasks i hi
   have hiw:i≠w:=by
    rintro rfl;have:¬i<ts:=fun h2=>h ⟨rfl,h2⟩
    rw[dG,IU aj]at hi;cases hi
   exact h1.keep (RZ.temp _ (hap i hiw hi)) (RZ.name _)
 ·have key:∀i,((ts.set w t').getD i aX.zero).has=true→(i=w∧((ts.set w t').getD i aX.zero).n=t.n)∨(i≠w∧(ts.getD i aX.zero).has=true∧((ts.set w t').getD i aX.zero).n=(ts.getD i aX.zero).n):=fun i hi=>by
   rw[JQ]at hi ⊢
   by_cases h:i=w∧w<ts
   ·grind
   ·rw[au h]at hi ⊢
    refine .inr ⟨?_,hi,rfl⟩;intro e0;have h3:¬i<ts:=fun h2=>h ⟨e0,by rw[←e0];exact h2⟩
    rw[dG,IU (Nat.le_of_not_lt h3)]at hi;cases hi
  rcases key i hi with⟨h1,h2⟩|⟨h1,h2,h3⟩
  ·grind
  ·rcases key k hk with⟨k1,k2⟩|⟨k1,k2,k3⟩
   ·grind
   ·exact hr.apart i k h2 k2 (by rw[←h3,←k3];exact e)
 ·rcases hdone n r h with⟨r,h⟩|⟨h1,h2,h3⟩
  ·have h1:=hr.done n r h
   have h2:X.name n=iR n:=NJ (by have:=hc n r h;omega);rw[←h2]at h1 ⊢;exact RZ.name _ h1
  ·rw[←h2]at h3
   rw[←NJ (by omega:n≠X.chunks)];exact RZ.name _ h3
structure yS(X:bI)(d:aI)(f:bZ):Prop extends ahY X d f where
 begun:Kw f.tasks
theorem yS.ZA{f:bZ}(h:yS X d f)(hd:f.down=false)(Z:f.job.state=1){w:Nat}{t:aX}(ht:f.has w=some t):YF X d f w t:=adk h.job Z (h.run hd Z) ht (h.begun w)
theorem Kw.set{ts:List aX}(h:Kw ts)(w:Nat){t:aX}(ht:t.has=true→1≤t.step):Kw (ts.set w t):=fun i hi=>by
 rw[JQ]at hi ⊢;split
 ·grind
 ·rename_i h1;rw[au h1]at hi;exact h i hi
theorem NM(d:aI)(f:bZ){t:aX}(h:t.step=0):(eG X d f t).err=0:=by
 obtain⟨Z,Y,W,V⟩:=t;subst h;rfl
theorem yS.pick(hX:X.ok)(hd:bY X ρ d){f:bZ}(h:yS X d f)(w:Int):∃ρ',bY X ρ' (eF X d f w).1∧yS X (eF X d f w).1 (eF X d f w).2.1:=by
 unfold eF;split
 ·grind
 ·split
  ·grind
  ·rename_i hw hdn
   have hdn:f.down=false:=Ht
   split
   ·grind
   ·rename_i hs
    have hs:=xP.1 hs;split
    ·grind
    ·rename_i t ht
     have hu:=h.up hdn;have hr:=h.run hdn hs;have hk:=h.ZA hdn hs ht;have S:=Uc hX hd hu hr.bad h.job hs hr.jw hk.ok;have hc:∀n r,f.job.done n=some r→n<X.chunks:=fun n r e=>(h.job.done n r e).1
     have hdone:∀n r,(eG X d f t).job.done n=some r→(∃r,f.job.done n=some r)∨(n<X.chunks∧n=t.n∧(d.see (X.name t.n)).isSome=true):=fun n r e=>by
      rcases S.done n r e with h1|⟨h1,h2,h3⟩
      ·exact .inl h1
      ·exact .inr ⟨h1,h2,hk.ok.s5 h3⟩
     dsimp only;split
     ·rename_i he
      obtain⟨ρ',hi⟩:=S.inv;refine⟨ρ',hi,⟨⟨S.job,S.st,fun _=>S.up (by rw[he];decide),fun _ _=>?_⟩,?_⟩⟩
      ·refine hr.set (S.far (by rw[he];decide)) hk.far (S.up (by rw[he];decide)) (fun hh=>?_) hdone hc
       have hst:=hk.ok.step;split at hh
       ·cases hh
       ·rename_i h7
        rw[au h7];exact⟨S.next he aj,rfl⟩
      ·refine h.begun.set _ fun hh=>?_
       split at hh
       ·cases hh
       ·rename_i h7;rw[au h7];exact Nat.le_add_left _ _
     ·rename_i he
      have amQ:1≤t.step:=by
       rcases D8 t.step with h1|h1
       ·exact absurd (NM d f h1) he
       ·exact h1
      split
      ·obtain⟨ρ',hi⟩:=S.inv
       exact⟨ρ',hi,⟨⟨S.job,S.st,fun e=>by simp at e,fun e=>by simp at e⟩,h.begun.set _ fun _=>amQ⟩⟩
      ·rename_i amR
       obtain⟨ρ',hi⟩:=S.inv;have hu':=S.up amR;have RZ:=S.far amR;unfold nZ;split
       ·rename_i h14
        have hwr:=Ig hu' (X.temp t.n);have hir:=hi.remove (X.temp t.n)
        by_cases hr0:((eG X d f t).d.remove (X.temp t.n)).2=0
        ·rw[au (by rw[hr0];simp)]
         refine⟨ρ',hir,⟨⟨S.job,S.st,fun _=>(hwr.ok hr0).1,fun _ _=>?_⟩,h.begun.set _ fun hh=>by simp at hh;cases hh⟩⟩;refine hr.set ?_ hk.far (hwr.ok hr0).1 (fun hh=>by simp at hh;cases hh) hdone hc;have h2:wU X t.n (eG X d f t).d.see ((eG X d f t).d.remove (X.temp t.n)).1.see:=wU.own fun x hx=>by rw[(hwr.ok hr0).2,au hx]
         exact⟨fun m hm=>by rw[h2.temp m hm,RZ.temp m hm],fun m k=>h2.name m (RZ.name m k),fun k=>h2.jw (RZ.jw k)⟩
        ·rw[aF hr0]
         have:=VZ hu' h14.2.2 hr0;refine⟨ρ',hir,⟨⟨S.job,S.st,fun e=>?_,fun e=>?_⟩,h.begun.set _ fun _=>amQ⟩⟩
         ·simp[this]at e
         ·simp[this]at e
       ·refine⟨ρ',hi,⟨⟨S.job,S.st,fun _=>hu',fun _ _=>?_⟩,h.begun.set _ fun hh=>by simp at hh;cases hh⟩⟩
        exact hr.set RZ hk.far hu' (fun hh=>by simp at hh;cases hh) hdone hc
end
section
variable{X:bI}{d:aI}
structure ZB(X:bI)(r:aI × Int)(P:aI→Prop):Prop where
 inv:∃ρ,bY X ρ r.1
 ok:r.2=0→r.1.down=false∧P r.1
abbrev Ky(X:bI)(d:aI):Prop:=∃v,d.see 0=some v∧Em X v.data
theorem Lu:∀(l:List Nat) {ρ:Nat→Nat} {d:aI} (Z:Bool),bY X ρ d→d.down=false→(∃ρ,bY X ρ (pR d Z l).1)∧((pR d Z l).2.2=0→(pR d Z l).1.down=false)
 | [],ρ,_,_,h,Y=>⟨⟨ρ,h⟩,fun _=>Y⟩
 |x::l,ρ,d,Z,h,Y=>by
  unfold pR;split
  ·have V:=Ig Y x
   split
   ·rename_i W
    exact⟨⟨ρ,h.remove x⟩,fun e=>absurd e W⟩
   ·rename_i W
    exact Lu l true (h.remove x) (V.ok (xP.1 W)).1
  ·exact Lu l Z h Y
theorem OY{ρ:Nat→Nat}(h:bY X ρ d)(hd:d.down=false)(l:List Nat):ZB X (lu d l) fun _=>True:=by
 obtain⟨⟨Z,Y⟩,U⟩:=Lu l false h hd;unfold lu;dsimp only;split
 ·rename_i W;exact⟨⟨Z,Y⟩,fun e=>absurd e W⟩
 ·rename_i W
  have V:=U (xP.1 W);split
  ·exact⟨⟨Z,Y.ji⟩,fun e=>⟨((xw V).ok e).1,trivial⟩⟩
  ·exact⟨⟨Z,Y⟩,fun _=>⟨V,trivial⟩⟩
theorem QZ{ρ:Nat→Nat}(h:bY X ρ d)(hd:d.down=false):ZB X (pY d) fun e=>(e.see 0).isSome=true:=by
 unfold pY;split
 ·rename_i U
  exact⟨⟨ρ,h⟩,fun _=>⟨hd,by rw[Gf];exact U⟩⟩
 ·have T:=DY h hd 0
  obtain⟨W,V⟩:=h.create (x:=0) aj (.inr rfl);dsimp only;split
  ·rename_i Z;exact⟨⟨W,V⟩,fun e=>absurd e Z⟩
  ·rename_i Z
   have Y:=T.ok (xP.1 Z);exact⟨⟨W,V.ji⟩,fun e=>⟨((xw Y.1).ok e).1,by rw[((xw Y.1).ok e).2,Y.2,aF rfl];rfl⟩⟩
theorem ZC{ρ:Nat→Nat}(h:bY X ρ d)(hd:d.down=false)(S:Em X b):ZB X (xX d b) (Ky X):=by
 unfold xX;dsimp only;have O:=DY h hd 1;obtain⟨Z,V⟩:=h.create (x:=1) aj (.inl rfl);split
 ·rename_i e;exact⟨⟨Z,V⟩,fun k=>absurd k e⟩
 rename_i N;obtain⟨u1,E⟩:=O.ok (xP.1 N);have M:=AY V u1 1 b;have U:=V.append (x:=1) (b:=b) (.inl rfl);split
 ·rename_i e;exact⟨⟨Z,U⟩,fun k=>absurd k e⟩
 rename_i L;obtain⟨u2,D⟩:=M.ok (xP.1 L);have K:=DL U u2 1;have R:=U.sync (x:=1) (.inl rfl);split
 ·rename_i e;exact⟨⟨Z,R⟩,fun k=>absurd k e⟩
 rename_i J;obtain⟨u3,C⟩:=K.ok (xP.1 J);have T:∃v,(((d.create 1).1.append 1 b).1.sync 1).1.see 1=some v∧v.data=b:=by simp_all
 obtain⟨v,Y,W⟩:=T;have I:=Ie u3 1 0
 have Q:=R.rename (x:=1) (z:=0) rfl rfl (fun n H=>⟨fun _=>by
  rw[Gu H]at Y;injection Y with Y
  rw[Y,W];exact S.jl,fun e=>absurd rfl e⟩)
 split
 ·rename_i e;exact⟨⟨Z,Q⟩,fun k=>absurd k e⟩
 rename_i G;obtain⟨u4,F⟩:=I.ok (xP.1 G);have P:=xw u4;refine⟨⟨Z,Q.ji⟩,fun e=>⟨(P.ok e).1,v,?_,by rw[W];exact S⟩⟩;rw[(P.ok e).2,F,aF rfl];exact Y
structure NP(X:bI)(r:aI × bT × Int):Prop where
 inv:∃ρ,bY X ρ r.1
 job:lQ X r.2.1
 ok:r.2.2=0→r.1.down=false∧Ky X r.1
theorem NQ(hX:X.ok){ρ:Nat→Nat}(h:bY X ρ d)(hd:d.down=false)(h0:(d.see 0).isSome=true):NP X (lF d):=by
 obtain⟨v,hv⟩:=Hu.1 h0;obtain⟨n,hn,hf⟩:=uo hv;have hj:xU X v.data:=by rw[←hf];exact h.cur.job n hn
 obtain⟨l,hl,hs,hfl,hle⟩:=hj.scan hX;unfold lF;rw[Aw hv];dsimp only;rw[hs];have hrun:=lQ.run hX l (lQ.new (X:=X)) hl;generalize bT.run bT.new l=y at*;have hgood:∀r∈l.take y.2,gq X r:=fun r hr=>hl r (D7 hr)
 have hw:Em X (v.data.take (ru (l.take y.2))):=by
  refine⟨l.take y.2,hgood,?_⟩;rw[MX];have e1:=XH l y.2;have hlen:(bD (l.take y.2)).length≤(bD l):=Ht
  conv=>rhs;rw[e1,hfl,List.take_take,Nat.min_eq_left hlen]
 split
 ·rename_i he
  refine⟨⟨ρ,h⟩,hrun,fun _=>⟨hd,v,hv,?_⟩⟩;rw[he,uM]at hw;exact hw
 ·have ha:=ZC h hd hw
  exact⟨ha.inv,hrun,fun e=>ha.ok e⟩
theorem LC(hX:X.ok){ρ:Nat→Nat}(h:bY X ρ d)(hd:d.down=false)(h0:Ky X d){j:bT}(hj:lQ X j){r:bV}(hr:gq X r):
  NP X (pX d j r)∧((pX d j r).2.2=0→(j.apply r).2=0∧(pX d j r).2.1=(j.apply r).1∧∀x,x≠0→(pX d j r).1.see x=d.see x):=by
 obtain⟨v,hv,hw⟩:=h0;obtain⟨n,hn,hf⟩:=uo hv;have w1:=AY h hd 0 (bH r)
 have h1:=h.append (x:=0) (b:=bH r) (.inr ⟨rfl,fun m hm=>by
  rw[hn]at hm;injection hm with hm;subst hm
  rw[hf];exact⟨(hw.app hr).jl,hw.part hr _⟩⟩)
 unfold pX;dsimp only;split
 ·rename_i e;exact⟨⟨⟨ρ,h1⟩,hj,fun k=>absurd k e⟩,fun k=>absurd k e⟩
 rename_i e1;obtain⟨u1,s1⟩:=w1.ok (xP.1 e1);have w2:=DL h1 u1 0;have h2:=h1.sync (x:=0) (.inr rfl);unfold lZ;dsimp only;split
 ·rename_i e;exact⟨⟨⟨ρ,h2⟩,hj,fun k=>absurd k e⟩,fun k=>absurd k e⟩
 rename_i e2;obtain⟨u2,s2⟩:=w2.ok (xP.1 e2);refine⟨⟨⟨ρ,h2⟩,hj.apply hX hr,fun _=>⟨u2,?_⟩⟩,fun e=>⟨e,rfl,fun x hx=>?_⟩⟩
 ·show∃w,_∧_
  dsimp only;rw[s2,aF rfl,s1,aF rfl,hv];exact⟨_,rfl,hw.app hr⟩
 ·grind
theorem Uz(j:bT)(h0:j.state=0){r:bV}(hk:r.kind=48)(h:(j.apply r).2=0):(j.apply r).1.state=1:=by
 unfold bT.apply at h ⊢;split at h
 ·cases h
 ·grind
theorem V3(j:bT){r:bV}(hk:r.kind=50)(h:(j.apply r).2=0):(j.apply r).1.state=2:=by
 have n48:¬r.kind=48:=aj
 have n49:¬r.kind=49:=aj
 unfold bT.apply at h ⊢
 by_cases hm:jQ r=false
 ·grind
 rw[au hm]at h ⊢;rw[au (fun e=>n48 e.2)]at h ⊢
 by_cases h3:j.state≠1∨r.kind=48
 ·grind
 rw[au h3,au n49,aF hk]at h ⊢
 by_cases h4:0<j.chunks
 ·grind
 ·rw[au h4]
theorem OZ(W:X.ok){ρ:Nat→Nat}(h:bY X ρ d)(hd:d.down=false)(h0:Ky X d){j:bT}(Z:lQ X j):NP X (oJ X d j)∧((oJ X d j).2.2=0→(oJ X d j).2.1.state≠0):=by
 unfold oJ;split
 ·rename_i Y
  obtain⟨V,U⟩:=LC W h hd h0 Z (gq.start (X:=X));refine⟨V,fun e=>?_⟩;obtain⟨T,S,-⟩:=U e;rw[S,Uz j Y rfl T];decide
 ·rename_i Y
  split
  ·exact⟨⟨⟨ρ,h⟩,Z,fun e=>by cases e⟩,fun e=>by cases e⟩
  ·exact⟨⟨⟨ρ,h⟩,Z,fun _=>⟨hd,h0⟩⟩,fun _=>Y⟩
theorem Q5(U:X.ok){ρ:Nat→Nat}(h:bY X ρ d)(hd:d.down=false)(h0:Ky X d){j:bT}(Z:lQ X j)(V:j.state≠0):NP X (vX X d j)∧((vX X d j).2.2=0→(vX X d j).2.1.state≠0∧(X.bad≠0→(vX X d j).2.1.state≠1)):=by
 unfold vX;split
 ·rename_i Y
  split
  ·exact⟨⟨⟨ρ,h⟩,Z,fun e=>by cases e⟩,fun e=>by cases e⟩
  ·exact⟨⟨⟨ρ,h⟩,Z,fun _=>⟨hd,h0⟩⟩,fun _=>⟨V,fun e=>absurd Y e⟩⟩
 ·rename_i Y
  split
  ·obtain⟨W,T⟩:=LC U h hd h0 Z (gq.fail (X:=X) Y)
   refine⟨W,fun e=>?_⟩;obtain⟨S,R,-⟩:=T e;rw[R,V3 j rfl S];exact⟨bn,fun _=>bn⟩
  ·rename_i W
   exact⟨⟨⟨ρ,h⟩,Z,fun _=>⟨hd,h0⟩⟩,fun _=>⟨V,fun _=>W⟩⟩
theorem ZE(h:d.same x b=true):∃v,d.see x=some v∧v.data=b:=by
 unfold aI.same at h;rw[jU]at h;have Z:=tu h.1;have Y:=tu h.2;unfold aI.CX at Z;split at Z
 ·cases Z
 ·obtain⟨n,W⟩:=vT Z
  have:=Gu W;refine⟨_,this,?_⟩;rw[←Y,Aw this]
theorem LD{j:bT}(hj:lQ X j)(hs:j.state=1):∀n,lQ X (uZ X d j n)∧(uZ X d j n).state=1∧∀k r,(uZ X d j n).done k=some r→(∃r,j.done k=some r)∧(k<n→(d.see (iR k)).isSome=true)
 |0=>⟨hj,hs,fun k r h=>⟨⟨r,h⟩,fun h=>aj⟩⟩
 |n+1=>by
  obtain⟨h1,h2,h3⟩:=LD hj hs n;unfold uZ;generalize uZ X d j n=y at*;dsimp only;cases e:y.done n with
  |none=>grind
  |some q=>
   dsimp only;split
   ·refine⟨h1.forget n,?_,fun k r h=>?_⟩
    ·unfold bT.forget;rw[aF h2];exact h2
    ·unfold bT.forget at h
     rw[aF h2]at h;dsimp only at h;split at h
     ·cases h
     ·grind
   ·rename_i hne
    refine⟨h1,h2,fun k r h=>⟨(h3 k r h).1,fun hk=>?_⟩⟩
    by_cases hkn:k=n
    ·subst hkn
     have:d.same (iR k) (X.pk k)=true:=Ht
     obtain⟨v,hv,-⟩:=ZE this;rw[hv];rfl
    ·grind
theorem NR{j:bT}(hj:lQ X j):lQ X (nN X d j)∧(nN X d j).state=j.state∧(j.state=1→∀k r,(nN X d j).done k=some r→(d.see (iR k)).isSome=true):=by
 unfold nN;split
 ·rename_i hs
  obtain⟨h1,h2,h3⟩:=LD (d:=d) hj hs X.chunks;exact⟨h1,by rw[h2,hs],fun _ k r h=>(h3 k r h).2 (h1.done k r h).1⟩
 ·grind
theorem V4(S:X.ok){ρ:Nat→Nat}(h:bY X ρ d)(hd:d.down=false)(h0:Ky X d){j:bT}(Y:lQ X j)(W:j.state≠0)(R:X.bad=0)(Z:j.state=1→∀k r,j.done k=some r→(d.see (iR k)).isSome=true):
  NP X (mV X d j)∧((mV X d j).2.2=0→(mV X d j).2.1.state≠0∧((mV X d j).2.1.state=1→∀k r,(mV X d j).2.1.done k=some r→((mV X d j).1.see (iR k)).isSome=true)):=by
 unfold mV;split
 ·exact⟨⟨⟨ρ,h⟩,Y,fun _=>⟨hd,h0⟩⟩,fun _=>⟨W,Z⟩⟩
 ·split
  ·exact⟨⟨⟨ρ,h⟩,Y,fun e=>by cases e⟩,fun e=>by cases e⟩
  ·split
   ·rename_i Q
    obtain⟨P,O⟩:=LC S h hd h0 Y (gq.fin (X:=X) R);refine⟨P,fun e=>?_⟩;obtain⟨M,U,N⟩:=O e;refine⟨by rw[U];exact Me _ _ W,fun _ k r T=>?_⟩;rw[U]at T;rcases NK _ _ T with⟨q,V⟩|⟨V,-⟩
    ·rw[N _ (by unfold iR;omega)]
     exact Z Q.1 k q V
    ·cases V
   ·exact⟨⟨⟨ρ,h⟩,Y,fun _=>⟨hd,h0⟩⟩,fun _=>⟨W,Z⟩⟩
theorem ZF(U:X.ok){ρ:Nat→Nat}(h:bY X ρ d)(hd:d.down=false)(l:List Nat)(n:Nat):(∃ρ,bY X ρ (dR X d l).1)∧((dR X d l).2.2.2=0→yS X (dR X d l).1 ⟨(dR X d l).2.1,List.replicate n aX.zero,[],false⟩):=by
 unfold dR;dsimp only;have Q:=OY h hd l;split
 ·rename_i e;exact⟨Q.inv,fun k=>absurd k e⟩
 rename_i H;obtain⟨p,G⟩:=Q.inv;obtain⟨u1,-⟩:=Q.ok (xP.1 H);have P:=QZ G u1;split
 ·rename_i e;exact⟨P.inv,fun k=>absurd k e⟩
 rename_i F;obtain⟨o,E⟩:=P.inv;obtain⟨u2,D⟩:=P.ok (xP.1 F);have T:=NQ U E u2 D;split
 ·rename_i e;exact⟨T.inv,fun k=>absurd k e⟩
 rename_i C;obtain⟨m,B⟩:=T.inv;obtain⟨u3,A⟩:=T.ok (xP.1 C);obtain⟨S,O⟩:=OZ U B u3 A T.job;split
 ·rename_i e;exact⟨S.inv,fun k=>absurd k e⟩
 rename_i K;obtain⟨j,z⟩:=S.inv;obtain⟨u4,y⟩:=S.ok (xP.1 K);have O:=O (xP.1 K);obtain⟨Y,R⟩:=Q5 U z u4 y S.job O;split
 ·rename_i e;exact⟨Y.inv,fun k=>absurd k e⟩
 rename_i J;obtain⟨g,x⟩:=Y.inv;obtain⟨u5,w⟩:=Y.ok (xP.1 J);obtain⟨R,v⟩:=R (xP.1 J)
 have N:∀i,((List.replicate n aX.zero).getD i aX.zero)=aX.zero:=fun i=>by
  rw[dG,nC];split<;>rfl
 have V:Kw (List.replicate n aX.zero):=fun i Z=>by rw[N]at Z;cases Z
 split
 ·rename_i W
  exact⟨Y.inv,fun _=>⟨⟨Y.job,R,fun _=>u5,fun _ e=>absurd e (v W)⟩,V⟩⟩
 ·rename_i W
  have W:=xP.1 W;obtain⟨u,I,t⟩:=NR (d:=(vX X (oJ X (lF (pY (lu d l).1).1).1 (lF (pY (lu d l).1).1).2.1).1 (oJ X (lF (pY (lu d l).1).1).1 (lF (pY (lu d l).1).1).2.1).2.1).1) Y.job;obtain⟨M,L⟩:=V4 U x u5 w u (by rw[I];exact R) W (fun e=>t (by rw[←I];exact e));refine⟨M.inv,fun e=>?_⟩;obtain⟨L,s⟩:=L e;obtain⟨u7,r⟩:=M.ok e;exact⟨⟨M.job,L,fun _=>u7,fun _ q=>⟨u7,W,(fun i Z=>by rw[N]at Z;cases Z),(fun i k Z=>by rw[N]at Z;cases Z),r,s q⟩⟩,V⟩
end
section
structure oV(X:bI)(s:oK):Prop where
 d:∃ρ,bY X ρ s.d
 f:∀f,s.f=some f→yS X s.d f
variable{X:bI}
theorem oV.new(X:bI)(r:Int):oV X ⟨aI.new r,none⟩:=⟨⟨fun _=>0,bY.new _ _⟩,fun _ h=>by cases h⟩
theorem oV.out{s:oK}(h:oV X s){n:Nat}(Z:s.d.names 2=some n):X.bad=0∧(dh s.d.all n).data=X.out:=by
 obtain⟨ρ,Y⟩:=h.d;have:=Y.cur.shut 2 n Z rfl bn;exact⟨this.1,this.2.1⟩
theorem oV.chunk{s:oK}(h:oV X s)(hx:s.d.names (iR x)=some n):(dh s.d.all n).data=X.pk x:=by
 obtain⟨ρ,Z⟩:=h.d;have:=(Z.cur.shut (iR x) n hx (by unfold iR;omega) (by unfold iR;omega)).2.1;rw[this];unfold bI.cont iR;rw[au aj]
 congr 1
 omega
theorem oV.crash{s:oK}(h:oV X s){e:aI}(Z:FM s.d e):oV X ⟨e,none⟩:=by
 obtain⟨ρ,Y⟩:=h.d;exact⟨⟨ρ,Y.crash Z⟩,fun _ h=>by cases h⟩
theorem oV.pick(Z:X.ok){d:aI}{f:bZ}(h:oV X ⟨d,some f⟩)(w:Int):oV X ⟨(eF X d f w).1,some (eF X d f w).2.1⟩:=by
 obtain⟨ρ,Y⟩:=h.d;obtain⟨W,V,U⟩:=(h.f f rfl).pick Z Y w;exact⟨⟨W,V⟩,fun g e=>by injection e with e;rw[←e];exact U⟩
theorem yS.same{d e:aI}{f:bZ}(h:yS X d f)(Z:∀x,e.see x=d.see x)(hd:e.down=d.down):yS X e f:=by
 have Z:e.see=d.see:=funext Z;refine⟨⟨h.job,h.st,fun k=>by rw[hd];exact h.up k,fun Y W=>?_⟩,h.begun⟩;obtain⟨V,U,T,S,R,Q⟩:=h.run Y W;exact⟨by rw[hd];exact V,U,by rw[Z];exact T,S,by rw[Z];exact R,by rw[Z];exact Q⟩
theorem oV.arm{d:aI}{f:Option bZ}(h:oV X ⟨d,f⟩)(n:Int):oV X ⟨d.arm n,f⟩:=by
 obtain⟨ρ,Z⟩:=h.d;refine⟨⟨ρ,Z.arm n⟩,fun g Y=>(h.f g Y).same (fun x=>?_) ?_⟩
 ·show(d.arm n).see x=d.see x
  unfold aI.arm;split<;>rfl
 ·show(d.arm n).down=d.down
  unfold aI.arm;split<;>rfl
theorem oV.grow{d:aI}{f:Option bZ}(h:oV X ⟨d,f⟩)(n:Int):oV X ⟨(d.grow n).1,f⟩:=by
 obtain⟨ρ,Z⟩:=h.d;refine⟨⟨ρ,Z.grow n⟩,fun g Y=>(h.f g Y).same (fun x=>?_) ?_⟩
 ·show(d.grow n).1.see x=d.see x
  unfold aI.grow;split
  ·rfl
  ·split<;>rfl
 ·show(d.grow n).1.down=d.down
  unfold aI.grow;split
  ·rfl
  ·split<;>rfl
theorem oV.started(Y:X.ok){d:aI}{f:Option bZ}(h:oV X ⟨d,f⟩)(hd:d.down=false)(l:List Nat)(n:Nat):oV X ⟨(dR X d l).1,none⟩∧
  ((dR X d l).2.2.2=0→oV X ⟨(dR X d l).1,some ⟨(dR X d l).2.1,List.replicate n aX.zero,[],false⟩⟩):=by
 obtain⟨ρ,W⟩:=h.d;obtain⟨Z,V⟩:=ZF Y W hd l n;exact⟨⟨Z,fun _ e=>by cases e⟩,fun k=>⟨Z,fun g e=>by injection e with e;rw[←e];exact V k⟩⟩
end
section
structure aZ(d:aI)(N:Nat):Prop where
 room:0≤d.room∧d.room≤16777216
 all:d.all.length≤N
 steps:d.steps.length≤N
 fl:∀f∈d.all,f.safe≤f.data.length∧f.data.length≤16777216∧dV f.data
 stp:∀s∈d.steps,s.name<36∧s.to<36
variable{d:aI}{N:Nat}
theorem aZ.mono(h:aZ d N){M:Nat}(Z:N≤M):aZ d M:=⟨h.room,dD h.all Z,dD h.steps Z,h.fl,h.stp⟩
theorem aZ.same{e:aI}(h:aZ d N)(h1:e.all=d.all)(h2:e.steps=d.steps)(Z:e.room=d.room):aZ e N:=
 ⟨by rw[Z];exact h.room,by rw[h1];exact h.all,by rw[h2];exact h.steps,by rw[h1];exact h.fl,by rw[h2];exact h.stp⟩
theorem aZ.new{r:Int}(h:0≤r∧r≤16777216):aZ (aI.new r) 0:=⟨h,bC _,bC _,(fun f Z=>by cases Z),fun s Y=>by cases Y⟩
theorem aZ.DZ(h:aZ d N)(n:Nat):(dh d.all n).safe≤(dh d.all n).data∧(dh d.all n).data.length≤16777216∧dV (dh d.all n).data:=by
 unfold dh;rw[dG];cases Z:d.all[n]? with
 |none=>exact⟨bC _,by show 0≤16777216;omega,fun v Y=>by cases Y⟩
 |some f=>exact h.fl f (mX Z)
theorem aZ.fall(h:aZ d N):aZ d.fall N:=by
 obtain⟨Z,-,-,Y,X⟩:=wX d;exact h.same Z Y X
theorem aZ.goes(h:aZ d N)(e:Int):aZ (d.goes e).1 N:=by
 obtain⟨Z,-,-,Y,X⟩:=mP d e;exact h.same Z Y X
theorem aZ.does(h:aZ d N)(s:DU)(Y:s.name<36∧s.to<36):aZ (d.does s) (N+1):=
 ⟨h.room,Nat.le_succ_of_le h.all,by show(d.steps++ [s]).length≤_;rw[mG];exact Nat.succ_le_succ h.steps,h.fl,fun t Z=>by
   rcases rH.1 Z with Z|Z
   ·exact h.stp t Z
   ·rw[iw.1 Z];exact Y⟩
theorem aZ.create(h:aZ d N){x:Nat}(hx:x<36):aZ (d.create x).1 (N+1):=by
 unfold aI.create;dsimp only;have Z:=h.goes (if(d.names x).isSome=true then 8 else 0);generalize(if(d.names x).isSome=true then(8:Int)else 0)=E at*;split
 ·exact Z.mono (gW _)
 ·generalize(d.goes E).1=e at*
  exact⟨Z.room,by show(e.all++ [_]).length≤_;rw[mG];exact Nat.succ_le_succ Z.all,(Z.does ⟨0,x,0,e.all.length⟩ ⟨hx,by show 0<36;omega⟩).steps,fun f Y=>by
   rcases rH.1 Y with Y|Y
   ·exact Z.fl f Y
   ·rw[iw.1 Y];exact⟨bC _,by show 0≤16777216;omega,fun v X=>by cases X⟩,(Z.does ⟨0,x,0,e.all.length⟩ ⟨hx,by show 0<36;omega⟩).stp⟩
theorem aZ.yO(h:aZ d N){n:Nat}{f:iD→iD}(hf:∀v,d.all[n]? =some v→(f v).safe≤(f v).data∧(f v).data.length≤16777216∧dV (f v).data):aZ (d.yO n f) N:=by
 refine⟨h.room,by show(d.all.modify n f).length≤_;rw[sS];exact h.all,h.steps,fun v hv=>?_,h.stp⟩;obtain⟨i,hi,rfl⟩:=jA.1 (show v∈d.all.modify n f from hv);have hi':i<d.all:=Ht
 rw[List.getElem_modify];split
 ·grind
 ·exact h.fl _ (lS _)
theorem UA(d:aI){a b:Nat}(h:a≤b):d.FK a≤d.FK b:=by
 induction h with
 |refl=>exact bC _
 |step h Z=>exact dD Z (iF _ _)
theorem XJ(d:aI)(hx:x<36):d.lens x≤d.used:=by
 have:d.FK (x+1)≤d.FK 36:=UA d aj;have e:d.FK (x+1)=d.FK x+d.lens x:=rfl;unfold aI.used;omega
theorem aZ.append(h:aZ d N){x:Nat}{b:aO}(hx:x<36)(hb:dV b):aZ (d.append x b).1 N:=by
 unfold aI.append;split
 ·exact h
 split
 ·exact h
 rename_i h2;split
 ·exact h
 rename_i h3;have hr:=h.room
 have hn:∃n,d.names x=some n:=by
  cases hn:d.names x with
  |none=>exact absurd (by unfold aI.there;rw[hn];simp) h2
  |some n=>exact⟨n,rfl⟩
 obtain⟨n,hn⟩:=hn;have hat:d.at_ x=n:=by unfold aI.at_;rw[hn];rfl
 have hl:∀v,d.all[n]? =some v→v.data.length+b≤16777216:=by
  intro v hv;have hv2:=h.fl v (mX hv);have h4:=XJ d hx;have e:d.lens x=v.data.length:=by unfold aI.lens;rw[hn];show(d.all.getD n ⟨[],0⟩).data.length=_;rw[dG,hv];rfl
  by_cases h0:0<b.length
  ·omega
  ·omega
 obtain⟨f1,-,-,-,-⟩:=wX d;split
 ·refine h.fall.yO fun v hv=>?_
  rw[hat,f1]at hv;have hv2:=h.fl v (mX hv);have:=hl v hv;refine⟨?_,?_,hv2.2.2.app fun u hu=>hb u (D7 hu)⟩
  ·grind
  ·grind
 ·refine h.fall.yO fun v hv=>?_
  rw[hat,f1]at hv;have hv2:=h.fl v (mX hv);have:=hl v hv;refine⟨?_,?_,hv2.2.2.app hb⟩
  ·grind
  ·grind
theorem aZ.sync(h:aZ d N)(x:Nat):aZ (d.sync x).1 N:=by
 unfold aI.sync;dsimp only;split
 ·exact h.goes _
 ·refine(h.goes _).yO fun v Z=>?_
  have:=(h.goes (d.there x)).fl v (mX Z);exact⟨bC _,this.2⟩
theorem aZ.rename(h:aZ d N){x y:Nat}(hx:x<36)(hy:y<36):aZ (d.rename x y).1 (N+1):=by
 unfold aI.rename;dsimp only;split
 ·exact(h.goes _).mono (gW _)
 ·exact(h.goes _).does _ ⟨hx,hy⟩
theorem aZ.remove(h:aZ d N){x:Nat}(hx:x<36):aZ (d.remove x).1 (N+1):=by
 unfold aI.remove;dsimp only;split
 ·exact(h.goes _).mono (gW _)
 ·exact(h.goes _).does _ ⟨hx,by show 0<36;omega⟩
theorem aZ.ji(h:aZ d N):aZ d.ji.1 N:=by
 unfold aI.ji;dsimp only;split
 ·exact h.goes _
 ·have:=h.goes 0
  exact⟨this.room,this.all,dS _,this.fl,fun s Z=>by cases Z⟩
theorem aZ.grow(h:aZ d N)(n:Int):aZ (d.grow n).1 N:=by
 have Z:=h.room;unfold aI.grow;split
 ·exact h
 ·split
  ·exact h
  ·exact⟨by show 0≤d.room+n∧d.room+n≤16777216;omega,h.all,h.steps,h.fl,h.stp⟩
theorem aZ.arm(h:aZ d N)(n:Int):aZ (d.arm n) N:=by
 unfold aI.arm;split
 ·exact h
 ·exact h.same rfl rfl rfl
theorem aZ.crash{e:aI}(h:aZ d N)(hc:FM d e):aZ e N:=by
 refine⟨by rw[hc.room];exact h.room,by rw[hc.len];exact h.all,by rw[hc.steps];exact dS _,fun f hf=>?_,fun s hs=>by rw[hc.steps]at hs;cases hs⟩;obtain⟨i,hi,rfl⟩:=jA.1 hf;have hd:=h.DZ i;have e1:e.all.getD i ⟨[],0⟩=e.all[i]:=Ht
 unfold dh at hd;rcases hc.cut i (by rw[←hc.len];exact hi)with h1|⟨k,h1,h2,h3⟩
 ·grind
 ·grind
end
section
structure bI.Si(X:bI):Prop where
 pk:∀n,dV (X.pk n)
 out:dV X.out
variable{X:bI}{d:aI}{N:Nat}
theorem bI.Si.file(h:X.Si)(n:Nat):dV (X.file n):=by unfold bI.file;split;exact h.out;exact h.pk _
theorem Ud(v:Int):0≤bJ v∧bJ v≤255:=by unfold bJ;omega
theorem Q7(r:bV):dV (fQ r):=by
 unfold fQ;have W:dV [bJ r.code]:=fun v Z=>by rw[iw.1 Z];exact Ud _
 have Y:dV [bJ r.num]:=fun v Z=>by rw[iw.1 Z];exact Ud _
 split
 ·exact W
 ·split
  ·exact(jR _).app Y
  ·split
   ·exact(Y.app (jR _)).app (jR _)
   ·exact(jR _).app (jR _)
theorem Q8{r:bV}(h:jQ r=true):dV (bH r):=by
 have W:=tu (Gn h).1;have V:=wW r;have Y:=Q7 r;intro v Z;rcases rH.1 Z with Z|Z
 ·rcases rH.1 Z with Z|Z
  ·simp[bJ]at Z;omega
  ·exact Y v Z
 ·exact jR _ v Z
theorem aZ.kept(h:aZ d N)(j:bT)(r:bV):aZ (lZ d j r).1 N:=by
 unfold lZ;dsimp only;split<;>exact h.sync 0
theorem aZ.logs(h:aZ d N)(j:bT){r:bV}(Z:jQ r=true):aZ (pX d j r).1 N:=by
 unfold pX;dsimp only;have:=h.append (x:=0) (b:=bH r) aj (Q8 Z);split
 ·exact this
 ·exact this.kept _ _
theorem JB(Z:X.ok)(h:n≤X.chunks):X.temp n<36∧X.name n<36:=by
 have:=Z.ch;unfold bI.temp bI.name JF iR;split<;>omega
theorem aZ.alh(Y:X.ok)(h:aZ d N){f:bZ}{t:aX}(W:t.n≤X.chunks)(hd:dV t.data)(V:t.step=6→jQ (X.xR t)=true):aZ (eG X d f t).d (N+1):=by
 obtain⟨Z,U⟩:=JB Y W;unfold eG;split
 ·exact h.mono (gW _)
 ·exact h.create Z
 ·exact(h.append Z hd).mono (gW _)
 ·exact(h.sync _).mono (gW _)
 ·exact h.rename Z U
 ·exact h.ji.mono (gW _)
 ·exact(h.append aj (Q8 (V (by assumption)))).mono (gW _)
 ·exact(h.kept _ _).mono (gW _)
theorem aZ.drop(Z:X.ok)(h:aZ d N){t:aX}(Y:t.n≤X.chunks)(e:Int):aZ (nZ X d t e).1 (N+1):=by
 unfold nZ;split
 ·dsimp only
  have:=h.remove (JB Z Y).1;split<;>exact this
 ·exact h.mono (gW _)
theorem Gv.small(hb:X.Si){s:Nat→Option iD}{t:aX}(h:Gv X s t)(h0:t.step=0→t.data=[]):dV t.data:=by
 by_cases e:1≤t.step
 ·rw[h.data e];exact hb.file _
 ·grind
theorem LG{f:bZ}{w:Nat}{t:aX}(h:f.has w=some t)(h0:(f.tasks.getD w aX.zero).has=true→1≤(f.tasks.getD w aX.zero).step):t.step=0→t.data=[]:=by
 unfold bZ.has at h;dsimp only at h;split at h
 ·grind
 ·cases hk:f.take with
  |none=>rw[hk]at h;cases h
  |some n=>rw[hk]at h;injection h with h;rw[←h];exact fun _=>rfl
theorem aZ.pick(hX:X.ok)(hb:X.Si)(h:aZ d N){f:bZ}(hf:yS X d f)(w:Int):aZ (eF X d f w).1 (N+2):=by
 have h2:=h.mono (iF N 2);unfold eF;split
 ·exact h2
 split
 ·exact h2
 split
 ·exact h2
 rename_i hdn hst;have hst:f.job.state=1:=aj
 have hdn:f.down=false:=Ht
 split
 ·exact h2
 rename_i t ht;have hk:=hf.ZA hdn hst ht;have hr:=hf.run hdn hst;have hby:=hk.ok.small hb (LG ht (hf.begun _));have hs:=h.alh hX (f:=f) hk.ok.n hby (fun e=>(Fz hr.bad hk.ok.n (hk.ok.data aj)).may hX);dsimp only;split
 ·exact hs.mono (gW _)
 ·split
  ·exact hs.mono (gW _)
  ·exact hs.drop hX hk.ok.n _
theorem aZ.ZG:∀(l:List Nat) {d:aI} {N:Nat} (_:aZ d N) (Z:Bool),(∀x∈l,x<36)→aZ (pR d Z l).1 (N+l)
 | [],_,_,h,_,_=>h
 |x::l,_,_,h,Z,W=>by
  have U:=W x bK;have Y:∀y∈l,y<36:=fun y T=>W y (by simp[T])
  unfold pR;split
  ·have V:=h.remove U
   split
   ·exact V.mono (by rw[xQ];omega)
   ·have:=aZ.ZG l V true Y
    exact this.mono (by rw[xQ];omega)
  ·exact(aZ.ZG l h Z Y).mono (by rw[xQ];omega)
theorem aZ.clean(h:aZ d N){l:List Nat}(Z:∀x∈l,x<36):aZ (lu d l).1 (N+l):=by
 have:=aZ.ZG l h false Z;unfold lu;dsimp only;split
 ·exact this
 ·split
  ·exact this.ji
  ·exact this
theorem aZ.make(h:aZ d N):aZ (pY d).1 (N+1):=by
 unfold pY;split
 ·exact h.mono (gW _)
 ·have:=h.create (x:=0) aj
  dsimp only;split
  ·exact this
  ·exact this.ji
theorem aZ.anew(h:aZ d N)(U:dV b):aZ (xX d b).1 (N+2):=by
 have Z:=h.create (x:=1) aj;have Y:=Z.append (x:=1) (b:=b) aj U;have W:=Y.sync 1;have V:=W.rename (x:=1) (y:=0) aj aj;unfold xX;dsimp only;split
 ·exact Z.mono (gW _)
 split
 ·exact Y.mono (gW _)
 split
 ·exact W.mono (gW _)
 split
 ·exact V
 ·exact V.ji
theorem aZ.replay(h:aZ d N):aZ (lF d).1 (N+2):=by
 unfold lF;dsimp only;split
 ·exact h.mono (iF _ 2)
 ·exact h.anew fun v Z=>(h.DZ (d.at_ 0)).2.2 v (D7 Z)
theorem aZ.begin_(hX:X.ok)(h:aZ d N)(j:bT):aZ (oJ X d j).1 N:=by
 unfold oJ;split
 ·exact h.logs _ (gq.start.may hX)
 ·grind
theorem aZ.fail(hX:X.ok)(h:aZ d N)(j:bT):aZ (vX X d j).1 N:=by
 unfold vX;split
 ·grind
 ·rename_i hb
  split
  ·exact h.logs _ ((gq.fail hb).may hX)
  ·exact h
theorem aZ.finish(Z:X.ok)(h:aZ d N)(j:bT)(Y:X.bad=0):aZ (mV X d j).1 N:=by
 unfold mV;split
 ·exact h
 ·split
  ·exact h
  ·split
   ·exact h.logs _ ((gq.fin Y).may Z)
   ·exact h
theorem aZ.open_(Z:X.ok)(h:aZ d N){l:List Nat}(S:∀x∈l,x<36)(Q:l.length≤36):aZ (dR X d l).1 (N+40):=by
 have W:=h.clean S;have V:=W.make;have U:=V.replay;have T:=U.begin_ Z (lF (pY (lu d l).1).1).2.1;have Y:=T.fail Z (oJ X (lF (pY (lu d l).1).1).1 (lF (pY (lu d l).1).1).2.1).2.1;unfold dR;dsimp only;split
 ·exact W.mono aj
 split
 ·exact V.mono aj
 split
 ·exact U.mono aj
 split
 ·exact T.mono aj
 split
 ·exact Y.mono aj
 split
 ·exact Y.mono aj
 ·rename_i R
  exact(Y.finish Z _ (xP.1 R)).mono aj
end
theorem V5{r:bV}(h:wR r)(w:aK):Calls prog 81 #[F7 r] w (OH w (bH r) (bH r)):=by
 obtain⟨g,Q,C,z⟩:=ES w 68 (Ej r);obtain⟨V,U,T,S,R⟩:=gV C;have Y:=h.kind;obtain⟨y,H,x⟩:=dB (fun w=>Kt Y w) (fun w=>Oq h w) (fun w=>UR h w);have j:=wW r;have P:=Q7 r;obtain⟨v,N⟩:=aV (fun A B b (o:Lb A B (fQ r) (fQ r))=>UG (kind:=r.kind) (c:=b) aj aj P A o) z;have O:=kN r;have G:=ay (show bH r=dQ r.kind (fQ r)from rfl);obtain⟨M,L,K,J,I⟩:=r;rw[O,G];dsimp only at*;generalize fQ ⟨M,L,K,J,I⟩=D at*;change Hid _ at Q O;clear h Y C P;go_enter func81,ntmps81;go_upto_region 1 with(fail)
 change Code.wp _ _ _ _ (w.alloc _);rw[←Q];go_upto_region 3 with(go_at_call 95;refine(y _).aQ ?_;rintro f rfl)
 go_upto_region 5 with(go_at_call 98;refine(H _).aQ ?_;rintro X Z;have V:=aC V Z;have U:=aC U Z;have T:=aC T Z;have S:=aC S Z;have R:=aC R Z)
 have u:aN X.drew w 0 (aB M):=V;have t:aN X.drew w 1 (aB L):=U;have s:aN X.drew w 2 (aB K):=T;have q:aN X.drew w 3 (aB J):=S;have p:aN X.drew w 4 (aB I):=R
 go_region_held3(fun W=>aN W w 0 (aB M)∧aN W w 1 (aB L)∧aN W w 2 (aB K)∧aN W w 3 (aB J)∧aN W w 4 (aB I))
  (first|with_reducible exact⟨V,U,T,S,R⟩|with_reducible exact⟨u,t,s,q,p⟩|with_reducible exact⟨aC V Y,aC U Y,aC T Y,aC S Y,aC R Y⟩|fail)
  (first
    |(go_at_call 96;refine(x _).mono ?_;rintro e n ⟨d,a,rfl,m,F⟩;have Y:aP X n:=((aU _ X).drew).trans F)
    |(go_at_call 126;refine(v _ _ _ m.lb).mono ?_;rintro e w4 ⟨l,b4,rfl,k,E⟩;have i:=Y.size;have Y:=Y.trans (E.mono Y.size))
    |fail)
 go_wp2_with fail;go_ret2;exact⟨l,b4,rfl,k.lower (by have:=N.size;have:=Z.size;omega),N.trans ((Z.trans (Y.mono Z.size)).mono N.size)⟩
theorem anP{x y c d:Int}(Z:0≤x∧x≤255)(Y:0≤y∧y≤255)(X:0≤c∧c≤255)(W:0≤d∧d≤255):
  (IntKind.i64.wrap (x*16777216)=x*16777216∧IntKind.i64.wrap (y*65536)=y*65536∧IntKind.i64.wrap (c*256)=c*256)∧
  bits .or .i64 (x*16777216) (y*65536)=x*16777216+y*65536∧bits .or .i64 (x*16777216+y*65536) (c*256)=x*16777216+y*65536+c*256∧
  bits .or .i64 (x*16777216+y*65536+c*256) d=x*16777216+y*65536+c*256+d:=by
 refine⟨⟨iE _ aj,iE _ aj,iE _ aj⟩,?_,?_,?_⟩
 ·have:=VU (v:=x) (b:=y*65536) 24 aj aj aj aj
  rw[(aj:x*2^24=x*16777216)]at this;exact this
 ·have:=VU (v:=x*256+y) (b:=c*256) 16 aj aj aj aj
  rw[show(x*256+y)*2^16=x*16777216+y*65536 by omega]at this;exact this
 ·have:=VU (v:=x*65536+y*256+c) (b:=d) 8 aj aj aj aj
  rw[show(x*65536+y*256+c)*2^8=x*16777216+y*65536+c*256 by omega]at this;exact this
theorem alS{b o:Nat}(M:4≤n)(X:dV l)(w:aK)(h:Lb w (some (aH b o)) n l):Calls prog 97 #[aG (some (aH b o)) n c] w fun e U=>e=bM (yw l 0)∧∃m,U=w.drewN m:=by
 have L:=h.len
 have Z:∀i,i<n→aN w b (o+i) (.int .u8 (l.getD i 0)):=fun i W=>by
  obtain⟨K,J,e,k⟩:=h.at_ W;injection e with e
  injection e with T S
  subst T S;exact k
 have Y:∀i,i<n→0≤l.getD i 0∧l.getD i 0≤255:=fun i W=>X _ (by rw[dG,fP aj];exact lS _)
 have R:=Z 0 aj;rw[dW]at R;have I:=Z 1 aj;have H:=Z 2 aj;have G:=Z 3 aj;have Q:=Y 0 aj;have P:=Y 1 aj;have O:=Y 2 aj;have N:=Y 3 aj;have V:yw l 0=l.getD 0 0*16777216+l.getD 1 0*65536+l.getD 2 0*256+l.getD 3 0:=rfl;rw[V];generalize l.getD 0 0=F at*;generalize l.getD 1 0=E at*;generalize l.getD 2 0=D at*;generalize l.getD 3 0=C at*;have B:(0:Int)<(n:Int):=aj
 have A:(1:Int)<(n:Int):=aj
 have z:(2:Int)<(n:Int):=aj
 have y:(3:Int)<(n:Int):=aj
 have x:0<n:=aj
 have v:1<n:=aj
 have u:2<n:=aj
 have t:3<n:=aj
 obtain⟨⟨s,r,q⟩,p,j,g⟩:=anP Q P O N;clear h Z Y X V;go_enter func97,ntmps97;go_upto_region 1 with(fail)
 go_quiet(fail)
 go_wp2;go_ret;exact⟨rfl,_,rfl⟩
structure UnM where
 k:Int
 A:dK
 n:Nat
 c:Nat
 at_:Int
 fin:Int
def unR:tJ UnM where
 S:=320
 T:=124
 k:=4
 bytes:=48
 z:=.agg #[aB 0,bU,aB 0,aB 0]
 enc:=fun m=>[aB m.k,aG m.A m.n m.c,aB m.at_,aB m.fin]
 und:=underlying320
 info:=aW
 zs:=rfl
 pos:=bn
 hk:=fun _=>rfl
 one:=fun a u Z=>by simp at Z;rcases Z with rfl|rfl|rfl|rfl<;>rfl
def Xf(w:aK)(base:Nat)(A:dK)(n c:Nat)(l:List jL):Prop:=
 ∃Z:List UnM,dX unR w base A n c Z∧l.length=n∧∀i,(h:i<Z.length)→Z[i].k=(l.getD i ⟨0,[]⟩).k∧OwnB w base Z[i].A Z[i].n Z[i].c (l.getD i ⟨0,[]⟩).b
section
variable{w w':aK}{base n c:Nat}{A:dK}{l:List jL}
theorem Xf.at_(h:Xf w base A n c l){i:Nat}(hi:i<n):∃b o B m d x y,A=some (aH b o)∧aN w b (o+i*4) (aB (l.getD i ⟨0,[]⟩).k)∧aN w b (o+i*4+1) (aG B m d)∧aN w b (o+i*4+2) (aB x)∧aN w b (o+i*4+3) (aB y)∧OwnB w base B m d (l.getD i ⟨0,[]⟩).b:=by
 obtain⟨T,Y,S,X⟩:=h;obtain⟨b,o,W,Z⟩:=Y.ls.at_ hi;have R:=Y.len;obtain⟨V,U⟩:=X i aj;refine⟨b,o,_,_,_,_,_,W,?_,Z 1 _ rfl,Z 2 _ rfl,Z 3 _ rfl,U⟩;rw[←V];exact Z 0 _ rfl
theorem Xf.dH{S:Nat→Prop}(h:Xf w base A n c l)(X:bQ S w w')(W:∀i,S i→i<base∨w≤i):Xf w' base A n c l:=by
 obtain⟨U,V,T,Y⟩:=h;refine⟨U,V.dH X (fun i Z k=>by have:=V.dN Z;have:=W i k;omega),T,fun i Z=>⟨(Y i Z).1,(Y i Z).2.dH X (fun j R k=>by have:=(Y i Z).2.lt R;have:=W j k;omega)⟩⟩
theorem Xf.keep(h:Xf w base A n c l)(Z:aP w w'):Xf w' base A n c l:=h.dH (bQ.of_below (S:=fun _=>False) Z) (fun _ h=>h.elim)
theorem Xf.lower(h:Xf w base A n c l){b:Nat}(Z:b≤base):Xf w b A n c l:=by
 obtain⟨W,V,U,Y⟩:=h;exact⟨W,V.lower Z,U,fun i X=>⟨(Y i X).1,(Y i X).2.lower Z⟩⟩
theorem Xf.nil(w:aK)(base:Nat):Xf w base none 0 0 []:=⟨[],dX.nil _ _,rfl,fun i h=>absurd h bK⟩
end
theorem ajX{l:List jL}{ms:List UnM}{v:UnM}{x:jL}(h1:dX unR w base A n c ms)(h2:l.length=n)(Z:∀i,(h:i<ms.length)→ms[i].k=(l.getD i ⟨0,[]⟩).k∧OwnB w base ms[i].A ms[i].n ms[i].c (l.getD i ⟨0,[]⟩).b)
  (W:v.k=x.k) (Y:OwnB w base v.A v.n v.c x.b) (V:dX unR w' base B (n+1) cap (ms++ [v])) (X:bQ (In A) w w'):Xf w' base B (n+1) cap (l++ [x]):=by
 have U:=h1.len;refine⟨ms++ [v],V,by simp[h2],fun i T=>?_⟩
 by_cases h:i<ms
 ·rw[jJ h,dG,JD aj,←dG]
  exact⟨(Z i h).1,(Z i h).2.dH X ((Z i h).2.QA h1 bn)⟩
 ·obtain rfl:i=ms:=by simp at T;omega
  rw[kM (bC _),dG,ET aj];simp only[tX,tq,h2,U,rY,jV];exact⟨W,Y.dH X (Y.QA h1 bn)⟩
structure UU(c:jL):Prop where
 k:1≤c.k∧c.k≤255
 Zv:dV c.b
 len:c.b.length≤65536
theorem NS(c:jL)(l:List jL):dL (c::l)=dQ c.k c.b++dL l:=rfl
theorem O1(l m:List jL):dL (l++m)=dL l++dL m:=by simp[dL]
theorem ZH{us:List jL}(h:∀u∈us,UU u)(Z:j<us):nH (dL us) (dL (us.take j))=some ⟨(us.getD j ⟨0,[]⟩).k,(us.getD j ⟨0,[]⟩).b,(dL (us.take (j+1))).length⟩:=by
 have e:us=us.take j++(us.getD j ⟨0,[]⟩::us.drop (j+1)):=by
  rw[dG,fP Z];simp
 have Y:=h (us.getD j ⟨0,[]⟩) (by rw[dG,fP Z];exact lS Z)
 have X:dL us=dL (us.take j)++(dQ (us.getD j ⟨0,[]⟩).k (us.getD j ⟨0,[]⟩).b++dL (us.drop (j+1))):=by
  conv=>lhs;rw[e]
  rw[O1,NS]
 have:=JG (k:=(us.getD j ⟨0,[]⟩).k) (d:=(us.getD j ⟨0,[]⟩).b) (p:=dL (us.take j)) (r:=dL (us.drop (j+1))) (by have:=Y.k;omega) Y.len;rw[X,this,ND Z,mG,iG]
theorem ZI{us:List jL}(h:∀u∈us,UU u):dV (dL us):=by
 intro v Z;obtain⟨c,Y,Z⟩:=List.mem_flatMap.1 Z;obtain⟨W,X,V⟩:=h c Y;rcases rH.1 Z with Z|Z
 ·rcases rH.1 Z with Z|Z
  ·simp[bJ]at Z;omega
  ·exact X v Z
 ·exact jR _ v Z
theorem ZJ{us:List jL}(Z:j<us):(dL (us.take j)).length<(dL us):=by
 have e:dL us=dL (us.take j)++dL (us.drop j):=by rw[←O1,kP]
 rw[e,mG,lY Z,NS,mG,iG];omega
theorem ahZ{us:List jL}(D:∀u∈us,UU u)(L:us=N)(qh:N≤1000)(hn:n≤1000000000)(hc:n≤c)(w:aK)(C:Lb w A n (dL us)):
  Calls prog 226 #[aG A n c] w fun e F=>∃B b,e=bM (eP #[aG B N b,iI])∧Xf F w B N b us∧aP w F:=by
 have V:=C.len;obtain⟨HA,HU,s,r⟩:=jH (fun F (h:aP w F)=>C.keep h) (fun j (z:j<N)=>ZH D (j:=j) aj) (fun j (z:j<N)=>ZJ (us:=us) (j:=j) aj) (ZI D);have H0:Hid (dL (us.take 0)=[]):=ay rfl;change Hid _ at L V;clear C D;go_enter func226,ntmps226;go_wp2_with fail
 go_loopg [4,5] N (fun k v4 v5 wr=>∃(j:Nat) (B:dK) (b:Nat),j+k=N∧v5= aB ((dL (us.take j)).length:Nat)∧v4=aG B j b∧Xf wr w B j b (us.take j)∧aP w wr)
 case atStart=>exact⟨0,none,0,aj,by rw[H0];rfl,rfl,Xf.nil _ _,aU _ _⟩
 case round=>
  obtain⟨j,B,b,z,rfl,rfl,own,Z⟩:=hrel
  by_cases K:j<N
  ·have y:=HU j K
   have h2:=s j K;have Q:=ay (abu hn r wr (HA wr Z) hc (i:=(dL (us.take j)).length) (by have:=V.out;omega) (OV y));rw[y]at Q;have o:(dL (us.take j))<n:=by have:=V.out;omega
   have l:Hid (us.take (j+1)=us.take j++ [us.getD j ⟨0,[]⟩]):=ay (by rw[BH (by have:=L.out;omega),dG,fP (by have:=L.out;omega)];rfl);obtain⟨HJ,J⟩:=aV (aj:j+1+(gk-1)=N∧gk-1<gk) (aj:j<N∧N≤1000);obtain⟨ms,E,m2,x⟩:=own;have P:=ay Z.size;have qg:((dL (us.take j)).length:Int)<(n:Int):=aj
   change Hid _ at E m2 x Z;clear y h2 z;generalize(dL (us.take j)).length=p at*;obtain⟨q,t⟩:∃q,(dL (us.take (j+1))).length=q:=⟨_,rfl⟩;rw[t]at Q;change Hid _ at t;generalize us.getD j ⟨0,[]⟩=u at*;obtain⟨W,ub⟩:=u;dsimp only at*;go_upto_region 7 with(go_at_call 57;refine Q.mono ?_;rintro e T ⟨S,Y,X,rfl,o3⟩)
   generalize hm:ub.length=m at*;have U:=S.size;have O:aP wr (T.alloc (aS #[W,aG Y m X,p,q] 124)):=S.alloc U _;obtain⟨I,H⟩:=aV (O.alloc jy (aS #[W,aG Y m X,p,q] 124)) ((E.keep O).alloc (aS #[W,aG Y m X,p,q] 124));have x0:aN (T.alloc (aS #[W,aG Y m X,p,q] 124)) T 3 (aB q):=(bF.new T _ _).at rfl
   obtain⟨g,f⟩:=aV (aC x0 (aJ _ (aS #[W,aG Y m X,p,q] 124))) (S.alloc U (aS #[W,aG Y m X,p,q] 124)|>.alloc jy (aS #[W,aG Y m X,p,q] 124))
   have d:Hid (((T.alloc (aS #[W,aG Y m X,p,q] 124)).alloc (aS #[W,aG Y m X,p,q] 124)).heap[T.heap.size+1]? =some (aS #[W,aG Y m X,p,q] 124)):=ay (by
    have:=lV (T.alloc (aS #[W,aG Y m X,p,q] 124)) (aS #[W,aG Y m X,p,q] 124);rwa[show(T.alloc (aS #[W,aG Y m X,p,q] 124)).heap.size=T.heap.size+1 by simp]at this)
   have G:=ay (dD P I.size);change Hid _ at hm o3 U;clear S O x0;go_wp2_with(at_builtin;refine BA unR (v:=⟨W,Y,m,X,p,q⟩) rfl _ _ rfl rfl H rfl d (by show(_+1)*48≤_;have:=J.out;omega) G (by have:=J.out;omega) ?_;intro B7 b7 w7 o7 a R qa;have x7:=bG g R (fun(M:In _ T)=>by have:=(E.dN M).2;have:=U.out;omega));have qe:=ay (eH ((I.mono P)) R G (fun i M=>(E.dN M).1));change Hid _ at o7 R;clear a qa;go_roundg(gk-1)
   case measure=>exact HJ.2
   case rel=>
    refine⟨j+1,B7,b7,HJ.1,by rw[t],rfl,?_,Z.trans qe⟩;rw[l];have qf:=f.out;exact ajX H m2 (fun i M=>⟨(x i M).1,(x i M).2.keep qf⟩) rfl (by show OwnB _ _ Y m X ub;exact((o3.keep (aJ _ _)).keep (aJ _ _)).lower P) o7 R
  ·obtain rfl:j=N:=aj
   have HO:Hid (Xf wr w B j b us):=ay (by rw[wO (by have:=L.out;omega)]at own;exact own);have o:¬(((dL (us.take j)).length:Int)<(n:Int)):=by rw[wO (by have:=L.out;omega),V];omega
   change Hid _ at Z;clear own;go_wp2_with fail;go_ret2;exact⟨B,b,rfl,HO,Z⟩
theorem yD(w:aK)(g i:Nat)(v:cO):bQ (fun k=>k=g) w (w.setCell ⟨g,i,none⟩ v):=bQ.setCell (S:=fun i=>i=g) (p:=(aH g i)) (bQ.refl _ w) (fun _=>rfl) v
abbrev KF(k:Int)(B:dK)(m d:Nat)(x y:Int):Array cO:=#[aB k,aG B m d,aB x,aB y]
theorem afQ{b:Nat}{x y:Int}(h1:k<16)(h2:n<16)(A:1≤j∧j≤16)(w:aK)(X:bF w g 192 (CQ 0 0 0 none 0 0))(I:OwnB w b B 3 d [(k:Int),n,j]):
  Calls prog 227 #[aY g,aB 0,.agg (KF 32 B 3 d x y)] w fun e M=>e=bM iI∧bF M g 192 (CQ k n j none 0 0)∧bQ (fun i=>i=g) w M:=by
 have P:=aJ w (aS (KF 32 B 3 d x y) 124);have Z:=bF.new w 124 (KF 32 B 3 d x y);have hg:=X.lt;have O:=I.I7 X bn;have U:=X.keep P;have V:=I.keep P;obtain⟨H,R⟩:=kF (w.alloc (aS (KF 32 B 3 d x y) 124));have s1:H.heap.size=w+1:=by rw[R];simp
 rw[←R]at P Z U V;obtain⟨q,o,rfl,z⟩:=V.lb.at_ (i:=0) aj;obtain⟨_,_,L,v⟩:=V.lb.at_ (i:=1) aj;obtain⟨_,_,K,u⟩:=V.lb.at_ (i:=2) aj;injection L with L;injection L with G F;subst G;subst F
 injection K with K;injection K with E D;subst E;subst D
 simp only[List.getD_cons_zero,rO,dW]at z v u;have z0:=Z.c0;have z1:=Z.c1;obtain⟨x0,x1,x2⟩:=U.s3;have f0:=U.frozen 0;have f1:=U.frozen 1;have f2:=U.frozen 2;have t:q≠g:=fun e=>O (e▸⟨_,rfl,rfl⟩)
 have qa:g≠q:=fun e=>t e.symm
 have qe:w≠g:=aj
 have a:g≠w:=aj
 have L:IntKind.i64.wrap (k:Int)=k:=iE _ aj;have K:IntKind.i64.wrap (n:Int)=n:=iE _ aj;have e3:IntKind.i64.wrap (j:Int)=j:=iE _ aj;obtain⟨s,r,HH⟩:=dB (((U.store 0 k).store 1 n).store 2 j) ((bQ.of_below (S:=fun i=>i=g) P).trans (((yD H g 0 k).trans (yD _ g 1 n)).trans (yD _ g 2 j))) (fun M=>aek h1 h2 A M);change Hid _ at R;clear X U Z I V O P h1 h2 A t hg;go_enter func227,ntmps227;go_upto_region 1 with(fail)
 change Code.wp _ _ _ _ (w.alloc _);rw[←R];go_wp2_with fail
 go_region
 obtain⟨T,Q⟩:=kF ((((H.setCell ⟨g,0,none⟩ k).setCell ⟨g,1,none⟩ n).setCell ⟨g,2,none⟩ j).drew);have Y:bF T g 192 (CQ k n j none 0 0):=by rw[Q];exact s.keep (aU _ _).drew
 have C:Hid (bQ (fun i=>i=g) w T):=ay (by rw[Q];exact r.trans (bQ.of_below (aU _ _).drew));rw[←Q];clear Q s r x0 x1 x2 f0 f1 f2 z v u z0 z1;obtain⟨p,m,l⟩:=Y.s3;have h:aN T.drew g 0 (aB k):=p;have f:aN T.drew g 1 (aB n):=m;have c:aN T.drew g 2 (aB j):=l;have HY:=ay Y;clear Y;go_wp2_with fail
 go_region_held3(fun W=>aN W g 0 (aB k)∧aN W g 1 (aB n)∧aN W g 2 (aB j))
  (first|with_reducible exact⟨h,f,c⟩|with_reducible exact⟨p,m,l⟩|with_reducible exact⟨aC h J,aC f J,aC c J⟩|fail)
  (first|(go_at_call 257;refine(HH _).aQ ?_;rintro w3 J)|fail)
 go_wp2_with fail;go_ret;have N:aP T w3:=(aU T T).drew.trans J;exact⟨rfl,HY.keep N,C.trans (bQ.of_below N)⟩
theorem ajY{c:jL}(V:c.good)(w:aK)(Z:OwnB w base B m d c.b):Calls prog 259 #[.agg #[c.k,aG B m d]] w (UQ w):=by
 rcases V with⟨X,⟨q,r,W,U,T⟩,-,S⟩|⟨X,W⟩
 ·have Y:=Z.len
  rw[W]at Z S Y;exact YD X ⟨U,T⟩ aj Z.cap w Z.lb
 ·have Y:=Z.len
  rw[W]at Y;obtain rfl:m=0:=by simpa using Y.symm
  exact YC X w
theorem ajZ{n1 n2 n3 a:Nat}{ms:List CdM}{x y:Int}{W:jL}(l:W.good)(hi:1≤i∧i≤n3)(hf:i=1→W.k=1∨W.k=4)(hn:n≤16)(w:aK)
  (X:bF w g 192 (CQ n1 n2 n3 A n d)) (G:dX cdR w base A n d ms) (M:base≤w) (hB:OwnB w base B m a W.b):
  Calls prog 227 #[aY g,i,.agg (KF W.k B m a x y)] w fun e V=>e=bM iI∧∃A' d',bF V g 192 (CQ n1 n2 n3 A' (n+1) d')∧dX cdR V base A' (n+1) d' (ms++ [⟨W.k,B,m,a⟩])∧bQ (fun j=>j=g∨In A j) w V:=by
 have u:=gU w (aS (KF W.k B m a x y) 124) (aS #[W.k,aG B m a] 257);have Z:=(bF.new w 124 (KF W.k B m a x y)).alloc (aS #[W.k,aG B m a] 257);have T:=bF.new1 w (aS (KF W.k B m a x y) 124) 257 #[W.k,aG B m a];have hg:=X.lt;have f:¬In A g:=fun hi=>dP G.row X bn (by obtain⟨p,rfl,e⟩:=hi;simp[Value.ownBlock,e])
 have c:=ay (ajY l _ (hB.keep u));obtain⟨I,R⟩:=kF ((w.alloc (aS (KF W.k B m a x y) 124)).alloc (aS #[W.k,aG B m a] 257));have s2:I.heap.size=w+2:=by rw[R];simp
 rw[←R]at u Z T c;obtain⟨HF,HX,HO,HZ,HT⟩:=rG (fun V h=>abq (hf h) V) (fun V (H:aP w V)=>X.keep H) (fun V (H:aP w V)=>G.keep H) (fun V (H:aP I V)=>Z.keep H) (fun V (H:aP I V)=>T.keep H);have z0:=Z.c0;have z1:=Z.c1;have t0:=T.c0;have t1:=T.c1;have qa:¬((i:Int)=0):=aj
 have qo:((i:Int)==0)=false:=by simpa using qa
 have qq:¬((n3:Int)<(i:Int)):=aj
 change Hid _ at u R M;clear Z T X G s2 hg hB l hi hf qa;generalize W.k=L at*;go_enter func227,ntmps227;go_upto_region 9 with(fail)
 change Code.wp _ _ _ _ ((w.alloc (aS (KF L B m a x y) 124)).alloc (aS #[L,aG B m a] 257));rw[←R];clear R;go_upto_region 10 with(go_at_call 259;refine c.mono ?_;rintro e w3 ⟨⟨k9,q9,B9,n9,b9,rfl⟩,F⟩)
 obtain⟨Y,E⟩:=kF (w3.alloc (aS #[k9,q9,aG B9 n9 b9] 348));have J:aP I Y:=by rw[E];exact F.alloc F.size _
 change Code.wp _ _ _ _ (w3.alloc _);rw[←E];clear E F z0 z1 t0 t1;have Q:=u.trans (J.mono u.size);have X4:=HX Y Q;have Z4:=HZ Y J;have T4:=HT Y J;have x2:=X4.c2;have x3:=X4.c3;have z0:=Z4.c0;have t0:=T4.c0;have t1:=T4.c1;obtain⟨qe,qf,qg,qh⟩:=jH X4 (HO Y Q) Q (dD M Q.size);have qr:=T4.frozen 0;clear X4 Z4 T4 J Q HX HO HZ HT
 by_cases h1:i=1
 ·subst h1
  have qi:=ay (fun V=>HF V rfl);go_upto_region 16 with(go_at_call 258;refine(qi _).aQ ?_;rintro w5 rfl)
  have qj:∀o,aN ((Y.alloc o).drew) g 3 (aG A n d):=fun o=>aC x3 (aJ Y o).drew
  have qk:∀o,aN ((Y.alloc o).drew) (w.heap.size+1) 0 (aB L):=fun o=>aC t0 (aJ Y o).drew
  have ql:∀o,aN ((Y.alloc o).drew) (w.heap.size+1) 1 (aG B m a):=fun o=>aC t1 (aJ Y o).drew
  clear x2 z0
  go_region_law(first|(refine RX cdR (v:=⟨L,B,m,a⟩) kE (.tmp 92) (.tmp 94) kE kE ((qf.alloc _).drew) kE (lV _ _) (by show(_+1)*32≤_;omega) (by have:=qh.out;simp;omega) aj ?_;intro t s r q D U C;have K:=((qe.alloc (aS #[L,aG B m a] 257)).drew).dH U f;have f3:=K.frozen 3;have d3:aN r g 3 (aG A n d):=(K.at rfl))|fail)
  all_goals(
   obtain⟨P,O,z⟩:=dB K q ((bQ.of_below (S:=In A) (aJ Y (aS #[L,aG B m a] 257)).drew).trans U);clear K q D U C;go_wp2;go_ret;have N:=yD r g 3 (aG t (n+1) s)
   exact⟨rfl,t,s,P.store 3 _,O.dH N (fun j hj e=>by
    subst e;exact dP O.row P bn (by obtain⟨p,rfl,e⟩:=hj;simp[Value.ownBlock,e])),((bQ.of_below (S:=fun j=>j=g∨In A j) qg).trans (z.mono (fun _ _ h=>.inr h))).trans (N.mono (fun _ _ h=>.inl h))⟩)
 ·have qm:¬((i:Int)=1):=aj
  have qs:((i:Int)==1)=false:=by simpa using qm
  go_upto_region 16 with(fail)
  have qj:∀o,aN ((Y.alloc o).drew) g 3 (aG A n d):=fun o=>aC x3 (aJ Y o).drew
  have qk:∀o,aN ((Y.alloc o).drew) (w.heap.size+1) 0 (aB L):=fun o=>aC t0 (aJ Y o).drew
  have ql:∀o,aN ((Y.alloc o).drew) (w.heap.size+1) 1 (aG B m a):=fun o=>aC t1 (aJ Y o).drew
  clear x2 z0
  go_region_law(first|(refine RX cdR (v:=⟨L,B,m,a⟩) kE (.tmp 92) (.tmp 94) kE kE ((qf.alloc _).drew) kE (lV _ _) (by show(_+1)*32≤_;omega) (by have:=qh.out;simp;omega) aj ?_;intro t s r q D U C;have K:=((qe.alloc (aS #[L,aG B m a] 257)).drew).dH U f;have f3:=K.frozen 3;have d3:aN r g 3 (aG A n d):=(K.at rfl))|fail)
  all_goals(
   obtain⟨P,O,z⟩:=dB K q ((bQ.of_below (S:=In A) (aJ Y (aS #[L,aG B m a] 257)).drew).trans U);clear K q D U C;go_wp2;go_ret;have N:=yD r g 3 (aG t (n+1) s)
   exact⟨rfl,t,s,P.store 3 _,O.dH N (fun j hj e=>by
    subst e;exact dP O.row P bn (by obtain⟨p,rfl,e⟩:=hj;simp[Value.ownBlock,e])),((bQ.of_below (S:=fun j=>j=g∨In A j) qg).trans (z.mono (fun _ _ h=>.inr h))).trans (N.mono (fun _ _ h=>.inl h))⟩)
def aen(n:Nat):UInt8:=UInt8.ofNat (48+n)
def wV:Nat→List UInt8
 |0=>[106,111,98]
 |1=>[106,111,98,46,116,109,112]
 |2=>[111,117,116]
 |3=>[111,117,116,46,116,109,112]
 |x+4=>[if x%2=0 then 99 else 116,46,aen (x/20),aen (x/2%10)]
def bP(x:Nat):ByteArray:=⟨(wV x).toArray⟩
theorem EJ:∀x,x<36→∀y,y<36→wV x=wV y→x=y:=bn
theorem Uf:∀x,x<36→3≤(wV x).length∧(wV x).length≤7:=bn
theorem anQ(h:x<16):(Lit.int .i64 (x:Int)).wf=true:=by
 have Z:IntKind.i64.min= -9223372036854775808:=bn
 have Y:IntKind.i64.max=9223372036854775807:=bn
 show(decide (IntKind.i64.min≤(x:Int))&&decide ((x:Int)≤IntKind.i64.max))=true;rw[Z,Y,su aj,su aj];rfl
def Az:Sj prog where
 K:=9
 law:=string_keyed underlying9
 lim:=36
 small:=by unfold maxLen;omega
 v:=fun x=>.string (bP x)
 l:=fun x=>.string (wV x)
 key:=fun x Z=>by
  have h:=Go.WideMaps.keyOf_string_mk (P:=prog) (s:=bP x) underlying9 (by have:=(Uf x Z).2;show(wV x).toArray.size≤maxLen;unfold maxLen;rw[tY];omega);simpa[bP]using h
 inj:=fun x y Z Y h=>by injection h with h;exact EJ x Z y Y h
def XL:Sj prog where
 K:=3
 law:=int_keyed underlying3
 lim:=16
 small:=by unfold maxLen;omega
 v:=fun x=>aB x
 l:=fun x=>.int .i64 x
 key:=fun x Z=>keyOf_int_mk underlying3 (anQ Z)
 inj:=fun x y _ _ h=>by injection h with _ h;omega
def LH(f:lD):Nat→Option cO:=fun x=>(f x).map fun n=>.int .i64 n
structure FlM where
 A:dK
 n:Nat
 c:Nat
 s:Nat
instance:Inhabited FlM:=⟨⟨none,0,0,0⟩⟩
def flR:tJ FlM where
 S:=106
 T:=114
 k:=2
 bytes:=32
 z:=.agg #[bU,aB 0]
 enc:=fun m=>[aG m.A m.n m.c,aB m.s]
 und:=underlying106
 info:=aW
 zs:=rfl
 pos:=bn
 hk:=fun _=>rfl
 one:=fun a u Z=>by simp at Z;rcases Z with rfl|rfl<;>rfl
def toB(s:DU):ByteArray:=if s.kind=1 then bP s.to else⟨#[]⟩
def stR:tJ DU where
 S:=108
 T:=116
 k:=4
 bytes:=48
 z:=.agg #[aB 0,.string ⟨#[]⟩,.string ⟨#[]⟩,aB 0]
 enc:=fun s=>[aB s.kind,.string (bP s.name),.string (toB s),aB s.file]
 und:=underlying108
 info:=aW
 zs:=rfl
 pos:=bn
 hk:=fun _=>rfl
 one:=fun a u Z=>by simp at Z;rcases Z with rfl|rfl|rfl|rfl<;>rfl
theorem LJ{T:Sj prog}{w:aK}{b:Nat}{f:Nat→Option cO}{α:Type}{R:tJ α}{base n c:Nat}{A:dK}{l:List α}(h:pK T w b f)(k:dX R w base A n c l):¬In A b:=by
 rintro⟨p,rfl,e⟩;obtain⟨D,⟨es,clock,hb,_⟩,_⟩:=h;rcases k.row.2 with⟨hv,-⟩|⟨g,cap,cur,hv,-,hg,-⟩
 ·cases hv
 ·grind
theorem abx{T:Sj prog}{w:aK}{b:Nat}{f:Nat→Option cO}{base n c:Nat}{A:dK}{l:aO}(h:pK T w b f)(k:OwnB w base A n c l):¬In A b:=by
 rintro⟨p,rfl,e⟩;obtain⟨D,⟨es,clock,hb,_⟩,_⟩:=h;rcases k.row.2 with⟨hv,-⟩|⟨g,cap,cur,hv,-,hg,-⟩
 ·cases hv
 ·grind
theorem IB{T:Sj prog}{b:Nat}{f:Nat→Option cO}(h:pK T w b f)(k:bF w g t cs):b≠g:=by
 rintro rfl;obtain⟨D,⟨X,Z,Y,_⟩,_⟩:=h;unfold bF at k;rw[Y]at k;cases k
theorem uq{α:Type}{R:tJ α}{l:List α}(h:dX R w base A n c l)(k:bF w g t cs)(W:R.T≠t):¬In A g:=by
 rintro⟨p,rfl,e⟩;rcases h.row.2 with⟨Y,-⟩|⟨Q,U,S,Y,-,Z,-⟩
 ·cases Y
 ·injection Y with X _ _
  injection X with X
  rw[X]at e;dsimp only at e;rw[e,k]at Z;injection Z with Z
  injection Z with _ V _
  exact W V.symm
theorem Jl(h:OwnB w base A n c l)(k:bF w g t cs)(W:5≠t):¬In A g:=by
 rintro⟨p,rfl,e⟩;rcases h.row.2 with⟨Y,-⟩|⟨S,U,T,Y,-,Z,-⟩
 ·cases Y
 ·injection Y with X _ _
  injection X with X
  rw[X]at e;dsimp only at e;rw[e,k]at Z;injection Z with Z
  injection Z with _ V _
  exact W V.symm
theorem D5{α β:Type}{R:tJ α}{Q:tJ β}{o:Nat}{l:List α}{r:List β}(h:dX R w j A n c l)(k:dX Q w o B m d r)(Z:R.T≠Q.T):∀i,In A i→¬In B i:=by
 rintro i ⟨q,rfl,rfl⟩ ⟨p,rfl,e⟩;exact EZ h.row k.row Z q.block rfl (by simp[Value.ownBlock,e])
structure DkM where
 A:dK
 c:Nat
 nb:Nat
 sb:Nat
 B:dK
 e:Nat
 dn:Int
 ms:List FlM
abbrev dkC(d:aI)(M:DkM):Array cO:=#[aB d.room,aG M.A d.all.length M.c,.map (some M.nb),.map (some M.sb),aG M.B d.steps.length M.e,aB (d.armed:Nat),.bool d.down,aB M.dn]
structure V8(w:World)(g:Nat)(S:Nat→Prop)(d:aI)(M:DkM):Prop where
 box:bF w g 110 (dkC d M)
 all:dX flR w 0 M.A d.all.length M.c M.ms
 fl:∀i,i<d.all.length→OwnB w 0 (M.ms.getD i default).A (M.ms.getD i default).n (M.ms.getD i default).c (dh d.all i).data∧(M.ms.getD i default).s=(dh d.all i).safe
 apart:∀i j,i<d.all.length→j<d.all.length→i≠j→∀k,In (M.ms.getD i default).A k→¬In (M.ms.getD j default).A k
 names:pK Az w M.nb (LH d.names)
 safe:pK Az w M.sb (LH d.safe)
 ne:M.nb≠M.sb
 arm:d.armed≤9223372036854775807
 steps:dX stR w 0 M.B d.steps.length M.e d.steps
 sg:S g
 sn:S M.nb
 ss:S M.sb
 sA:∀i,In M.A i→S i
 sB:∀i,In M.B i→S i
 sF:∀i,i<d.all.length→∀k,In (M.ms.getD i default).A k→S k
 lt:∀i,S i→i<w.heap.size
def Dw(w:aK)(g:Nat)(S:Nat→Prop)(d:aI):Prop:=∃M,V8 w g S d M
section
variable{w w':aK}{g:Nat}{S T:Nat→Prop}{d e:aI}{M:DkM}
theorem V8.keep(h:V8 w g S d M)(Y:bQ T w w')(X:∀i,S i→¬T i):V8 w' g S d M:=
 ⟨h.box.dH Y (X _ h.sg),h.all.dH Y (fun i Z=>X i (h.sA i Z)),fun i Z=>⟨(h.fl i Z).1.dH Y (fun k W=>X k (h.sF i Z k W)),(h.fl i Z).2⟩,h.apart,h.names.dH Y (X _ h.sn),h.safe.dH Y (X _ h.ss),h.ne,h.arm,
   h.steps.dH Y (fun i Z=>X i (h.sB i Z)),h.sg,h.sn,h.ss,h.sA,h.sB,h.sF,fun i Z=>wP (h.lt i Z) Y.size⟩
theorem Dw.keep(h:Dw w g S d)(Z:bQ T w w')(Y:∀i,S i→¬T i):Dw w' g S d:=by
 obtain⟨M,h⟩:=h;exact⟨M,h.keep Z Y⟩
theorem V8.aby(h:V8 w g S d M)(Y:bQ (fun i=>i=g) w w'){n:Int}(h1:e.all=d.all)(h2:e.names=d.names)(X:e.safe=d.safe)(W:e.steps=d.steps)(V:e.armed≤9223372036854775807)(U:bF w' g 110 (dkC e {M with dn:=n})):V8 w' g S e {M with dn:=n}:=by
 refine⟨U,?_,?_,?_,?_,?_,h.ne,V,?_,h.sg,h.sn,h.ss,h.sA,h.sB,?_,fun i Z=>wP (h.lt i Z) Y.size⟩
 ·rw[h1]
  exact h.all.dH Y (fun i Z e=>uq h.all h.box bn (e▸Z))
 ·rw[h1]
  exact fun i Z=>⟨(h.fl i Z).1.dH Y (fun k R e=>Jl (h.fl i Z).1 h.box bn (e▸R)),(h.fl i Z).2⟩
 ·rw[h1];exact h.apart
 ·rw[h2];exact h.names.dH Y (IB h.names h.box)
 ·rw[X];exact h.safe.dH Y (IB h.safe h.box)
 ·rw[W];exact h.steps.dH Y (fun i Z e=>uq h.steps h.box bn (e▸Z))
 ·rw[h1];exact h.sF
end
def eV(k:Int):cO:=if k=0 then iI else .iface 48 (aB k)
theorem aep(f:lD)(k v:Nat):LH (f.put k v)=xE (LH f) k v:=by
 funext x
 unfold LH lD.put xE;split<;>rfl
theorem aer(f:lD)(k:Nat):LH (f.del k)=wK (LH f) k:=by
 funext x
 unfold LH lD.del wK;split<;>rfl
theorem NV(f:lD)(x:Nat):(LH f x).isSome=(f x).isSome:=by unfold LH;cases f x<;>rfl
theorem aes(f:lD)(x:Nat):(LH f x).getD (aB 0)= aB (((f x).getD 0:Nat):Int):=by unfold LH;cases f x<;>rfl
theorem Wi{d:aI}{M:DkM}(h:bF w g 110 (dkC d M)):aN w g 0 (aB d.room)∧aN w g 1 (aG M.A d.all M.c)∧aN w g 2 (.map (some M.nb))∧aN w g 3 (.map (some M.sb))∧
  aN w g 4 (aG M.B d.steps M.e)∧aN w g 5 (aB (d.armed:Nat))∧aN w g 6 (.bool d.down)∧aN w g 7 (aB M.dn):=
 ⟨h.at rfl,h.at rfl,h.at rfl,h.at rfl,h.at rfl,h.at rfl,h.at rfl,h.at rfl⟩
theorem pz{k:Int}(h:k≠0):eV k= .iface 48 k:=au h
theorem named_ok(hx:x<36)(w:aK):Calls prog 120 #[.string (bP x)] w fun e Y=>e=bM (.bool true)∧w=Y:=by
 obtain⟨Z,X⟩:=Uf x hx;have W:(bP x).size=(wV x):=by show(wV x).toArray.size=_;rw[tY]
 have V:(bP x).toList.isEmpty=false:=by
  rw[rP];show(wV x).toArray.toList.isEmpty=false;cases h:wV x with
  |nil=>rw[h]at Z;simp at Z
  |cons a l=>rfl
 have U:(((bP x).size:Nat):Int)≤24:=aj
 generalize bP x=B at*;clear Z X W;go_enter func120,ntmps120;go_wp2;go_ret;exact⟨bK,rfl⟩
theorem YH{d:aI}{M:DkM}(w:aK)(h:V8 w g S d M):Calls prog 125 #[aY g] w fun e L=>e=bM (.bool d.fall.down)∧(∃n,V8 L g S d.fall {M with dn:=n})∧bQ (fun i=>i=g) w L:=by
 obtain⟨I,H,G,F,E,D,C,B⟩:=Wi h.box;have A:=h.box.frozen 5;have z:=h.box.frozen 6;have y:=h.box.frozen 7;obtain⟨V,R,names,U,X,T,O⟩:=d;change Hid _ at h;have N:∀a,bQ (fun i=>i=g) w (w.setCell ⟨g,7,none⟩ a):=fun a=>(bQ.refl (fun i=>i=g) w).setCell (fun _=>rfl) a
 have W:=ay (fun a b c=>((N a).setCell (p:=(aH g 5)) (fun _=>rfl) b).setCell (p:=(aH g 6)) (fun _=>rfl) c);change Hid _ at N;cases T with
 |zero=>
  go_enter func125,ntmps125;go_wp2;go_ret;exact⟨rfl,⟨wrap64 (M.dn+1),h.aby (N _) rfl rfl rfl rfl (dS _) (h.box.store 7 _)⟩,N _⟩
 |succ k=>
  have Z:=h.arm;dsimp only at Z;have J:(0:Int)<((k+1:Nat):Int):=aj
  cases k with
  |zero=>
   have Y:Hid ((0:Nat)≤9223372036854775807):=ay (dS _);clear Z;go_enter func125,ntmps125;go_wp2;go_ret;exact⟨rfl,⟨wrap64 (M.dn+1),h.aby (W _ _ _) rfl rfl rfl rfl Y (((h.box.store 7 _).store 5 _).store 6 _)⟩,W _ _ _⟩
  |succ k=>
   have Y:Hid (k+1≤9223372036854775807):=ay aj;have Q:wrap64 ((k:Int)+1)=(k:Int)+1:=U3 _ aj;have P:((k:Int)+1==0)=false:=jy
   have K:aI.fall ⟨V,R,names,U,X,k+1+1,O⟩=⟨V,R,names,U,X,k+1,false⟩:=by unfold aI.fall;simp
   change Hid _ at Q P K;clear Z;go_enter func125,ntmps125;go_wp2;go_ret;rw[K,Q,P];exact⟨rfl,⟨wrap64 (M.dn+1),h.aby (W _ _ _) rfl rfl rfl rfl Y (((h.box.store 7 _).store 5 _).store 6 _)⟩,W _ _ _⟩
theorem ah1{d:aI}(w:aK)(h:Dw w g S d):Calls prog 125 #[aY g] w fun e Z=>e=bM (.bool d.fall.down)∧Dw Z g S d.fall∧bQ (fun i=>i=g) w Z:=by
 obtain⟨M,h⟩:=h;refine(YH w h).aQ ?_;rintro Z ⟨⟨n,Y⟩,X⟩;exact⟨rfl,⟨_,Y⟩,X⟩
theorem NW{b:Nat}{f:lD}(h:pK Az w b (LH f))(hx:x<36):(Instr.lookup 107 (.map (some b)) (.string (bP x)) false).run prog w= .ok (aB (((f x).getD 0:Nat):Int)) w:=by
 have:=h.look (t:=107) underlying107 (z:=aB 0) aW hx;rw[aes]at this;exact this
theorem Ug{b:Nat}{f:lD}(h:pK Az w b (LH f))(hx:x<36):(Instr.lookup 107 (.map (some b)) (.string (bP x)) true).run prog w= .ok (eP #[aB (((f x).getD 0:Nat):Int),.bool (f x).isSome]) w:=by
 have:=h.look_ok (t:=107) underlying107 (z:=aB 0) aW hx;rw[aes,NV]at this;exact this
abbrev stC(s:DU):Array cO:=#[aB s.kind,.string (bP s.name),.string (toB s),aB s.file]
theorem aeu{b:Nat}{f:lD}{s:DU}(P:s.name<36)(ht:s.to<36)(w:aK)(h:pK Az w b (LH f)):
  Calls prog 52 #[.map (some b),.agg (stC s)] w fun e W=>e=bM (eP #[])∧pK Az W b (LH (uO f s))∧bQ (fun i=>i=b) w W:=by
 have O:=aJ w (aS (stC s) 116);have X:=bF.new w 116 (stC s);have L:=h.keep O;have J:b≠w:=by have:=h.lt;omega
 have N:=ay (bQ.of_below (S:=fun i=>i=b) O);obtain⟨k,x,y,n⟩:=s;dsimp only at*;obtain⟨T,V⟩:=kF (w.alloc (aS (stC ⟨k,x,y,n⟩) 116));have I:=ay V;rw[←V]at O X L N;obtain⟨D,M⟩:=aV X L;clear V O X L h
 have U:∀W,bQ (fun i=>i=b) T W→aN W w 0 (aB k)∧aN W w 1 (.string (bP x))∧aN W w 2 (.string (toB ⟨k,x,y,n⟩))∧aN W w 3 (aB n):=fun W C=>by
  have:=D.dH C (fun e=>J e.symm);exact⟨this.at rfl,this.at rfl,this.at rfl,this.at rfl⟩
 have E:=ay U;obtain⟨B,A,K,z⟩:=E T (bQ.refl _ _);go_enter func52,ntmps52;go_upto_region 1 with(fail)
 change Code.wp _ _ _ _ (w.alloc _);rw[←I];rcases k with _|_|k
 ·go_wp2_with(refine YG Az T rfl _ _ _ _ _ rfl underlying107 rfl M P rfl ?_;intro R Y Z)
  refine eU (by simp[results,results52,go_sem]) rfl ⟨rfl,?_,N.trans (Cc Z)⟩;show pK Az R b (LH (f.put x n));rw[aep];exact Y
 ·have u:=NW M P
  have Q:toB ⟨1,x,y,n⟩=bP y:=rfl;rw[Q]at K;have H:=ay Q
  go_wp2_with(first
   |(refine Sv Az T rfl _ _ _ _ rfl underlying107 rfl M P rfl ?_;intro R Y Z;obtain⟨B,A,K,z⟩:=E _ (Cc Z);rw[H]at K)
   |(refine YG Az R rfl _ _ _ _ _ rfl underlying107 rfl Y ht rfl ?_;intro v G F)
   |fail)
  refine eU (by simp[results,results52,go_sem]) rfl ⟨rfl,?_,N.trans ((Cc Z).trans (Cc F))⟩;show pK Az v b (LH ((f.del x).put y ((f x).getD 0)));rw[aep,aer];exact G
 ·go_wp2_with(refine Sv Az T rfl _ _ _ _ rfl underlying107 rfl M P rfl ?_;intro R Y Z)
  refine eU (by simp[results,results52,go_sem]) rfl ⟨rfl,?_,N.trans (Cc Z)⟩;show pK Az R b (LH (f.del x));rw[aer];exact Y
end Go.Proofs.YtiaeohgghaaciaaGreatDoor
