import Derived.BigQuiet
import Derived.Deep.LoopGhost
import Derived.Deep.QuietTactic
import Derived.Deep.RegionHeld3
import Derived.Deep.RegionLaw
import Derived.LaidEql
import Derived.Laws.Concat
import Derived.Lib.Hide
import Derived.Lib.ItoaLen
import Derived.Lib.ItoaNum
import Derived.Lib.QuietBelow
import Derived.Maps.AppendAt
import Derived.Outline
import Derived.OwnWalk
import Derived.RegionTactic
import Derived.RowKitTokens
import Derived.StillTailTactics
import Derived.Stop.Asserts
import Derived.Test.YtiaeohgghaaciaaGreatDoorProg
import Derived.Test.YtiaeohgghaaciaaGreatDoorB01
namespace Go.Proofs.YtiaeohgghaaciaaGreatDoor
open Go Go.Maps Go.RowKit Go.Extern.Stop Go.Stop Go.Extern Go.Proofs.Tryz
set_option linter.all false
set_option maxRecDepth 100000
set_option maxHeartbeats 4000000
variable{a:Act}{Q:Exit→Act→World→Prop}{has most rate room:Int}{b b' l p s:List Int}{rest:List Oper}{T' c cap i j k n q:Nat}{o:Oper}{A:Option Addr}{E:Prop}{old v:Value}{w w':World}
def Gl(w:aK):Prop:=w.cell? (aH 0 0)=some (.iface 219 (.agg #[aY (some (aH 1 32))]))
theorem Gl.keep(h:Gl w)(Z:Below w w w'):Gl w':=aC h Z
theorem Yb(t:Addr)(w:aK):(ReflectliteValue.unpack (.iface 200 (aY (some t)))).run prog w
  = .ok (.agg #[aY (some (aH 1 200)),aY w,.int .u64 150]) (w.alloc (aS #[aY (some t)] 200)):=aW
theorem aeR(t:Addr)(w:aK):(ReflectliteValue.unpack (.iface 199 (aY (some t)))).run prog w
  = .ok (.agg #[aY (some (aH 1 199)),aY w,.int .u64 150]) (w.alloc (aS #[aY (some t)] 199)):=aW
theorem aeS(e:Addr)(w:aK):(ReflectliteValue.unpack (.iface 167 (aY (some e)))).run prog w
  = .ok (.agg #[aY (some (aH 1 167)),aY w,.int .u64 150]) (w.alloc (aS #[aY (some e)] 167)):=aW
theorem agN(c:Int)(w:aK):(ReflectliteValue.unpack (.iface 48 c)).run prog w
  = .ok (.agg #[aY (some (aH 1 48)),aY w,.int .u64 130]) (w.alloc (aS #[c] 48)):=aW
theorem agO(a:Addr)(w:aK):(ReflectliteValue.methodAny (ReflectliteValue.valueError "reflectlite.Value.Type" 0) (fun t _ _ _=>ReflectliteType.toType t) #[.agg #[aY (some (aH 1 200)),aY (some a),.int .u64 150]]).run prog w
  = .ok (.iface 219 (.agg #[aY (some (aH 1 200))])) w:=aW
theorem alr(a:Addr)(w:aK):(ReflectliteValue.methodAny (ReflectliteValue.valueError "reflectlite.Value.Type" 0) (fun t _ _ _=>ReflectliteType.toType t) #[.agg #[aY (some (aH 1 199)),aY (some a),.int .u64 150]]).run prog w
  = .ok (.iface 219 (.agg #[aY (some (aH 1 199))])) w:=aW
theorem agP(h:cO)(w:aK):(Go.method 575 219 (.agg #[h]) "Kind").run prog w= .ok (355,h) w:=aW
theorem agQ(h:cO)(w:aK):(Go.method 575 219 (.agg #[h]) "Elem").run prog w= .ok (365,.agg #[h]) w:=aW
theorem MQ(h:cO)(w:aK):(Go.method 575 219 (.agg #[h]) "Implements").run prog w= .ok (366,.agg #[h]) w:=aW
theorem JE(h:cO)(w:aK):(Go.method 575 219 (.agg #[h]) "AssignableTo").run prog w= .ok (363,.agg #[h]) w:=aW
theorem agR(w:aK):((ReflectliteType.abiMethod fun t=>Functor.map (fun a:Nat=>Value.int IntKind.u8 (a:Int)) (Rtype.kind t)) #[aY (some (aH 1 200))]).run prog w= .ok (.int .u8 22) w:=aW
theorem agS(w:aK):((ReflectliteType.abiMethod fun t=>Functor.map (fun a:Nat=>Value.int IntKind.u8 (a:Int)) (Rtype.kind t)) #[aY (some (aH 1 167))]).run prog w= .ok (.int .u8 22) w:=aW
theorem als(w:aK):((ReflectliteType.abiMethod fun t=>Functor.map (fun a:Nat=>Value.int IntKind.u8 (a:Int)) (Rtype.kind t)) #[aY (some (aH 1 199))]).run prog w= .ok (.int .u8 22) w:=aW
theorem amv(w:aK):((ReflectliteType.abiMethod fun t=>Functor.map (fun a:Nat=>Value.int IntKind.u8 (a:Int)) (Rtype.kind t)) #[aY (some (aH 1 48))]).run prog w= .ok (.int .u8 2) w:=aW
theorem agT(w:aK):(ReflectliteType.method ReflectliteType.elem #[.agg #[aY (some (aH 1 200))]]).run prog w= .ok (.iface 219 (.agg #[aY (some (aH 1 167))])) w:=aW
theorem alu(w:aK):(ReflectliteType.method ReflectliteType.elem #[.agg #[aY (some (aH 1 199))]]).run prog w= .ok (.iface 219 (.agg #[aY (some (aH 1 48))])) w:=aW
theorem agU(w:aK):(ReflectliteType.relation "Implements" ReflectliteType.implements_ #[.agg #[aY (some (aH 1 167))],.iface 219 (.agg #[aY (some (aH 1 32))])]).run prog w= .ok (.bool true) w:=aW
theorem amw(w:aK):(ReflectliteType.relation "Implements" ReflectliteType.implements_ #[.agg #[aY (some (aH 1 48))],.iface 219 (.agg #[aY (some (aH 1 32))])]).run prog w= .ok (.bool true) w:=aW
theorem aaA(v:cO)(w:aK):(ReflectliteType.typeOf #[.iface 167 v]).run prog w= .ok (.iface 219 (.agg #[aY (some (aH 1 167))])) w:=aW
theorem YR(v:cO)(w:aK):(ReflectliteType.typeOf #[.iface 48 v]).run prog w= .ok (.iface 219 (.agg #[aY (some (aH 1 48))])) w:=aW
theorem ajo(w:aK):(ReflectliteType.relation "AssignableTo" ReflectliteType.assignableTo #[.agg #[aY (some (aH 1 167))],.iface 219 (.agg #[aY (some (aH 1 167))])]).run prog w= .ok (.bool true) w:=aW
theorem amx(w:aK):(ReflectliteType.relation "AssignableTo" ReflectliteType.assignableTo #[.agg #[aY (some (aH 1 48))],.iface 219 (.agg #[aY (some (aH 1 48))])]).run prog w= .ok (.bool true) w:=aW
theorem alv(w:aK):(ReflectliteType.relation "AssignableTo" ReflectliteType.assignableTo #[.agg #[aY (some (aH 1 167))],.iface 219 (.agg #[aY (some (aH 1 48))])]).run prog w= .ok (.bool false) w:=aW
theorem alx(w:aK):(ReflectliteType.relation "AssignableTo" ReflectliteType.assignableTo #[.agg #[aY (some (aH 1 48))],.iface 219 (.agg #[aY (some (aH 1 167))])]).run prog w= .ok (.bool false) w:=aW
theorem aly(v:cO)(x:TypeId)(w:aK):(Instr.typeAssert (.iface 167 v) x 317 true).run prog w= .ok (eP #[iI,.bool false]) w:=
 run_typeAssert_lacksB underlying317 aW aW v x w
theorem amy(v:cO)(x:TypeId)(w:aK):(Instr.typeAssert (.iface 48 v) x 317 true).run prog w= .ok (eP #[iI,.bool false]) w:=
 run_typeAssert_lacksB underlying317 aW aW v x w
theorem SY(v:cO)(x:TypeId)(w:aK):(Instr.typeAssert (.iface 167 v) x 224 true).run prog w= .ok (eP #[.iface 167 v,.bool true]) w:=
 run_typeAssert_hasB underlying224 aW v x w
theorem Yc(v:cO)(x:TypeId)(w:aK):(Instr.typeAssert (.iface 48 v) x 224 true).run prog w= .ok (eP #[iI,.bool false]) w:=
 run_typeAssert_lacksB underlying224 aW aW v x w
theorem U4(v:cO)(x:TypeId)(w:aK):(Instr.typeAssert (.iface 48 v) x 225 true).run prog w= .ok (eP #[iI,.bool false]) w:=
 run_typeAssert_lacksB underlying225 aW aW v x w
theorem Yd(a:Addr)(w:aK):(Go.method 575 167 (aY (some a)) "Unwrap").run prog w= .ok (361,aY (some a)) w:=aW
theorem rlm(z:Sem cO)(f:TypeId→Addr→Nat→Nat→Sem cO)(v:cO):
  ReflectliteValue.method z f #[v]=(do match ←ReflectliteValue.parts v with|none=>z|some (t,a,Z)=>f t a Z (Z%32)):=rfl
theorem adX(a:Addr)(w:aK):(ReflectliteValue.parts (.agg #[aY (some (aH 1 200)),aY (some a),.int .u64 150])).run prog w= .ok (some (200,a,150)) w:=aW
theorem adY(a:Addr)(w:aK):(ReflectliteValue.parts (.agg #[aY (some (aH 1 199)),aY (some a),.int .u64 150])).run prog w= .ok (some (199,a,150)) w:=aW
theorem adZ(a p:Addr)(W:aK)(Z:W.cell? a=some (aY (some p))):
  (ReflectliteValue.method (ReflectliteValue.valueError "reflectlite.Value.IsNil" 0) ReflectliteValue.isNil #[.agg #[aY (some (aH 1 200)),aY (some a),.int .u64 150]]).run prog W= .ok (.bool false) W:=by
 rw[rlm];simp only[mJ,adX,Result.andThen];simp[ReflectliteValue.isNil,loadVar,isAgg,underlying,underlying200,Z,Result.andThen]
theorem ajp(a p:Addr)(W:aK)(Z:W.cell? a=some (aY (some p))):
  (ReflectliteValue.method (ReflectliteValue.valueError "reflectlite.Value.IsNil" 0) ReflectliteValue.isNil #[.agg #[aY (some (aH 1 199)),aY (some a),.int .u64 150]]).run prog W= .ok (.bool false) W:=by
 rw[rlm];simp only[mJ,adY,Result.andThen];simp[ReflectliteValue.isNil,loadVar,isAgg,underlying,underlying199,Z,Result.andThen]
theorem agV(w:aK):(Rtype.elem? 200).run prog w= .ok (some 167) w:=aW
theorem agW(w:aK):(Rtype.elem? 199).run prog w= .ok (some 48) w:=aW
theorem anH(p:Addr)(w:aK):(ReflectliteValue.mk 167 p ReflectliteValue.flagAddr).run prog w= .ok (.agg #[aY (some (aH 1 167)),aY (some p),.int .u64 406]) w:=aW
theorem mkC(p:Addr)(w:aK):(ReflectliteValue.mk 48 p ReflectliteValue.flagAddr).run prog w= .ok (.agg #[aY (some (aH 1 48)),aY (some p),.int .u64 386]) w:=aW
theorem ajq(a p:Addr)(W:aK)(Z:W.cell? a=some (aY (some p))):
  (ReflectliteValue.method (ReflectliteValue.valueError "reflectlite.Value.Elem" 0) ReflectliteValue.elem #[.agg #[aY (some (aH 1 200)),aY (some a),.int .u64 150]]).run prog W
    = .ok (.agg #[aY (some (aH 1 167)),aY (some p),.int .u64 406]) W:=by
 rw[rlm];simp only[mJ,adX,Result.andThen];simp[ReflectliteValue.elem,loadVar,isAgg,underlying,underlying200,Z,Result.andThen,agV,anH]
theorem ajr(a p:Addr)(W:aK)(Z:W.cell? a=some (aY (some p))):
  (ReflectliteValue.method (ReflectliteValue.valueError "reflectlite.Value.Elem" 0) ReflectliteValue.elem #[.agg #[aY (some (aH 1 199)),aY (some a),.int .u64 150]]).run prog W
    = .ok (.agg #[aY (some (aH 1 48)),aY (some p),.int .u64 386]) W:=by
 rw[rlm];simp only[mJ,adY,Result.andThen];simp[ReflectliteValue.elem,loadVar,isAgg,underlying,underlying199,Z,Result.andThen,agW,mkC]
theorem rls(v x:cO):ReflectliteValue.set #[v,x]=(do
  let(some (dst,a,fl),some (src,b,_)):=(←ReflectliteValue.parts v,←ReflectliteValue.parts x)
   |unsupported (.noEntry "extern/(internal/reflectlite.Value).Set.zeroValue")
  if fl/ReflectliteValue.flagAddr%2==0 then unsupported (.noEntry "extern/(internal/reflectlite.Value).Set.unaddressable")
  let Z ←loadVar src b
  if ←Rtype.directlyAssignable dst src then storeVar dst a Z
  else if ←Rtype.implements dst src then
   if(←Rtype.kind src)==20 then
    match Z with
    | .nilIface=>unsupported (.noEntry "extern/reflectlite: a nil value of one interface type handed on as a value of another")
    |_=>storeVar dst a Z
   else storeVar dst a (.iface src Z)
  else panicString ("reflectlite.Set: value of type " ++(←Rtype.spelt src)++ " is not assignable to type " ++(←Rtype.spelt dst))
  pure (eP #[])):=rfl
theorem agX(a:Addr)(w:aK):(ReflectliteValue.parts (.agg #[aY (some (aH 1 167)),aY (some a),.int .u64 406])).run prog w= .ok (some (167,a,406)) w:=aW
theorem ajs(a:Addr)(w:aK):(ReflectliteValue.parts (.agg #[aY (some (aH 1 167)),aY (some a),.int .u64 150])).run prog w= .ok (some (167,a,150)) w:=aW
theorem ajt(a:Addr)(w:aK):(ReflectliteValue.parts (.agg #[aY (some (aH 1 48)),aY (some a),.int .u64 386])).run prog w= .ok (some (48,a,386)) w:=aW
theorem alz(a:Addr)(w:aK):(ReflectliteValue.parts (.agg #[aY (some (aH 1 48)),aY (some a),.int .u64 130])).run prog w= .ok (some (48,a,130)) w:=aW
theorem agY(w:aK):(Rtype.directlyAssignable 167 167).run prog w= .ok true w:=aW
theorem aju(w:aK):(Rtype.directlyAssignable 48 48).run prog w= .ok true w:=aW
theorem amA(Z b e:Addr)(old:cO)(W:aK)(Y:W.cell? b=some (aY (some e)))(ht:W.cell? Z=some old)(X:W.frozen? Z=false):
  (ReflectliteValue.set #[.agg #[aY (some (aH 1 167)),aY (some Z),.int .u64 406],.agg #[aY (some (aH 1 167)),aY (some b),.int .u64 150]]).run prog W
    = .ok (eP #[]) (W.setCell Z (aY (some e))):=by
 rw[rls];simp only[mJ,agX,ajs,Result.andThen];simp[ReflectliteValue.flagAddr,loadVar,isAgg,underlying,underlying167,Y,Result.andThen,agY,storeVar,Value.cells,storeCells,Addr.add];rw[run_store prog W Z _ _ kE];simp[ht,X]
theorem anI(Z b:Addr)(c:Int)(old:cO)(W:aK)(Y:W.cell? b=some (aB c))(ht:W.cell? Z=some old)(X:W.frozen? Z=false):
  (ReflectliteValue.set #[.agg #[aY (some (aH 1 48)),aY (some Z),.int .u64 386],.agg #[aY (some (aH 1 48)),aY (some b),.int .u64 130]]).run prog W
    = .ok (eP #[]) (W.setCell Z c):=by
 rw[rls];simp only[mJ,ajt,alz,Result.andThen];simp[ReflectliteValue.flagAddr,loadVar,isAgg,underlying,underlying48,Y,Result.andThen,aju,storeVar,Value.cells,storeCells,Addr.add];rw[run_store prog W Z _ _ kE];simp[ht,X]
def ErrAt(w:aK):List (ByteArray × Int)→cO→cO→Prop
 | [],t,v=>v=t
 |(s,p)::r,t,v=>∃b u,v= .iface 167 (.pointer (some ⟨b,0,none⟩))∧bF w b 169 #[.string s,.int .i64 p,u]∧ErrAt w r t u
theorem ErrAt.keep{w w':aK}(Y:∀b cs,bF w b 169 cs→bF w' b 169 cs){t:cO}:∀{Z:List (ByteArray × Int)} {v:cO},ErrAt w Z t v→ErrAt w' Z t v
 | [],_,h=>h
 |(_,_)::_,_,⟨b,u,X,W,V⟩=>⟨b,u,X,Y _ _ W,ErrAt.keep Y V⟩
theorem ErrAt.below(h0:Below w w w'){t:cO}{path:List (ByteArray × Int)}(h:ErrAt w path t v):ErrAt w' path t v:=h.keep fun _ _ Z=>Z.keep h0
def ad1(w:aK)(g:Nat)(t:TypeId)(v:cO)(w':aK):Prop:=w.grownBy w' (some g)∧bF w' g t #[v]
theorem ErrAt.iface{w:aK}{T:TypeId}{x v:cO}:∀{Z:List (ByteArray × Int)},ErrAt w Z (.iface T x) v→∃Y X,v= .iface Y X
 | [],h=>⟨T,x,h⟩
 |_::_,⟨_,_,W,_⟩=>⟨_,_,W⟩
theorem U5(b:Nat)(s:ByteArray)(p:Int)(u:cO)(w:aK)(Z:bF w b 169 #[.string s,p,u]):
  Calls prog 361 #[aY b] w fun e Y=>e=bM u∧w=Y:=by
 have X:=Z.c2;go_enter func361,ntmps361;go_wp2;go_ret;exact sD
theorem ajv{path:List (ByteArray × Int)}{c:Int}{vb:Nat}(w:aK)(U:ErrAt w path (.iface 48 c) v)
  (X:bF w vb 199 #[aY i]) (ht:bF w i 48 #[old]):
  Calls prog 164 #[v,.iface 199 (aY i),.agg #[aY (some (aH 1 199)),aY vb,.int .u64 150],.iface 219 (.agg #[aY (some (aH 1 48))])] w
   fun e W=>e=bM (.bool true)∧ad1 w i 48 c W:=by
 have Q:=@run_callFunc_extern prog 84 _ ReflectliteType.typeOf func84 aW aW aW aW;have P:=@run_callFunc_extern prog 363 _ (ReflectliteType.relation "AssignableTo" ReflectliteType.assignableTo) func363 aW aW aW aW;have O:=@run_callFunc_extern prog 224 _ (ReflectliteValue.method (ReflectliteValue.valueError "reflectlite.Value.Elem" 0) ReflectliteValue.elem) func224 aW aW aW aW;have N:=@run_callFunc_extern prog 225 _ ReflectliteValue.set func225 aW aW aW aW;have M:=@run_callFunc_extern prog 161 _ (fun Y=>ReflectliteValue.unpack (Y.getD 0 (eP #[]))) func161 aW aW aW aW;have J:=aaA;have I:=YR;have H:=JE;have G:=alv;have F:=amx;have E:=aly;have D:=SY;have C:=Yd;have B:=agN;go_enter func164,ntmps164;go_wp2
 go_loopg [0] path (fun k v wr=>∃r,r.length=k∧ErrAt w r (.iface 48 c) v∧wr=(w.alloc (aS #[aY (some (aH 1 199)),aY vb,.int .u64 150] 262)))
 case atStart=>exact⟨path,rfl,U,rfl⟩
 case round=>
  obtain⟨r,S,V,rfl⟩:=hrel;cases r with
  |nil=>
   obtain rfl:_=_:=V;have L:=X.lt;have K:=ht.lt;have A:=ajr (aH vb 0) (aH i 0) (w.alloc (aS #[aY (some (aH 1 199)),aY vb,.int .u64 150] 262)) ((X.alloc _).at rfl)
   have z:=anI (aH i 0) (aH (w.heap.size+1) 0) c old ((w.alloc (aS #[aY (some (aH 1 199)),aY vb,.int .u64 150] 262)).alloc (aS #[c] 48))
    (by rw[World.cell?_alloc_at _ _ _ _ bK];rfl) (((ht.alloc _).alloc _).at rfl) (((ht.alloc _).alloc _).frozen 0)
   go_wp2;go_ret;refine⟨rfl,?_,?_⟩
   ·exact KG (KG (P6 (World.grownBy.refl w _) (.inl rfl) _) _) _
   ·exact((ht.store 0 _).alloc _).alloc _
  |cons x r=>
   obtain⟨s,p⟩:=x;obtain⟨b,u,rfl,R,Z⟩:=V;obtain⟨T,x,rfl⟩:=Z.iface;go_wp2_with(go_at_call 361;refine(U5 b s p _ _ (R.alloc _)).aQ ?_;rintro W rfl);go_roundg r.length
   case measure=>simp at S;omega
   case rel=>exact⟨r,rfl,Z,rfl⟩
theorem agZ{b vb:Nat}(w:aK)(Y:bF w vb 200 #[aY i])(ht:bF w i 167 #[old]):
  Calls prog 164 #[.iface 167 (aY b),.iface 200 (aY i),.agg #[aY (some (aH 1 200)),aY vb,.int .u64 150],.iface 219 (.agg #[aY (some (aH 1 167))])] w
   fun e X=>e=bM (.bool true)∧ad1 w i 167 (aY b) X:=by
 have W:=@run_callFunc_extern prog 84 _ ReflectliteType.typeOf func84 aW aW aW aW;have V:=@run_callFunc_extern prog 363 _ (ReflectliteType.relation "AssignableTo" ReflectliteType.assignableTo) func363 aW aW aW aW;have U:=@run_callFunc_extern prog 224 _ (ReflectliteValue.method (ReflectliteValue.valueError "reflectlite.Value.Elem" 0) ReflectliteValue.elem) func224 aW aW aW aW;have T:=@run_callFunc_extern prog 225 _ ReflectliteValue.set func225 aW aW aW aW;have S:=@run_callFunc_extern prog 161 _ (fun Z=>ReflectliteValue.unpack (Z.getD 0 (eP #[]))) func161 aW aW aW aW;have P:=aaA;have O:=JE;have N:=ajo;have M:=aeS;have R:=Y.lt;have Q:=ht.lt;have L:=ajq (aH vb 0) (aH i 0) (w.alloc (aS #[aY (some (aH 1 200)),aY vb,.int .u64 150] 262)) ((Y.alloc _).at rfl)
 have K:=amA (aH i 0) (aH (w.heap.size+1) 0) (aH b 0) old ((w.alloc (aS #[aY (some (aH 1 200)),aY vb,.int .u64 150] 262)).alloc (aS #[aY b] 167))
  (by rw[World.cell?_alloc_at _ _ _ _ bK];rfl) (((ht.alloc _).alloc _).at rfl) (((ht.alloc _).alloc _).frozen 0)
 go_enter func164,ntmps164;go_wp2;refine wp_loop_rounds 1 ?_;rw[rounds_succ];go_wp2;go_ret;refine⟨rfl,?_,?_⟩
 ·exact KG (KG (P6 (World.grownBy.refl w _) (.inl rfl) _) _) _
 ·exact((ht.store 0 _).alloc _).alloc _
theorem Xi{c:Int}{vb:Nat}(w:aK):
  Calls prog 164 #[.iface 48 c,.iface 200 (aY i),.agg #[aY (some (aH 1 200)),aY vb,.int .u64 150],.iface 219 (.agg #[aY (some (aH 1 167))])] w
   fun e Z=>e=bM (.bool false)∧Below w w Z:=by
 have Y:=@run_callFunc_extern prog 84 _ ReflectliteType.typeOf func84 aW aW aW aW;have X:=@run_callFunc_extern prog 363 _ (ReflectliteType.relation "AssignableTo" ReflectliteType.assignableTo) func363 aW aW aW aW;have W:=YR;have V:=JE;have U:=alx;have T:=amy;have S:=Yc;have R:=U4;go_enter func164,ntmps164;go_wp2;refine wp_loop_rounds 1 ?_;rw[rounds_succ];go_wp2;go_ret;exact⟨rfl,(aU _ _).alloc (bC _) _⟩
theorem ajw{path:List (ByteArray × Int)}{c:Int}(w:aK)(X:Gl w)(W:ErrAt w path (.iface 48 c) v)(ht:bF w j 48 #[old]):
  Calls prog 107 #[v,.iface 199 (aY j)] w fun e U=>e=bM (.bool true)∧ad1 w j 48 c U:=by
 have O:=@run_callFunc_extern prog 161 _ (fun Y=>ReflectliteValue.unpack (Y.getD 0 (eP #[]))) func161 aW aW aW aW;have N:=@run_callFunc_extern prog 162 _ (ReflectliteValue.methodAny (ReflectliteValue.valueError "reflectlite.Value.Type" 0) (fun t _ _ _=>ReflectliteType.toType t)) func162 aW aW aW aW;have M:=@run_callFunc_extern prog 163 _ (ReflectliteValue.method (ReflectliteValue.valueError "reflectlite.Value.IsNil" 0) ReflectliteValue.isNil) func163 aW aW aW aW;have L:=@run_callFunc_extern prog 355 _ (ReflectliteType.abiMethod fun t=>do pure (.int .u8 (←Rtype.kind t))) func355 aW aW aW aW;have K:=@run_callFunc_extern prog 365 _ (ReflectliteType.method ReflectliteType.elem) func365 aW aW aW aW;have J:=@run_callFunc_extern prog 366 _ (ReflectliteType.relation "Implements" ReflectliteType.implements_) func366 aW aW aW aW;have F:=aeR;have E:=alr;have D:=agP;have C:=agQ;have B:=MQ;have A:=als;have z:=amv;have y:=alu;have u:=amw;have I:0<w.heap.size:=lt_of_cell X;have H:=ht.lt;have s:=ajp (aH w 0) (aH j 0) ((w.alloc (aS #[aY j] 199)).alloc (aS #[aY (some (aH 1 199)),aY w,.int .u64 150] 262)) bK
 have G:((w.alloc (aS #[aY j] 199)).alloc (aS #[aY (some (aH 1 199)),aY w,.int .u64 150] 262)).cell? (aH 0 0)=some (.iface 219 (.agg #[aY (some (aH 1 32))])):=
  aC X (((aU _ _).alloc (bC _) _).alloc bK _)
 obtain⟨T,x,rfl⟩:=W.iface;obtain⟨S,R,r⟩:=dB W ht X;clear W ht X;go_enter func107,ntmps107;go_wp2_with(go_at_call 164;refine(ajv (vb:=w.heap.size) _ (ErrAt.keep (fun _ _ Q=>(Q.alloc _).alloc _) S) ((bF.new w _ _).alloc _) ((R.alloc _).alloc _)).aQ ?_;rintro U Z);go_ret;refine⟨rfl,?_,Z.2⟩;exact⟨Z.1.os,Z.1.tape,Z.1.output,dD jy Z.1.size,fun i P V=>(Z.1.block i jy V).trans ((Below.heap_alloc _ _ _ jy).trans (Below.heap_alloc _ _ _ P))⟩
theorem ag0{b:Nat}(w:aK)(X:Gl w)(ht:bF w j 167 #[old]):
  Calls prog 107 #[.iface 167 (aY b),.iface 200 (aY j)] w fun e V=>e=bM (.bool true)∧ad1 w j 167 (aY b) V:=by
 have S:=@run_callFunc_extern prog 161 _ (fun Y=>ReflectliteValue.unpack (Y.getD 0 (eP #[]))) func161 aW aW aW aW;have R:=@run_callFunc_extern prog 162 _ (ReflectliteValue.methodAny (ReflectliteValue.valueError "reflectlite.Value.Type" 0) (fun t _ _ _=>ReflectliteType.toType t)) func162 aW aW aW aW;have Q:=@run_callFunc_extern prog 163 _ (ReflectliteValue.method (ReflectliteValue.valueError "reflectlite.Value.IsNil" 0) ReflectliteValue.isNil) func163 aW aW aW aW;have P:=@run_callFunc_extern prog 355 _ (ReflectliteType.abiMethod fun t=>do pure (.int .u8 (←Rtype.kind t))) func355 aW aW aW aW;have O:=@run_callFunc_extern prog 365 _ (ReflectliteType.method ReflectliteType.elem) func365 aW aW aW aW;have N:=@run_callFunc_extern prog 366 _ (ReflectliteType.relation "Implements" ReflectliteType.implements_) func366 aW aW aW aW;have J:=Yb;have I:=agO;have H:=agP;have G:=agQ;have F:=MQ;have E:=agR;have D:=agS;have C:=agT;have B:=agU;have M:0<w.heap.size:=lt_of_cell X;have L:=ht.lt;have A:=adZ (aH w 0) (aH j 0) ((w.alloc (aS #[aY j] 200)).alloc (aS #[aY (some (aH 1 200)),aY w,.int .u64 150] 262)) bK
 have K:((w.alloc (aS #[aY j] 200)).alloc (aS #[aY (some (aH 1 200)),aY w,.int .u64 150] 262)).cell? (aH 0 0)=some (.iface 219 (.agg #[aY (some (aH 1 32))])):=
  aC X (((aU _ _).alloc (bC _) _).alloc bK _)
 obtain⟨U,z⟩:=aV ht X;clear ht X;go_enter func107,ntmps107;go_wp2_with(go_at_call 164;refine(agZ (vb:=w.heap.size) _ ((bF.new w _ _).alloc _) ((U.alloc _).alloc _)).aQ ?_;rintro V Z);go_ret;refine⟨rfl,?_,Z.2⟩;exact⟨Z.1.os,Z.1.tape,Z.1.output,dD jy Z.1.size,fun i T W=>(Z.1.block i jy W).trans ((Below.heap_alloc _ _ _ jy).trans (Below.heap_alloc _ _ _ T))⟩
theorem Xj{c:Int}(w:aK)(Y:Gl w)(ht:bF w i 167 #[old]):
  Calls prog 107 #[.iface 48 c,.iface 200 (aY i)] w fun e X=>e=bM (.bool false)∧Below w w X:=by
 have V:=@run_callFunc_extern prog 161 _ (fun Z=>ReflectliteValue.unpack (Z.getD 0 (eP #[]))) func161 aW aW aW aW;have U:=@run_callFunc_extern prog 162 _ (ReflectliteValue.methodAny (ReflectliteValue.valueError "reflectlite.Value.Type" 0) (fun t _ _ _=>ReflectliteType.toType t)) func162 aW aW aW aW;have T:=@run_callFunc_extern prog 163 _ (ReflectliteValue.method (ReflectliteValue.valueError "reflectlite.Value.IsNil" 0) ReflectliteValue.isNil) func163 aW aW aW aW;have S:=@run_callFunc_extern prog 355 _ (ReflectliteType.abiMethod fun t=>do pure (.int .u8 (←Rtype.kind t))) func355 aW aW aW aW;have R:=@run_callFunc_extern prog 365 _ (ReflectliteType.method ReflectliteType.elem) func365 aW aW aW aW;have Q:=@run_callFunc_extern prog 366 _ (ReflectliteType.relation "Implements" ReflectliteType.implements_) func366 aW aW aW aW;have M:=Yb;have L:=agO;have K:=agP;have J:=agQ;have I:=MQ;have H:=agR;have G:=agS;have F:=agT;have E:=agU;have P:0<w.heap.size:=lt_of_cell Y;have O:=ht.lt;have D:=adZ (aH w 0) (aH i 0) ((w.alloc (aS #[aY i] 200)).alloc (aS #[aY (some (aH 1 200)),aY w,.int .u64 150] 262)) bK
 have N:((w.alloc (aS #[aY i] 200)).alloc (aS #[aY (some (aH 1 200)),aY w,.int .u64 150] 262)).cell? (aH 0 0)=some (.iface 219 (.agg #[aY (some (aH 1 32))])):=
  aC Y (((aU _ _).alloc (bC _) _).alloc bK _)
 change Hid _ at Y;clear ht;go_enter func107,ntmps107;go_wp2_with(go_at_call 164;refine(Xi (vb:=w.heap.size) _).aQ ?_;rintro X W);go_ret;exact⟨rfl,(((aU _ _).alloc (bC _) _).alloc bK _).trans (W.mono jy)⟩
theorem xI(s:ByteArray)(p:Int)(T:TypeId)(x:cO)(w:aK):Calls prog 49 #[.string s,p,.iface T x] w
  fun e Z=>e=bM (.iface 167 (aY w))∧bF Z w 169 #[.string s,p,.iface T x]∧Below w w Z:=by
 go_enter func49,ntmps49;go_wp2;go_ret;exact⟨rfl,bF.new _ _ _,(aU _ _).alloc (bC _) _⟩
theorem YS{path:List (ByteArray × Int)}{c:Int}(w:aK)(W:Gl w)(Z:ErrAt w path (.iface 48 c) v):
  Calls prog 62 #[v] w fun e Y=>e=bM c∧Below w w Y:=by
 obtain⟨T,x,rfl⟩:=Z.iface;obtain⟨V,U⟩:=aV Z W;go_enter func62,ntmps62;go_wp2_with(go_at_call 107;refine(ajw _ (U.keep ((aU _ _).alloc (bC _) _)) (ErrAt.keep (fun _ _ S=>S.alloc _) V) (bF.new w _ _)).aQ ?_;rintro Y X;have R:=X.2.cell 0);go_ret;exact⟨rfl,U1 ((aU _ _).alloc (bC _) _) X.1 bK (bC _)⟩
def wH(path:List (ByteArray × Int)):List cO:=path.flatMap fun x=>[.string x.1,.int .i64 x.2]
theorem aeU(p q:List (ByteArray × Int)):wH (p++q)=wH p++wH q:=by simp[wH]
theorem aeV(p:List (ByteArray × Int))(i:Nat)(h:i<p):(wH p)[i*2]? =some (.string p[i].1)∧(wH p)[i*2+1]? =some (aB p[i].2):=by
 induction p generalizing i with
 |nil=>simp at h
 |cons a r Z=>
  cases i with
  |zero=>simp[wH]
  |succ i=>
   have:=Z i (by simpa using h);simp only[wH,List.flatMap_cons,sZ]at*;rw[show(i+1)*2=2+i*2 by omega,ET bK,(aj:2+i*2+1=2+(i*2+1)),ET bK];simpa using this
def Tail(t:cO):Prop:=∀(w:aK) (Y:Nat) (Z:cO),Gl w→bF w Y 167 #[Z]→
 Calls prog 107 #[t,.iface 200 (aY (some (aH Y 0)))] w fun e X=>e=bM (.bool false)∧Below w.heap.size w X
theorem Tail.code(c:Int):Tail (.iface 48 c):=fun w _ _ Z Y=>Xj w Z Y
def YT(w:aK)(path:List (ByteArray × Int))(e:Ending)(w':aK):Prop:=
 ∃A Z,e=bM (aG A path.length Z)∧Rd w' 2 A path.length (wH path)∧Below w.heap.size w w'
theorem ag1:(prog.info? 139).map (fun i=>(i.zero,i.size,i.bytes))=some (some (.agg #[.string ⟨#[]⟩,aB 0]),2,24):=aW
theorem ag2{path:List (ByteArray × Int)}{t:cO}(hp:path.length≤1000000000000)(ht:Tail t)(w:aK)(d:Gl w)(c:ErrAt w path t v):
  Calls prog 65 #[v] w (YT w path):=by
 obtain⟨i0,hi,y,q,o⟩:=iq ag1;obtain⟨HE,a,HT⟩:=dB c d ht;clear c d ht;go_enter func65,ntmps65;go_wp2
 go_loopg [3,5] path (fun k vl ve wr=>∃Y r I,path=Y++r∧r=k∧ErrAt wr r t ve∧wr.ownsRow (w.heap.size+1) 139 2 vl Y (wH Y)∧bF wr w 167 #[I]∧Below w w wr∧Gl wr)
 case atStart=>exact⟨[],path,_,rfl,rfl,HE.keep (fun _ _ O=>O.alloc _),iM _ _ _ _,bF.new w _ _,(aU _ _).alloc (bC _) _,a.keep ((aU _ _).alloc (bC _) _)⟩
 case round=>
  obtain⟨Y,r,I,X,hr,hE,V,O,T,hG⟩:=hrel;change Hid _ at X;cases r with
  |nil=>
   obtain rfl:_=_:=hE;go_wp2_with(go_at_call 107;refine(HT _ _ _ hG O).aQ ?_;rintro J S);go_ret;have D:path.length=Y:=by rw[X];simp
   have hd:path=Y:=by rw[X];simp
   unfold YT;obtain⟨A,H,rfl⟩:=IK V;refine⟨A,H,by rw[D];rfl,?_,T.trans (S.mono T.size)⟩;rw[hd];exact(Rd.ER V).keep S
  |cons x r=>
   obtain⟨s,p⟩:=x;obtain⟨b,u,rfl,B,G⟩:=hE;go_wp2_with(go_at_call 107;refine(ag0 _ hG O).aQ ?_;rintro J S);have Q:=B.grown S.1 (by have:=B.apart O bn;simpa using this);have n:=S.2.cell 0;have m:=Q.cell 0;have l:=Q.cell 1;have F:=Q.cell 2;simp only[oC,rY,List.getElem?_cons_succ]at n m l F;have N:=dP V O bn;have M:=dP V B bn;have U:=ay (V.kept S.1 (.inr N));change Hid _ at S;clear V;have j:w.heap.size+1≤J.heap.size:=by have:=S.out.2.lt;omega
   have qa:Y.length+1≤1000000000000:=by have:=bf List.length X;simp at this;omega
   have qe:=Q.lt
   go_region_held3(fun W=>W.cell? (aH w 0)=some (aY b)∧W.cell? (aH b 0)=some (.string s)∧W.cell? (aH b 1)=some (aB p))
    (first
      |go_keep
      |(go_split_ands
        refine⟨?_,?_,?_⟩
        ·(rw[Z.cell_far _ jy (jP N)];assumption)
        ·(rw[Z.cell_far _ jy (jP M)];assumption)
        ·(rw[Z.cell_far _ jy (jP M)];assumption)))
    ((refine step_append_lies _ kE _ _ _ kE (w.heap.size+1) 139 i0 _ 2 24 underlying136 hi y q o rfl aj u3 Y (wH Y) kE ((U.out.alloc _).drew)
       (aH J 0) 1 1 [.string s,p] kE kE (fH (cs:=#[.string s,p]) (t:=139) (fr:=(0,0)) (lV J _)) (by simp[Value.oneCell'])
       aj (by unfold maxLen;omega) aj jy (J.heap.size+1) bK ?_;intro g H w1 R Z i qf))
   have qg:w1.cell? (aH b 2)=some u:=by rw[Z.cell_far _ jy (jP M)];exact aC F ((aU _ _).alloc (bC _) _).drew
   change Hid _ at R Z G;clear i;go_wp2;have h:=((((aU _ _).alloc j _).drew).grown Z jy (fun k z=>(U.out.lt k z).1))
   have z:∀K C L,C≠139→bF wr K C L→K≠w→bF w1 K C L:=fun K C L f P e=>by
    have h1:=P.grown S.out.1 (by simpa using e);refine((h1.alloc _).drew).grown Z ?_;exact jP (dP U.out h1 (jP f))
   go_roundg r.length
   case measure=>simp at hr;omega
   case rel=>
    have E:=(U1 T S.out.1 T.size (bC _)).trans (h.mono aj);refine⟨Y++ [(s,p)],r,aY b,by rw[X];simp,rfl,G.keep (fun K L P=>z K _ L bn P (P.apart O bn)),?_,?_,E,a.keep E⟩
    ·rw[aeU,mG];exact R
    ·refine((S.out.2.alloc _).drew).grown Z ?_
     exact jP N
section
variable{P:Program}(w:aK)
theorem P8(base:Nat)(t X e:TypeId)(i:TypeInfo)(size:Nat)(ht:P.underlying t=some (.slice e))(hi:P.info? e=some i)
  (v:cO) (n:Nat) (W:List cO) (Z:w.ownsRow base e size v n W) (c:Nat):(Builtin.append_ #[t,t] X #[v,aG none 0 c]).run P w= .ok v w:=by
 rcases Z.2 with⟨rfl,rfl⟩|⟨g,V,U,rfl,_,_,Y,_⟩
 ·simp[Builtin.append_,nM ht,sizeOf,typeInfo,hi,Builtin.lenOf,Builtin.firstCells]
 ·simp[Builtin.append_,nM ht,sizeOf,typeInfo,hi,Builtin.lenOf,Builtin.firstCells,Y,storeCells]
theorem Xk(base:Nat)(t L e:TypeId)(i:TypeInfo)(z:cO)(size bytes:Nat)(ht:P.underlying t=some (.slice e))(hi:P.info? e=some i)(D:i.zero=some z)
  (V:i.size=size) (Q:i.bytes=bytes) (O:z.cells.size=size) (N:0<size)
  (v:cO) (n:Nat) (R:List cO) (Z:w.ownsRow base e size v n R)
  (A:dK) (m c:Nat) (Y:List cO) (K:Rd w size A m Y) (h1:∀u∈Y,u.oneCell'=true)
  (M:n+m≤maxLen) (X:(n+m)*bytes≤140737488355328) (U:base≤w):
  ∃T S,(Builtin.append_ #[t,t] L #[v,aG A m c]).run P w= .ok T S∧S.ownsRow base e size T (n+m) (R++Y)∧w.grownBy S v.ownBlock∧
   (T.ownBlock=v.ownBlock∨T.ownBlock=some w.heap.size):=by
 rcases D8 m with J|J
 ·subst J
  have C:=sG (by simpa using K.1);subst C;rcases A with _|B
  ·exact⟨v,w,P8 w base t L e i size ht hi v n R Z c,by simpa using Z,World.grownBy.refl w _,.inl rfl⟩
  ·obtain⟨T,S,W,I,H,_,G⟩:=run_append_own_at (P:=P) w base t L e i z size bytes ht hi D V Q O N v n R Z B 0 c [] bK (fun j u F=>by simp at F) h1 M X U
   exact⟨T,S,W,I,H,G⟩
 ·obtain⟨b,E,rfl,y⟩:=K.2 J
  obtain⟨T,S,W,I,H,_,G⟩:=run_append_own_at (P:=P) w base t L e i z size bytes ht hi D V Q O N v n R Z (aH b E) m c Y K.1
   (fun j u F=>by rw[add_lit];exact y j u F) h1 M X U
  exact⟨T,S,W,I,H,G⟩
theorem Qa{K:Act→aK→Prop}(s x:Operand)(t:TypeId)
  (I:o.op= .call {callee:=.builtin .append,args:=#[s,x],argTypes:=#[t,t]})
  (base:Nat) (e:TypeId) (i:TypeInfo) (z:cO) (size bytes:Nat) (ht:P.underlying t=some (.slice e)) (hi:P.info? e=some i) (H:i.zero=some z)
  (W:i.size=size) (O:i.bytes=bytes) (N:z.cells.size=size) (M:0<size)
  (v:cO) (n:Nat) (R:List cO) (G:a.eval s=v) (T:w.ownsRow base e size v n R)
  (A:dK) (m c:Nat) (Z:List cO) (hx:a.eval x=aG A m c) (F:Rd w size A m Z) (h1:∀u∈Z,u.oneCell'=true)
  (L:n+m≤maxLen) (X:(n+m)*bytes≤140737488355328) (V:base≤w)
  (h:∀B Y U,U.ownsRow base e size (aG B (n+m) Y) (n+m) (R++Z)→w.grownBy U v.ownBlock→((Value.slice B (n+m) Y).ownBlock=v.ownBlock∨(Value.slice B (n+m) Y).ownBlock=some w.heap.size)→K (a.put o.dst (aG B (n+m) Y)) U):o.wp P a w K Q:=by
 obtain⟨C,U,S,J,E,D⟩:=Xk (P:=P) w base t o.type e i z size bytes ht hi H W O N M v n R T A m c Z F h1 L X V;obtain⟨B,Y,rfl⟩:=IK J;unfold Oper.wp execOp;simp only[I,resolve,invoke,builtin,mJ,Sem.run_pure,Result.andThen_ok,List.map_toArray,oq,List.map_nil,G,hx,S];exact h B Y U J E D
theorem yL{T:Array Oper}(O:o.guard=none)(s x:Operand)(t:TypeId)
  (J:o.op= .call {callee:=.builtin .append,args:=#[s,x],argTypes:=#[t,t]})
  (base:Nat) (e:TypeId) (i:TypeInfo) (z:cO) (size bytes:Nat) (ht:P.underlying t=some (.slice e)) (hi:P.info? e=some i) (I:i.zero=some z)
  (W:i.size=size) (N:i.bytes=bytes) (M:z.cells.size=size) (L:0<size)
  (v:cO) (n:Nat) (R:List cO) (H:a.eval s=v) (S:w.ownsRow base e size v n R)
  (A:dK) (m c:Nat) (Z:List cO) (hx:a.eval x=aG A m c) (G:Rd w size A m Z) (h1:∀u∈Z,u.oneCell'=true)
  (K:n+m≤maxLen) (X:(n+m)*bytes≤140737488355328) (V:base≤w)
  (h:∀B Y U,U.ownsRow base e size (aG B (n+m) Y) (n+m) (R++Z)→w.grownBy U v.ownBlock→((Value.slice B (n+m) Y).ownBlock=v.ownBlock∨(Value.slice B (n+m) Y).ownBlock=some w.heap.size)→wpList P T Q rest (a.put o.dst (aG B (n+m) Y)) U):wpList P T Q (o::rest) a w:=
 wpList_plain O fun _ F=>Qa w s x t J base e i z size bytes ht hi I W N M L v n R H S A m c Z hx G h1 K X V fun B Y U E D C=>F _ _ (h B Y U E D C)
theorem IV{V:Array Oper}{K:Act→aK→Prop}(S:o.guard=none)(s x:Operand)(t:TypeId)
  (L:o.op= .call {callee:=.builtin .append,args:=#[s,x],argTypes:=#[t,t]})
  (base:Nat) (e:TypeId) (i:TypeInfo) (z:cO) (size bytes:Nat) (ht:P.underlying t=some (.slice e)) (hi:P.info? e=some i) (J:i.zero=some z)
  (X:i.size=size) (R:i.bytes=bytes) (O:z.cells.size=size) (N:0<size)
  (v:cO) (n:Nat) (T:List cO) (I:a.eval s=v) (U:w.ownsRow base e size v n T)
  (A:dK) (m c:Nat) (Z:List cO) (hx:a.eval x=aG A m c) (H:Rd w size A m Z) (h1:∀u∈Z,u.oneCell'=true)
  (M:n+m≤maxLen) (Y:(n+m)*bytes≤140737488355328) (W:base≤w)
  (h:∀B cap w',w'.ownsRow base e size (aG B (n+m) cap) (n+m) (T++Z)→w.grownBy w' v.ownBlock→((Value.slice B (n+m) cap).ownBlock=v.ownBlock∨(Value.slice B (n+m) cap).ownBlock=some w.heap.size)→K (a.put o.dst (aG B (n+m) cap)) w'):
  if Region.wanted o (yielded V a.tmps)=true then Oper.wp P o a w K Q else E:=by
 have G:Region.wanted o (yielded V a.tmps)=true:=by simp[Region.wanted,S]
 rw[aF G];exact Qa w s x t L base e i z size bytes ht hi J X R O N v n T I U A m c Z hx H h1 M Y W h
end
theorem MR(k:IntKind)(Z:aO):∀u∈Z.map (Value.int k),u.oneCell'=true:=ints_oneCell k Z
theorem Ob(w:aK)(e:TypeId)(size base:Nat)(Z:base≤w):(w.alloc (aS #[] e)).ownsRow base e size (aG w 0 0) 0 []:=
 World.ownsRow_made w #[] 0 Z (by unfold maxLen;omega) bK
theorem EW(c:Int)(s:cO)(w:aK):Calls prog 42 #[.agg #[c,s]] w
  fun e Z=>e=bM (.bool (c==0))∧w.alloc (aS #[c,s] 79)=Z:=by
 go_enter func42,ntmps42;go_wp2;go_ret;exact sD
theorem aaC{path:List (ByteArray × Int)}{c:Int}(D:path.length≤1000000000000)(C:c≠0)(w:aK)(B:Gl w)
  (K:ErrAt w path (.iface 48 c) v) (z:Rd w 2 A path (wH path)):
  Calls prog 35 #[v,.agg #[c,aG A path cap]] w fun e U=>e=bM (.bool true)∧Below w w U:=by
 obtain⟨T,x,rfl⟩:=K.iface;have s:(c==0)=false:=by simpa using C
 obtain⟨J,I,y⟩:=dB K B z;have Q:Below w w (w.alloc (aS #[c,aG A path cap] 79)):=(aU _ _).alloc (bC _) _;have X:Below w w ((w.alloc (aS #[c,aG A path cap] 79)).alloc (aS #[c,aG A path cap] 79)):=Q.alloc bK _;go_enter func35,ntmps35;go_wp2
 go_region_held3(fun W=>W.cell? (aH w 0)=some (aB c)∧W.cell? (aH w 1)=some (aG A path cap))
  (first|go_keep|(go_split_ands;refine⟨aC (by assumption) V,aC (by assumption) V⟩))
  (first
    |(go_at_call 42;refine(EW c _ _).aQ ?_;rintro U rfl)
    |(go_at_call 62;refine(YS _ (I.keep X.drew) (J.below X.drew)).aQ ?_;rintro U V))
 obtain⟨r,P⟩:U.cell? (aH w 0)=some (aB c)∧U.cell? (aH w 1)=some (aG A path cap):=by assumption
 have Z:=X.drew.trans (V.mono jy);go_wp2_with(go_at_call 65;refine(ag2 D (Tail.code c) _ (I.keep Z) (J.below Z)).mono ?_;unfold YT;rintro e H ⟨p,E,rfl,O,S⟩;have q:H.cell? (aH w 1)=some (aG A path cap):=aC P S);have R:=Z.trans (S.mono Z.size);obtain⟨N,M⟩:=aV O (y.keep R)
 go_loopg [6] path (fun k i wr=>∃j n:Nat,j+k=path∧i=j∧wr=H.drewN n)
 case atStart=>exact⟨0,0,aj,rfl,rfl⟩
 case round=>
  obtain⟨j,n,o,rfl,rfl⟩:=hrel
  by_cases L:j<path
  ·obtain⟨b2,m,rfl,G⟩:=N.2 aj
   obtain⟨l,h,rfl,F⟩:=M.2 aj;have Y:=aeV path j L;have g:=G _ _ Y.1;have u:=G _ _ Y.2;have f:=F _ _ Y.1;have t:=F _ _ Y.2;rw[←iO]at u t;go_wp2
   go_quiet(fail)
   go_wp2;go_roundg(gk-1)
   case measure=>omega
   case rel=>exact⟨j+1,n+nq,aj,fA,rfl⟩
  ·go_wp2
   go_ret;exact⟨rfl,jM R n⟩
def Xl(w:aK)(p:List (ByteArray × Int))(c:Int)(v:cO):Prop:=(c=0∧p=[]∧v=iI)∨(c≠0∧ErrAt w p (.iface 48 (aB c)) v)
def jo(Y X Z cut MJ rate room W:Int):Bool:=
 decide (0≤Y∧Y≤X∧X≤15∧0≤Z∧Z≤7∧0≤cut∧cut≤16320∧1≤MJ∧MJ≤16∧8≤rate∧rate≤room∧room≤16384∧8≤W∧W≤room)
def sH(a b:Int):aO→Bool
 | []=>true
 |n::r=>decide (a≤n)&&decide (n≤b)&&sH a b r
theorem oG(a b:Int)(l:aO):sH a b l=true↔∀n∈l,a≤n∧n≤b:=by
 induction l with
 |nil=>simp[sH]
 |cons x r Z=>simp[sH,Z]
def uY(l:aO):Bool:=decide (l.length≤4096)&&sH 0 1073741824 l
def yt(rate room:Int):Nat→Int→aO→Except (Nat × Int) aO
 |_,_,[]=>.ok []
 |i,has,n::r=>
  if n>has then .error (i,14)
  else if has+rate-n>room then .error (i,5)
  else match yt rate room (i+1) (has+rate-n) r with
   | .ok l=>.ok ((has+rate-n)::l)
   | .error e=>.error e
def iY(rate room:Int):Nat→Int→aO→Except (Nat × Int) aO
 |_,_,[]=>.ok []
 |i,has,n::r=>
  if n>has then .error (i,14)
  else match iY rate room (i+1) (min (has+rate-n) room) r with
   | .ok l=>.ok (max (has+rate-n-room) 0::l)
   | .error e=>.error e
def nD(T S rate room:Int):Int→aO→aO
 |_,[]=>[]
 |has,w::r=>
  let x:=max 8 (min (T*w/S) has)
  x::nD T S rate room (min room (has-x+rate)) r
theorem wE(T S rate room:Int)(l:aO):∀has,(nD T S rate room has l).length=l:=by
 induction l with
 |nil=>intro has;rfl
 |cons w r Z=>intro has;simp[nD,Z]
theorem CV{rate room:Int}{l p:aO}:∀{i has},iY rate room i has l= .ok p→p.length=l:=by
 induction l generalizing p with
 |nil=>intro i has h;simp[iY]at h;subst h;rfl
 |cons n r ih=>
  intro i has h;unfold iY at h;split at h
  ·cases h
  ·split at h
   ·grind
   ·cases h
def U6:aO→aO→aO
 |a::l,b::m=>(a+b)::U6 l m
 |_,_=>[]
theorem ad2{rate room:Int}(hrm:rate≤room){l g:aO}:∀{i has},(∀n∈l,0≤n)→has≤room→iY rate room i has l= .ok g→
  ∃p,yt rate room i has (U6 l g)= .ok p∧p.length=l∧(∀n∈p,rate≤n∧n≤room)∧(∀n∈g,0≤n):=by
 induction l generalizing g with
 |nil=>intro i has _ _ h;simp[iY]at h;subst h;exact⟨[],rfl,rfl,bK,bK⟩
 |cons n r ih=>
  intro i has h0 hh h;unfold iY at h;split at h
  ·cases h
  ·next hn=>
   split at h
   ·next l' hl=>
    cases h;obtain⟨p,hp,hlen,hin,hg⟩:=ih (fun m hm=>h0 m (by simp[hm])) aj hl;have e:has+rate-(n+max (has+rate-n-room) 0)=min (has+rate-n) room:=aj
    refine⟨min (has+rate-n) room::p,?_,by simp[hlen],?_,?_⟩
    ·simp only[U6,yt]
     rw[au aj,au aj,e,hp]
    ·grind
    ·grind
   ·cases h
def Ag(rate:Int):Int→aO→Int
 |has,[]=>has
 |has,n::r=>Ag rate (has+rate-n) r
def fV(rate room:Int):Int→aO→Int
 |has,[]=>has
 |has,n::r=>fV rate room (min (has+rate-n) room) r
def ni(T S rate room:Int):Int→aO→Int
 |has,[]=>has
 |has,w::r=>ni T S rate room (min room (has-max 8 (min (T*w/S) has)+rate)) r
theorem Um(rate room n:Int)(l:aO):∀has,fV rate room has (l++ [n])=min (fV rate room has l+rate-n) room:=by
 induction l with
 |nil=>intro has;rfl
 |cons m r Z=>intro has;simp[fV,Z]
theorem Un(T S rate room n:Int)(l:aO):∀has,ni T S rate room has (l++ [n])=min room (ni T S rate room has l-max 8 (min (T*n/S) (ni T S rate room has l))+rate):=by
 induction l with
 |nil=>intro has;rfl
 |cons m r Z=>intro has;simp[ni,Z]
theorem Qb(rate room:Int)(xs ys:aO):∀i has,yt rate room i has (xs++ys)=
  match yt rate room i has xs with
  | .ok g=>(match yt rate room (i+xs.length) (Ag rate has xs) ys with| .ok g'=>.ok (g++g')| .error e=>.error e)
  | .error e=>.error e:=by
 induction xs with
 |nil=>intro i has;simp[yt,Ag];split<;>simp_all
 |cons n r ih=>
  intro i has;have e:i+1+r.length=i+(r.length+1):=aj
  simp only[List.cons_append,yt,Ag,xQ,ih,e]
  by_cases h1:n>has
  ·simp[h1]
  ·by_cases h2:has+rate-n>room
   ·simp[h1,h2]
   ·grind
theorem OD(rate room:Int)(Z Y:aO):∀i has,iY rate room i has (Z++Y)=
  match iY rate room i has Z with
  | .ok g=>(match iY rate room (i+Z.length) (fV rate room has Z) Y with| .ok W=>.ok (g++W)| .error e=>.error e)
  | .error e=>.error e:=by
 induction Z with
 |nil=>intro i has;simp[iY,fV];split<;>simp_all
 |cons n r V=>
  intro i has;have e:i+1+r.length=i+(r.length+1):=aj
  simp only[List.cons_append,iY,fV,xQ,V,e]
  by_cases X:n>has
  ·simp[X]
  ·simp only[X,rJ]
   cases iY rate room (i+1) (min (has+rate-n) room) r with
   |error e=>rfl
   |ok g=>
    cases iY rate room (i+(r.length+1)) (fV rate room (min (has+rate-n) room) r) Y<;>rfl
theorem YU(T S rate room:Int)(Z Y:aO):∀has,nD T S rate room has (Z++Y)=nD T S rate room has Z++nD T S rate room (ni T S rate room has Z) Y:=by
 induction Z with
 |nil=>intro has;rfl
 |cons n r X=>intro has;simp[nD,ni,X]
theorem Ba(l:aO)(k:Nat)(h:k<l):l.take (k+1)=l.take k++ [l[k]]:=BH h
theorem Qc(l:aO)(k:Nat)(h:k<l):l=l.take k++l[k]::l.drop (k+1):=by simp_all
theorem ajk(Z:k<l)(h:yt rate room 0 has (l.take k)= .ok s)(h1:l[k]≤Ag rate has (l.take k))(h2:Ag rate has (l.take k)+rate-l[k]≤room):
  yt rate room 0 has (l.take (k+1))= .ok (s++ [Ag rate has (l.take k)+rate-l[k]]):=by
 rw[Ba l k Z,Qb,h];simp only[yt];rw[au aj,au aj]
theorem ajl(Z:k<l)(h:yt rate room 0 has (l.take k)= .ok s)(h1:l[k]≤Ag rate has (l.take k))(h2:room<Ag rate has (l.take k)+rate-l[k]):
  yt rate room 0 has l= .error (k,5):=by
 rw[Qc l k Z,Qb,h];simp only[yt];rw[au aj,aF aj];simp;omega
theorem U7(Z:k<l)(h:iY rate room 0 has (l.take k)= .ok s)(h1:l[k]≤fV rate room has (l.take k)):
  iY rate room 0 has (l.take (k+1))= .ok (s++ [max (fV rate room has (l.take k)+rate-l[k]-room) 0]):=by
 rw[Ba l k Z,OD,h];simp only[iY];rw[au aj]
theorem Xm(Z:k<l)(h:iY rate room 0 has (l.take k)= .ok s)(h1:fV rate room has (l.take k)<l[k]):
  iY rate room 0 has l= .error (k,14):=by
 rw[Qc l k Z,OD,h];simp only[iY];rw[aF aj];simp;omega
theorem OE{g:aO}:∀{i has},iY rate room i has l= .ok g→∀k (Z:k<l.length) (Y:k<g.length),l[k]≤fV rate room has (l.take k)∧g[k]=max (fV rate room has (l.take k)+rate-l[k]-room) 0:=by
 induction l generalizing g with
 |nil=>intro i has _ k Z;simp at Z
 |cons n r X=>
  intro i has h k Z Y;unfold iY at h;split at h
  ·cases h
  ·next V=>
   split at h
   ·next U W=>
    cases h;cases k with
    |zero=>simp[fV];omega
    |succ k=>
     simp only[xQ]at Z Y;simpa[fV]using X W k aj aj
   ·cases h
theorem Qd:∀{i has},(∀k (Z:k<l.length),l[k]≤fV rate room has (l.take k))→∃g,iY rate room i has l= .ok g:=by
 induction l with
 |nil=>intro i has _;exact⟨[],rfl⟩
 |cons n r Y=>
  intro i has h;have X:=h 0 bK;simp only[List.getElem_cons_zero,List.take_zero,fV]at X;obtain⟨g,W⟩:=Y (has:=min (has+rate-n) room) (fun k Z=>by have:=h (k+1) jy;simp only[sZ,List.take_succ_cons,fV]at this;exact this);exact⟨max (has+rate-n-room) 0::g,by simp only[iY];rw[au aj,W]⟩
theorem Uo:∀{m:aO},m.length=l.length→∀{has Z:Int},has≤Z→(∀k (W:k<l.length) (V:k<m.length),m[k]≤l[k])→fV rate room has l≤fV rate room Z m:=by
 induction l with
 |nil=>intro m Y has Z h _;cases m with
  |nil=>exact h
  |cons a b=>simp at Y
 |cons n r U=>
  intro m Y has Z h X;cases m with
  |nil=>simp at Y
  |cons a b=>
   have T:=X 0 bK bK;simp only[List.getElem_cons_zero]at T;simp only[xQ]at Y;simp only[fV];refine U aj aj (fun k W V=>?_);have:=X (k+1) jy jy;simp only[sZ]at this;exact this
theorem U8{m g:aO}(X:m.length=l.length)(Z:∀k (U:k<l.length) (W:k<m.length),m[k]≤l[k])(h:iY rate room 0 has l= .ok g):
  (∃T,iY rate room 0 has m= .ok T)∧∀k (W:k<m.length),fV rate room has (l.take k)≤fV rate room has (m.take k)∧m[k]≤fV rate room has (m.take k):=by
 have Y:∀k (W:k<m.length),fV rate room has (l.take k)≤fV rate room has (m.take k)∧m[k]≤fV rate room has (m.take k):=by
  intro k W
  have S:fV rate room has (l.take k)≤fV rate room has (m.take k):=Uo (by simp[X]) (Int.le_refl _) (fun j U V=>by
   simp only[List.getElem_take];exact Z j (by simp at U;omega) (by simp at V;omega))
  have Q:=(OE h k aj (by rw[CV h];omega)).1;have P:=Z k aj W;exact⟨S,aj⟩
 exact⟨Qd fun k R=>(Y k R).2,Y⟩
def rU:aO→Int
 | []=>0
 |a::r=>a+rU r
theorem YV(Z Y:aO):rU (Z++Y)=rU Z+rU Y:=by
 induction Z with
 |nil=>simp[rU]
 |cons a r X=>simp[rU,X];omega
theorem Xn(l:aO)(k:Nat)(h:k<l):rU (l.take (k+1))=rU (l.take k)+l[k]:=by
 rw[Ba l k h,YV];simp[rU]
theorem Xo(l:aO):∀{has:Int},has≤room→fV rate room has l≤room:=by
 induction l with
 |nil=>intro has h;exact h
 |cons n r Z=>intro has _;exact Z aj
theorem Xp{T S:Int}(W:8≤rate)(V:8≤room)(l:aO):∀{has:Int},8≤has→has≤room→8≤ni T S rate room has l∧ni T S rate room has l≤room:=by
 induction l with
 |nil=>intro has Z Y;exact⟨Z,Y⟩
 |cons w r X=>
  intro has Z Y;exact X aj aj
theorem YW(T S rate room:Int)(l:aO):∀(has:Int) (k:Nat) (Z:k<l) (Y:k<(nD T S rate room has l)),
  (nD T S rate room has l)[k]=max 8 (min (T*l[k]/S) (ni T S rate room has (l.take k))):=by
 induction l with
 |nil=>intro has k Z;simp at Z
 |cons w r X=>
  intro has k Z Y;cases k with
  |zero=>simp[nD,ni]
  |succ k=>
   simp only[nD,xQ]at Z Y;exact X _ k aj aj
theorem YX(T S rate room:Int)(l:aO):∀(has:Int) (k:Nat),fV rate room has ((nD T S rate room has l).take k)=ni T S rate room has (l.take k):=by
 induction l with
 |nil=>intro has k;simp[nD,ni,fV]
 |cons w r Z=>
  intro has k;cases k with
  |zero=>simp[ni,fV]
  |succ k=>
   simp only[nD,List.take_succ_cons,ni,fV];have e:min (has+rate-max 8 (min (T*w/S) has)) room=min room (has-max 8 (min (T*w/S) has)+rate):=aj
   rw[e];exact Z _ k
theorem Tc{T S:Int}(Z:8≤rate)(Y:8≤room)(h1:8≤has)(h2:has≤room)(k:Nat)(X:k<l)(W:k<(nD T S rate room has l)):
  8≤(nD T S rate room has l)[k]∧(nD T S rate room has l)[k]≤ni T S rate room has (l.take k)∧ni T S rate room has (l.take k)≤room:=by
 have V:=Xp (T:=T) (S:=S) Z Y (l.take k) h1 h2;rw[YW _ _ _ _ l has k X W];omega
theorem Xq{T S:Int}(Z:8≤rate)(Y:8≤room)(h1:8≤has)(h2:has≤room):∃g,iY rate room 0 has (nD T S rate room has l)= .ok g:=by
 refine Qd fun k X=>?_
 rw[YX];have W:=wE T S rate room l has;exact(Tc Z Y h1 h2 k aj X).2.1
theorem Xr{T S:Int}(X:8≤rate)(W:8≤room)(h1:8≤has)(h2:has≤room){m:aO}(Z:m.length=l.length)
  (Y:∀k (hc:k<(nD T S rate room has l).length) (hk:k<m.length),m[k]≤(nD T S rate room has l)[k]):∃g,iY rate room 0 has m= .ok g:=by
 obtain⟨g,V⟩:=Xq X W h1 h2;exact(U8 (by rw[wE];exact Z) Y V).1
theorem aaD{a b:Int}(l:aO)(h:∀n∈l,a≤n∧n≤b):a*l≤rU l∧rU l≤b*l:=by
 induction l with
 |nil=>simp[rU]
 |cons x r Z=>
  have X:=Z (fun n Y=>h n (by simp[Y]));have W:=h x bK;have e:∀c:Int,c*((r.length+1:Nat):Int)=c*r+c:=fun c=>by rw[Int.natCast_add,Int.mul_add];simp
  simp only[rU,xQ,e];omega
theorem EX{a b:Int}(Z:j<l)(h:¬(a≤l[j]∧l[j]≤b)):sH a b l=false:=by
 rw[Bool.eq_false_iff];intro Y;exact h ((oG a b l).1 Y _ (lS Z))
theorem Ij:(prog.info? 3).map (fun i=>(i.zero,i.size,i.bytes))=some (some (aB 0),1,8):=aW
namespace Bi
def bit(b:aO)(i:Nat):Int:=b.getD (i/8) 0/2^(7-i%8)%2
theorem Pj(b:aO)(i:Nat):0≤bit b i∧bit b i≤1:=by unfold bit;omega
def num(b:aO)(p:Nat):Nat→Int
 |0=>0
 |n+1=>2*num b p n+bit b (p+n)
theorem IW(b:aO)(p:Nat):∀n,0≤num b p n∧num b p n<2^n:=by
 intro n
 induction n with
 |zero=>simp[num]
 |succ n Z=>
  have:=Pj b (p+n);have e:(2:Int)^(n+1)=2*2^n:=aj
  simp only[num,e];omega
theorem num_add(b:aO)(p n:Nat):∀m,num b p (n+m)=num b p n*2^m+num b (p+n) m:=by
 intro m
 induction m with
 |zero=>simp[num]
 |succ m Z=>
  have e:(2:Int)^(m+1)=2*2^m:=aj
  rw[←iO];simp only[num,Z,e,iO];rw[show num b p n*(2*2^m)=2*(num b p n*2^m)from by rw[Int.mul_left_comm]];omega
def bv(l:List Bool)(i:Nat):Int:=if l.getD i false then 1 else 0
def Qe(l:List Bool)(p:Nat):Nat→Int
 |0=>0
 |n+1=>2*Qe l p n+bv l (p+n)
theorem alB{l m:List Bool}{p:Nat}:∀{n},(∀t,t<n→bv l (p+t)=bv m (q+t))→Qe l p n=Qe m q n:=by
 intro n
 induction n with
 |zero=>intro _;rfl
 |succ n Z=>intro h;simp only[Qe];rw[Z (fun t Y=>h t aj),h n aj]
theorem aeW{m:List Bool}{p:Nat}:∀{n},(∀t,t<n→bit b (p+t)=bv m (q+t))→num b p n=Qe m q n:=by
 intro n
 induction n with
 |zero=>intro _;rfl
 |succ n Z=>intro h;simp only[Qe,num];rw[Z (fun t Y=>h t aj),h n aj]
def pack(l:List Bool):aO:=(List.range ((l.length+7)/8)).map fun j=>Qe l (8*j) 8
theorem ak8(l:List Bool):(pack l).length=(l.length+7)/8:=by simp[pack]
theorem Td(l m:List Bool)(i:Nat)(h:i<l):bv (l++m) i=bv l i:=by
 simp[bv,dG,JD h]
theorem Qg(l m:List Bool)(i:Nat):bv (l++m) (l.length+i)=bv m i:=by
 simp[bv,dG,ET]
def bitsOf(v:Int):Nat→List Bool
 |0=>[]
 |n+1=>decide (v/2^n%2=1)::bitsOf v n
theorem Bf(v:Int):∀n,(bitsOf v n)=n:=by
 intro n
 induction n with
 |zero=>rfl
 |succ n Z=>simp[bitsOf,Z]
theorem aeX(b:Bool)(l:List Bool):∀n,Qe (b::l) 0 (n+1)=(if b then 1 else 0)*2^n+Qe l 0 n:=by
 intro n
 induction n with
 |zero=>simp[Qe,bv]
 |succ n Z=>
  have e:(2:Int)^(n+1)=2*2^n:=aj
  have Y:bv (b::l) (0+(n+1))=bv l (0+n):=by simp[bv,dG]
  show 2*Qe (b::l) 0 (n+1)+bv (b::l) (0+(n+1))=_;rw[Z,e,Y];simp only[Qe];cases b<;>simp<;>omega
theorem aaE(v:Int):∀n,Qe (bitsOf v n) 0 n=v%2^n:=by
 intro n
 induction n with
 |zero=>simp[Qe]
 |succ n ih=>
  have e:(2:Int)^(n+1)=2^n*2:=Int.pow_succ _ _;have hp:(0:Int)<2^n:=sN aj;have h1:=Int.emod_nonneg v (Int.ne_of_gt hp);have h2:=Int.emod_lt_of_pos v hp;have h3:=Int.mul_ediv_add_emod v (2^n);have h4:=Int.mul_ediv_add_emod (v/2^n) 2;rw[bitsOf,aeX,ih,e];generalize(2:Int)^n=a at*;generalize v%a=r at*;generalize v/a=q at*;have h5:a*q=a*2*(q/2)+a*(q%2):=Ht
  by_cases h:q%2=1
  ·rw[h,Int.mul_one]at h5
   have h6:=((Int.ediv_emod_unique (a:=v) (b:=a*2) (q:=q/2) (r:=a+r) aj).2 ⟨aj,aj,aj⟩).2;rw[h6];simp[h]
  ·have h0:q%2=0:=aj
   rw[h0,Int.mul_zero]at h5;have h6:=((Int.ediv_emod_unique (a:=v) (b:=a*2) (q:=q/2) (r:=r) aj).2 ⟨aj,aj,aj⟩).2;rw[h6];simp[h]
def grown(l:List Bool):aO:=if l.length%8=0 then pack l++ [0]else pack l
end Bi
namespace Co
open Bi
def MS(u:Int):Nat:=if u≤0 then 0 else u.toNat.log2+1
theorem ad3{u:Int}(h:1≤u):1≤MS u∧(2:Int)^(MS u-1)≤u∧u<2^MS u:=by
 obtain⟨n,rfl⟩:=D6 (aj:0≤u);have hn:n≠0:=aj
 have h1:=Nat.log2_self_le hn;have h2:=@Nat.lt_log2_self n;unfold MS;rw[au aj];refine⟨aj,?_,?_⟩
 ·grind
 ·grind
theorem JZ{a b:Nat}(h:a≤b):(2:Int)^a≤2^b:=by
 exact_mod_cast oW (by omega:0<2) h
theorem ajx{u:Int}(h0:1≤n)(h1:(2:Int)^(n-1)≤u)(h2:u<2^n):MS u=n:=by
 have Z:(1:Int)≤2^(n-1):=JZ (a:=0) aj;obtain⟨a,b,c⟩:=ad3 (u:=u) aj;rcases Nat.lt_trichotomy (MS u) n with h|h|h
 ·have:=JZ (a:=MS u) (b:=n-1) aj;omega
 ·exact h
 ·have:=JZ (a:=n) (b:=MS u-1) aj;omega
theorem aeY{u:Int}(h:1≤u):MS u=MS (u/2)+1:=by
 by_cases Z:u=1
 ·subst Z;decide
 ·obtain⟨a,b,c⟩:=ad3 (u:=u/2) aj
  have e:(2:Int)^(MS (u/2))=2*2^(MS (u/2)-1):=by
   obtain⟨k,Y⟩:∃k,MS (u/2)=k+1:=⟨MS (u/2)-1,aj⟩;rw[Y,Int.pow_succ];simp;omega
  exact ajx aj jy aj
def fold(v:Int):Int:=if v>2305843009213693952∨v< -2305843009213693952 then 0 else if v>0 then 2*v-1 else-2*v
def unfold'(u:Int):Int:=if u<0∨u>4611686018427387904 then 0 else if u%2=1 then u/2+1 else-(u/2)
theorem Va{u:Int}(h0:0≤u)(h1:u≤4611686018427387904)(h:u%2=1):unfold' u=u/2+1:=by
 unfold unfold';rw[au aj,aF aj]
theorem Tf{u:Int}(h0:0≤u)(h1:u≤4611686018427387904)(h:u%2=0):unfold' u= -(u/2):=by
 unfold unfold';rw[au aj,au aj]
def ajy(v k:Int):Bool:=decide (0≤v∧v≤1073741824∧0≤k∧k≤15)
def wI(v:Int)(k:Nat):List Bool:=
 if v/2^k<24 then List.replicate (v/2^k).toNat true++false::bitsOf (v%2^k) k
 else List.replicate 24 true++bitsOf v 31
def ag3(v k:Int):Int:=if ajy v k then(if v/2^k.toNat<24 then v/2^k.toNat+1+k else 55)else 0
theorem Vb{v:Int}(h:0≤v)(k:Nat):0≤v/2^k:=kJ h (Int.le_of_lt (sN aj))
inductive Got where
 |num (v:Int)
 |short (at_:Nat)
 |range (at_:Nat)
def zeros(b:aO)(T p:Nat):Nat→Nat→Except Got Nat
 |0,n=>.error (.range (p+n))
 |k+1,n=>if T≤p+n then .error (.short (p+n))else if bit b (p+n)=1 then .ok n else zeros b T p k (n+1)
def ones(b:aO)(T p:Nat):Nat→Nat→Except Got Nat
 |0,q=>.ok q
 |k+1,q=>if T≤p+q then .error (.short (p+q))else if bit b (p+q)=0 then .ok q else ones b T p k (q+1)
def DR(p q:Nat):Nat:=if q<24 then p+q+1 else p+24
def EY(b:aO)(T:Nat)(k:Nat)(most:Int)(q at_:Nat):Got × Nat:=
 let n:=if q=24 then 31 else k
 if T<at_+n then(.short at_,at_)else
  let v:=if q<24 then num b at_ n+q*2^k else num b at_ n
  if v>most∨v>1073741824∨¬q<24∧v/2^k<24 then(.range (at_+n),at_+n)else(.num v,at_+n)
def xJ(b:aO)(T p:Nat)(k:Nat)(most:Int):Got × Nat:=
 match ones b T p 24 0 with
 | .error (.short e)=>(.short e,e)
 | .error e=>(e,p)
 | .ok q=>EY b T k most q (DR p q)
def At(b:aO)(p:Nat)(l:List Bool):Prop:=∀t,t<l.length→bit b (p+t)=bv l t
theorem YZ{p:Nat}{l m:List Bool}:At b p (l++m)↔At b p l∧At b (p+l) m:=by
 constructor
 ·intro h
  refine⟨fun t Z=>?_,fun t Z=>?_⟩
  ·rw[h t jy,Td _ _ _ Z]
  ·rw[iO,h (l.length+t) jy,Qg]
 ·rintro⟨Y,X⟩ t Z
  by_cases h:t<l
  ·rw[Y t h,Td _ _ _ h]
  ·obtain⟨j,rfl⟩:∃j,t=l+j:=⟨t-l,aj⟩
   rw[←iO,X j (by simp at Z;omega),Qg]
theorem KH(x:Bool)(n t:Nat)(h:t<n):bv (List.replicate n x) t=if x then 1 else 0:=by
 simp[bv,dG,h]
theorem KI(x:Bool)(l:List Bool):bv (x::l) 0=if x then 1 else 0:=by simp[bv]
theorem KJ(x:Bool)(l:List Bool)(t:Nat):bv (x::l) (t+1)=bv l t:=by simp[bv]
theorem aeZ(v:Int):∀n t,t<n→bv (bitsOf v n) t=v/2^(n-1-t)%2:=by
 intro n
 induction n with
 |zero=>intro t h;omega
 |succ n Z=>
  intro t h;cases t with
  |zero=>
   rw[bitsOf,KI];simp only[Nat.add_sub_cancel,Nat.sub_zero,oQ];split<;>omega
  |succ t=>
   rw[bitsOf,KJ,Z t aj]
   congr 3
   omega
theorem ag4(b:aO)(p:Nat){v:Int}(h:At b p (bitsOf v n)):num b p n=v%2^n:=by
 rw[←aaE,aeW];intro t Z;rw[dI];exact h t (by rw[Bf];exact Z)
theorem ag5(b:aO)(p n:Nat):At b p (bitsOf (num b p n) n):=by
 intro t Z;rw[Bf]at Z;rw[aeZ _ _ _ Z];obtain⟨m,rfl⟩:∃m,n=(t+1)+m:=⟨n-(t+1),aj⟩;have e:t+1+m-1-t=m:=aj
 have Y:=IW b (p+(t+1)) m;have X:(0:Int)<2^m:=sN aj;rw[e,num_add,Int.add_comm,Int.add_mul_ediv_right _ _ (Int.ne_of_gt X),Int.ediv_eq_zero_of_lt Y.1 Y.2];have W:=Pj b (p+t);simp only[num];omega
theorem Y0{b:aO}{T p m:Nat}:∀{k q},ones b T p k q= .ok m↔q≤m∧m≤q+k∧(∀t,q≤t→t<m→p+t<T∧bit b (p+t)=1)∧(m<q+k→p+m<T∧bit b (p+m)=0):=by
 intro k
 induction k with
 |zero=>
  intro q;simp only[ones,Except.ok.injEq];constructor
  ·grind
  ·omega
 |succ k ih=>
  intro q;have hb:=Pj b (p+q);simp only[ones];split
  ·grind
  ·grind
theorem ag6{b:aO}{T p:Nat}{e:Got}:∀{k q},ones b T p k q= .error e→∃x,e= .short x:=by
 intro k
 induction k with
 |zero=>intro q h;simp[ones]at h
 |succ k ih=>
  intro q h;simp only[ones]at h;split at h
  ·grind
  ·grind
theorem UF{T p e:Nat}{v:Int}(h:xJ b T p k most=(.num v,e)):
  0≤v∧v≤1073741824∧v≤most∧e=p+(wI v k)∧e≤T∧At b p (wI v k):=by
 unfold xJ at h;split at h
 ·cases h
 ·next D _ M=>
  obtain⟨x,W⟩:=ag6 M;subst W;cases h
 ·next q J=>
  obtain⟨_,C,I,H⟩:=Y0.1 J;unfold EY at h;simp only[]at h;obtain⟨n,L⟩:=kF (if q=24 then 31 else k);rw[←L]at h;obtain⟨u,O⟩:=kF (if q<24 then num b (DR p q) n+q*2^k else num b (DR p q) n);rw[←O]at h;split at h
  ·cases h
  ·next B=>
   split at h
   ·cases h
   ·next Q=>
    obtain⟨V,M⟩:=Prod.mk.inj h;injection V with V
    subst L;rw[V]at O Q;have V:=O.symm
    have Y:At b p (List.replicate q true):=fun t S=>by
     rw[gJ]at S;rw[(I t aj S).2,KH _ _ _ S];rfl
    by_cases X:q<24
    ·have U:¬q=24:=aj
     have K:q+1≤24:=X;simp only[X,tN,U,rJ,DR]at*;have W:=IW b (p+q+1) k;have N:(0:Int)<2^k:=sN aj;have E:(0:Int)≤(q:Int)*2^k:=pI aj aj;have G:=H aj
     have F:v/2^k=q:=by
      rw[←V,Int.add_mul_ediv_right _ _ (Int.ne_of_gt N),Int.ediv_eq_zero_of_lt W.1 W.2];omega
     have P:v%2^k=num b (p+q+1) k:=by
      rw[←V,Int.add_mul_emod_self_right,Int.emod_eq_of_lt W.1 W.2]
     have R:wI v k=List.replicate q true++false::bitsOf (num b (p+q+1) k) k:=by
      unfold wI;rw[F,aF aj,P];simp
     have Z:(wI v k)=q+(k+1):=by rw[R];simp[Bf]
     rw[Z];refine⟨aj,aj,aj,aj,aj,?_⟩;rw[R,YZ,gJ];refine⟨Y,fun t S=>?_⟩;cases t with
     |zero=>rw[KI,dW,G.2];rfl
     |succ t=>
      rw[KJ,(aj:p+q+(t+1)=p+q+1+t)];exact ag5 b (p+q+1) k t (by simpa using S)
    ·have U:q=24:=aj
     subst U;simp only[Nat.lt_irrefl,tN,rJ,DR,not_false_eq_true,true_and]at*;have W:=IW b (p+24) 31
     have R:wI v k=List.replicate 24 true++bitsOf (num b (p+24) 31) 31:=by
      unfold wI;rw[au aj,V]
     have Z:(wI v k).length=24+31:=by rw[R];simp[Bf]
     rw[Z];refine⟨aj,aj,aj,aj,aj,?_⟩;rw[R,YZ,gJ];exact⟨Y,ag5 b (p+24) 31⟩
theorem ae0{b:aO}{T p k:Nat}{v most:Int}(h0:0≤v)(h1:v≤1073741824)(h2:v≤most)(hT:p+(wI v k)≤T)(h:At b p (wI v k)):
  xJ b T p k most=(.num v,p+(wI v k)):=by
 have hp0:(0:Int)<2^k:=sN aj;have hd0:=Vb h0 k;have hdm:=Int.mul_ediv_add_emod v (2^k)
 by_cases hq:v/2^k<24
 ·obtain⟨q,hqe⟩:=D6 hd0
  have hr:wI v k=List.replicate q true++false::bitsOf (v%2^k) k:=by
   unfold wI;rw[aF hq,hqe];simp
  rw[hr]at hT h ⊢;rw[YZ,gJ]at h;obtain⟨ha,hb⟩:=h;have hlen:(List.replicate q true++false::bitsOf (v%2^k) k).length=q+(k+1):=by simp[Bf]
  rw[hlen]at hT ⊢;have hz:bit b (p+q)=0:=by have:=hb 0 bK;rw[dW,KI]at this;simpa using this
  have hr2:At b (p+q+1) (bitsOf (v%2^k) k):=fun t ht=>by
   have:=hb (t+1) (by simpa using ht);rw[KJ]at this;rw[←this,(aj:p+q+1+t=p+q+(t+1))]
  have hnum:=ag4 b (p+q+1) hr2;rw[Int.emod_emod_of_dvd _ (Int.dvd_refl _)]at hnum;have ho:ones b T p 24 0= .ok q:=Y0.2 ⟨aj,aj,fun t _ ht=>⟨aj,by rw[ha t (by simpa using ht),KH _ _ _ ht];rfl⟩,fun _=>⟨aj,hz⟩⟩;unfold xJ;rw[ho];have h24:¬q=24:=aj
  have hlt:q<24:=aj
  simp only[EY,DR,h24,hlt,tN,rJ,hnum,not_true_eq_false,false_and,or_false];have hval:v%2^k+q*2^k=v:=Ht
  rw[hval,au aj,au aj];refine Prod.ext rfl ?_;simp only[];omega
 ·have hr:wI v k=List.replicate 24 true++bitsOf v 31:=by unfold wI;rw[au hq]
  rw[hr]at hT h ⊢;rw[YZ,gJ]at h;obtain⟨ha,hb⟩:=h;have hlen:(List.replicate 24 true++bitsOf v 31).length=24+31:=by simp[Bf]
  rw[hlen]at hT ⊢;have hnum:=ag4 b (p+24) hb;rw[Int.emod_eq_of_lt h0 (by simp only[Int.reducePow];omega)]at hnum;have ho:ones b T p 24 0= .ok 24:=Y0.2 ⟨aj,aj,fun t _ ht=>⟨aj,by rw[ha t (by simpa using ht),KH _ _ _ ht];rfl⟩,fun h=>aj⟩;unfold xJ;rw[ho];simp only[EY,DR,Nat.lt_irrefl,tN,rJ,hnum,not_false_eq_true,true_and];rw[au aj,au aj]
end Co
namespace So
open Bi Co
def clip(v:Int):Int:=min (max v 0) 255
theorem ajz(v:Int):0≤clip v∧clip v≤255:=by unfold clip;omega
theorem ad4{v:Int}:v=clip v↔0≤v∧v≤255:=by unfold clip;omega
def guess(Z:aO)(w i:Nat):Int:=
 if i=0 then 128
 else if i<w then Z.getD (i-1) 0
 else if i%w=0 then Z.getD (i-w) 0
 else clip (Z.getD (i-1) 0+Z.getD (i-w) 0-Z.getD (i-w-1) 0)
theorem aaF{p q:aO}{w i:Nat}(hw:1≤w)(h:∀j,j<i→p.getD j 0=q.getD j 0):guess p w i=guess q w i:=by
 unfold guess;split
 ·rfl
 ·grind
theorem ad5{p:aO}(h:∀v∈p,0≤v∧v≤255)(j:Nat):0≤p.getD j 0∧p.getD j 0≤255:=by
 rw[dG]
 by_cases hj:j<p
 ·simp_all
 ·grind
theorem IX(h:∀v∈p,0≤v∧v≤255)(w i:Nat):0≤guess p w i∧guess p w i≤255:=by
 unfold guess;split
 ·omega
 ·split
  ·exact ad5 h _
  ·split
   ·exact ad5 h _
   ·exact ajz _
def alC(Z:aO)(w i:Nat):Int:=fold (Z.getD i 0-guess Z w i)
def folds(Z:aO)(w:Nat):aO:=(List.range Z.length).map (alC Z w)
def cost(k:Int):aO→Int
 | []=>0
 |v::r=>ag3 v k+cost k r
theorem amB(k:Int)(l m:aO):cost k (l++m)=cost k l+cost k m:=by
 induction l with
 |nil=>simp[cost]
 |cons a r Z=>simp[cost,Z];omega
def best(l:aO):Nat→Int × Int
 |0=>(0,-1)
 |n+1=>let b:=best l n;if b.2<0∨cost n l<b.2 then((n:Int),cost n l)else b
def ak9(l:aO):Int:=(best l 8).1
def aaG(k:Nat):aO→List Bool
 | []=>[]
 |v::r=>wI v k++aaG k r
def ae1(Z:aO)(w:Nat):List Bool:=
 let l:=folds Z w
 bitsOf (ak9 l) 3++aaG (ak9 l).toNat l
inductive Fr where
 |ok (Du:aO)
 |bits (e:Got)
 |sample
def samples(b:aO)(T k w:Nat):Nat→aO→Nat→Fr × Nat
 |0,Z,p=>(.ok Z,p)
 |n+1,Z,p=>
  match xJ b T p k 510 with
  |(.num u,q)=>
   let v:=guess Z w Z.length+unfold' u
   if 0≤v∧v≤255 then samples b T k w n (Z++ [v]) q else(.sample,q)
  |(e,q)=>(.bits e,q)
def frame(b:aO)(T w n:Nat)(p:Nat):Fr × Nat:=
 if T<p+3 then(.bits (.short p),p)else samples b T (num b p 3).toNat w n [] (p+3)
def frames(b:aO)(T w s:Nat):Nat→List aO→Nat→Except (Nat × Fr) (List aO)× Nat
 |0,Z,p=>(.ok Z,p)
 |n+1,Z,p=>
  match frame b T w s p with
  |(.ok Y,q)=>frames b T w s n (Z++ [Y]) q
  |(e,q)=>(.error (Z.length,e),q)
def ad6(w:Nat):List aO→List Bool
 | []=>[]
 |f::r=>ae1 f w++ad6 w r
theorem Y1{T p:Nat}{v:Int}(R:T≤T')(Z:∀i,i<T→bit b' i=bit b i)(h:xJ b T p k most=(.num v,q)):xJ b' T' p k most=(.num v,q):=by
 obtain⟨Y,X,W,V,Q,U⟩:=UF h;rw[V];exact ae0 Y X W aj fun t S=>by rw[Z _ aj];exact U t S
theorem ag7{T p:Nat}(Z:∀i,i<T→bit b' i=bit b i)(h:p+n≤T):num b' p n=num b p n:=by
 induction n with
 |zero=>rfl
 |succ n Y=>simp only[num];rw[Y aj,Z _ aj]
theorem Y2{b b':aO}{T T' k w:Nat}(hT:T≤T')(hb:∀i,i<T→bit b' i=bit b i):∀(n:Nat) (Du:aO) (p q:Nat) (r:aO),p≤T→samples b T k w n Du p=(.ok r,q)→samples b' T' k w n Du p=(.ok r,q)∧q≤T∧r.length=Du+n∧((∀v∈Du,0≤v∧v≤255)→∀v∈r,0≤v∧v≤255):=by
 intro n
 induction n with
 |zero=>
  intro Du p q r hp h;simp only[samples,jd,Fr.ok.injEq]at h ⊢;obtain⟨rfl,rfl⟩:=h;exact⟨sD,hp,aj,fun h=>h⟩
 |succ n ih=>
  intro Du p q r hp h;simp only[samples]at h;split at h
  ·next u q' hg=>
   split at h
   ·next hv=>
    obtain⟨h1,h2,h3,h4⟩:=ih _ _ _ _ (UF hg).2.2.2.2.1 h;refine⟨?_,h2,by simp at h3;omega,fun h5=>h4 (fun v hv'=>?_)⟩
    ·simp only[samples,Y1 hT hb hg]
     rw[aF hv,h1]
    ·grind
   ·cases h
  ·cases h
theorem Pm{T w p:Nat}{r:aO}(Y:T≤T')(Z:∀i,i<T→bit b' i=bit b i)(h:frame b T w n p=(.ok r,q)):frame b' T' w n p=(.ok r,q)∧q≤T∧r=n∧∀v∈r,0≤v∧v≤255:=by
 unfold frame at h ⊢;split at h
 ·cases h
 ·next S=>
  rw[au aj,ag7 Z aj];obtain⟨X,W,V,U⟩:=Y2 Y Z _ _ _ _ _ aj h;exact⟨X,W,by simpa using V,U bK⟩
theorem aaH{b b':aO}{T T' w s:Nat}(hT:T≤T')(hb:∀i,i<T→bit b' i=bit b i):∀(n:Nat) (fs:List aO) (p q:Nat) (r:List aO),p≤T→frames b T w s n fs p=(.ok r,q)→
  frames b' T' w s n fs p=(.ok r,q)∧q≤T∧r.length=fs+n∧((∀f∈fs,f=s∧∀v∈f,0≤v∧v≤255)→∀f∈r,f=s∧∀v∈f,0≤v∧v≤255):=by
 intro n
 induction n with
 |zero=>
  intro fs p q r hp h;simp only[frames,jd,Except.ok.injEq]at h ⊢;obtain⟨rfl,rfl⟩:=h;exact⟨sD,hp,aj,fun h=>h⟩
 |succ n ih=>
  intro fs p q r hp h;simp only[frames]at h;split at h
  ·next Du q' hg=>
   obtain⟨h1,h2,h3,h4⟩:=Pm hT hb hg;obtain⟨k1,k2,k3,k4⟩:=ih _ _ _ _ h2 h;refine⟨?_,k2,by simp at k3;omega,fun h5=>k4 (fun f hf=>?_)⟩
   ·simp only[frames,h1];exact k1
   ·grind
  ·cases h
end So
def yu(n:Int):Bool:=decide (8≤n∧n≤32∧n%8=0)
def GK(w h:Int)(Z:aO):Bool:=yu w&&yu h&&decide ((Z.length:Int)=w*h)&&sH 0 255 Z
theorem GL(n:Int)(w:aK):Calls prog 216 #[n] w fun e V=>e=bM (.bool (yu n))∧w=V:=by
 by_cases X:8≤n
 ·by_cases W:n≤32
  ·have T:Int.tmod n 8=n%8:=Int.tmod_eq_emod_of_nonneg aj
   by_cases Y:n%8=0
   ·have Z:=ay (show yu n=true from su ⟨X,W,Y⟩)
    go_enter func216,ntmps216;go_wp2;go_ret;exact⟨by rw[Z.out];rfl,rfl⟩
   ·have Z:=ay (show yu n=false from vH fun h=>Y h.2.2)
    have U:(n%8==0)=false:=by simpa using Y
    go_enter func216,ntmps216;go_wp2;go_ret;exact⟨by rw[Z.out];rfl,rfl⟩
  ·have Z:=ay (show yu n=false from vH fun h=>W h.2.1)
   go_enter func216,ntmps216;go_wp2;go_ret;exact⟨by rw[Z.out];rfl,rfl⟩
 ·have Z:=ay (show yu n=false from vH fun h=>X h.1)
  go_enter func216,ntmps216;go_wp2;go_ret;exact⟨by rw[Z.out];rfl,rfl⟩
theorem MV(v:Int)(w:aK):Calls prog 208 #[v] w fun e Z=>e=bM (So.clip v)∧w=Z:=by
 go_enter func208,ntmps208;go_wp2
 all_goals go_ret
 all_goals refine⟨?_,rfl⟩
 all_goals first
  |rfl
  |(rw[show So.clip v=255 by unfold So.clip;omega];rfl)
  |(rw[show So.clip v=0 by unfold So.clip;omega];rfl)
  |(rw[show So.clip v=v by unfold So.clip;omega];rfl)
theorem ae2(v:Int)(w:aK):Calls prog 166 #[v] w fun e Z=>e=bM (So.clip v)∧w=Z:=by
 go_enter func166,ntmps166;go_wp2
 all_goals go_ret
 all_goals refine⟨?_,rfl⟩
 all_goals first
  |rfl
  |(rw[show So.clip v=255 by unfold So.clip;omega];rfl)
  |(rw[show So.clip v=0 by unfold So.clip;omega];rfl)
  |(rw[show So.clip v=v by unfold So.clip;omega];rfl)
theorem OG(v:Int)(w:aK):Calls prog 265 #[v] w fun e Y=>e=bM (.bool (!decide (0≤v∧v≤255)))∧w=Y:=by
 obtain⟨D,W⟩:∃D,decide (0≤v∧v≤255)=D:=⟨_,rfl⟩;rw[W];have X:=ay W
 have H:Calls prog 217 #[v] w fun e Y=>e=bM (.bool D)∧w=Y:=by
  by_cases V:0≤v
  ·by_cases U:v≤255
   ·have Z:=ay (show D=true from X.symm.trans (su ⟨V,U⟩))
    go_enter func217,ntmps217;go_wp2;go_ret;exact⟨by rw[Z.out];rfl,rfl⟩
   ·have Z:=ay (show D=false from X.symm.trans (vH fun h=>U h.2))
    go_enter func217,ntmps217;go_wp2;go_ret;exact⟨by rw[Z.out];rfl,rfl⟩
  ·have Z:=ay (show D=false from X.symm.trans (vH fun h=>V h.1))
   go_enter func217,ntmps217;go_wp2;go_ret;exact⟨by rw[Z.out];rfl,rfl⟩
 have T:=ay H;go_enter func265,ntmps265;go_wp2_with(go_at_call 217;refine T.aQ ?_;rintro Y rfl);go_ret;exact sD
theorem Xt(M:l.length≤9223372036854775807)(w:aK)(Q:yK .i64 w A l):
  Calls prog 269 #[aG A l c,.func (.func 265) #[] #[]] w fun e X=>(∃r:Int,e=bM r∧decide (0≤r)= !sH 0 255 l)∧w=X:=by
 have P:=ay Q;go_enter func269,ntmps269;go_wp2
 go_loopg [8] l (fun k i wr=>∃j:Nat,j+k=l∧i=j∧wr=w∧∀n∈l.take j,0≤n∧n≤255)
 case atStart=>exact⟨0,aj,rfl,rfl,bK⟩
 case round=>
  obtain⟨j,L,rfl,rfl,U⟩:=hrel;have T:=ay U
  by_cases Z:j<l
  ·obtain⟨b2,K,rfl,J⟩:=P.at_ Z
   have R:(j:Int)<(l.length:Int):=aj
   by_cases Y:0≤l[j]∧l[j]≤255
   ·obtain⟨W,O⟩:=aV (su Y) Y
    go_wp2_with(go_at_call 265;refine(OG l[j] _).mono ?_;rw[W];rintro e X ⟨rfl,rfl⟩);go_roundg(gk-1)
    case measure=>omega
    case rel=>
     refine⟨j+1,aj,fA,rfl,fun n S=>?_⟩;rw[BH Z]at S;rcases rH.1 S with h|h
     ·exact T n h
     ·simp at h;subst h;exact O
   ·obtain⟨W,V⟩:=aV (vH Y) (EX (a:=0) (b:=255) Z Y)
    go_wp2_with(go_at_call 265;refine(OG l[j] _).mono ?_;rw[W];rintro e X ⟨rfl,rfl⟩);go_ret;exact⟨⟨j,rfl,by rw[V.out];simp⟩,rfl⟩
  ·have N:l.take j=l:=wO aj
   have V:=ay ((oG 0 255 l).2 (by have:=T.out;rwa[N]at this));go_wp2;go_ret;exact⟨⟨-1,rfl,by rw[V.out];rfl⟩,rfl⟩
theorem Ti(Y:l.length≤9223372036854775807)(w:aK)(X:yK .i64 w A l):
  Calls prog 246 #[aG A l c] w fun e Z=>e=bM (.bool (sH 0 255 l))∧w=Z:=by
 have W:=ay X
 have H:Calls prog 252 #[aG A l c,.func (.func 265) #[] #[]] w fun e Z=>e=bM (.bool (!sH 0 255 l))∧w=Z:=by
  go_enter func252,ntmps252;go_wp2_with(go_at_call 269;refine(Xt Y _ W).mono ?_;rintro e Z ⟨⟨r,rfl,V⟩,rfl⟩);go_ret;exact⟨by rw[←V];rfl,rfl⟩
 obtain⟨D,U⟩:∃D,sH 0 255 l=D:=⟨_,rfl⟩;rw[U]at H ⊢;have T:=ay H;go_enter func246,ntmps246;go_wp2_with(go_at_call 252;refine T.aQ ?_;rintro Z rfl);go_ret;exact⟨bK,rfl⟩
theorem GN{n:Int}(h:yu n=true):8≤n∧n≤32:=by
 have:=tu h;exact⟨this.1,this.2.1⟩
theorem acs(Y X:Int)(Z:aO):(yu Y=false∧GK Y X Z=false)∨(yu Y=true∧yu X=false∧GK Y X Z=false)∨
  (yu Y=true∧yu X=true∧¬(Z.length:Int)=Y*X∧GK Y X Z=false)∨(yu Y=true∧yu X=true∧(Z.length:Int)=Y*X∧GK Y X Z=sH 0 255 Z):=by
 unfold GK;cases V:yu Y
 ·exact .inl ⟨rfl,rfl⟩
 ·cases U:yu X
  ·exact .inr (.inl ⟨rfl,rfl,rfl⟩)
  ·by_cases W:(Z.length:Int)=Y*X
   ·exact .inr (.inr (.inr ⟨rfl,rfl,W,by simp[W]⟩))
   ·exact .inr (.inr (.inl ⟨rfl,rfl,W,by simp[W]⟩))
theorem ajA{x y:Int}(N:l.length≤9223372036854775807)(w:aK)(O:yK .i64 w A l):
  Calls prog 210 #[.agg #[x,y,aG A l c]] w fun e Y=>e=bM (.bool (GK x y l))∧w.alloc (aS #[x,y,aG A l c] 90)=Y:=by
 have M:=ay (O.alloc (aS #[x,y,aG A l c] 90));clear O;rcases acs x y l with⟨X,Z⟩|⟨X,W,Z⟩|⟨X,W,T,Z⟩|⟨X,W,T,Z⟩
 ·have V:=ay Z
  clear Z;go_enter func210,ntmps210;go_wp2_with(go_at_call 216;refine(GL x _).mono ?_;rw[X];rintro e Y ⟨rfl,rfl⟩);go_ret;exact⟨by rw[V];rfl,rfl⟩
 ·have V:=ay Z
  clear Z;go_enter func210,ntmps210;go_wp2_with fail;refine(GL x _).mono ?_;rw[X];rintro e Y ⟨rfl,rfl⟩;go_wp2_with fail;refine(GL y _).mono ?_;rw[W];rintro e Y ⟨rfl,rfl⟩;go_wp2;go_ret;exact⟨by rw[V];rfl,rfl⟩
 ·have V:=ay Z
  have S:=GN X;have b2:=GN W;obtain⟨P,U⟩:∃P,x*y=P:=⟨_,rfl⟩
  have R:0≤P∧P≤1024:=by
   rw[←U];exact⟨pI aj aj,Int.le_trans (Int.mul_le_mul S.2 b2.2 aj aj) bn⟩
  rw[U]at T;have L:IntKind.i64.wrap (x*y)=P:=by rw[U];exact iE _ aj
  have Q:((l.length:Int)==P)=false:=by simpa using T
  clear Z S b2;go_enter func210,ntmps210;go_wp2_with fail;refine(GL x _).mono ?_;rw[X];rintro e Y ⟨rfl,rfl⟩;go_wp2_with fail;refine(GL y _).mono ?_;rw[W];rintro e Y ⟨rfl,rfl⟩;go_wp2;go_ret;exact⟨by rw[V];rfl,rfl⟩
 ·have V:=ay Z
  have S:=GN X;have b2:=GN W;obtain⟨P,U⟩:∃P,x*y=P:=⟨_,rfl⟩
  have R:0≤P∧P≤1024:=by
   rw[←U];exact⟨pI aj aj,Int.le_trans (Int.mul_le_mul S.2 b2.2 aj aj) bn⟩
  rw[U]at T;have L:IntKind.i64.wrap (x*y)=P:=by rw[U];exact iE _ aj
  have Q:((l.length:Int)==P)=true:=by simpa using T
  clear Z S b2 T;go_enter func210,ntmps210;go_wp2_with fail;refine(GL x _).mono ?_;rw[X];rintro e Y ⟨rfl,rfl⟩;go_wp2_with fail;refine(GL y _).mono ?_;rw[W];rintro e Y ⟨rfl,rfl⟩;go_wp2_with fail;refine(Ti N _ M).aQ ?_;rintro Y rfl;go_wp2_with fail;go_ret;exact⟨by rw[V];rfl,rfl⟩
section
open Go.Sort
structure ajL(p:Prop):Prop where
 out:p
abbrev Grown(w:aK):aK→Prop:=fun Z=>∃p:Regrown,Z=grow (redrawn w p.d) p.os
theorem AQ{P:Program}{id:Nat}{l:List Oper}(Z:P.follows .mixedOrders=true)(Y:Region.lexB .any l.toArray=true)
  (h:ajL (wpQuiet P l.toArray (Grown w) (fun a'=>∀w',Grown w w'→Q .normal a' w') l a)):(Code.region id l.toArray true).wp P Q a w:=
 wp_region_quiet_below Z Y h.out
theorem DV{P:Program}{Z:Array Oper}{C:aK→Prop}{Q:Act→Prop}
  (h:∀K:Act→Prop,(∀a,ajL (wpQuiet P Z C Q rest a)→K a)→if Region.wanted o (yielded Z a.tmps)then o.quiet P a C K else K (a.put o.dst undef)):ajL (wpQuiet P Z C Q (o::rest) a):=
 ⟨wpQuiet_step fun K Y=>h K fun a h=>Y a h.out⟩
theorem Hy{P:Program}{Z:Array Oper}{C:aK→Prop}{Q:Act→Prop}(h:Q a):ajL (wpQuiet P Z C Q [] a):=⟨wpQuiet_nil h⟩
theorem Grown.below(h:Grown w w'):Below w w w':=by obtain⟨p,rfl⟩:=h;exact below_regrown w _ _
theorem Calls.grown{P:Program}{f:FuncId}{Z:Array cO}(h:∀w',Below w w w'→Calls P f Z w' fun e Y=>e=bM v∧Below w' w' Y)(p:Regrown):
  Calls P f Z (grow (redrawn w p.d) p.os) fun e Y=>e=bM v∧Grown w Y:=Calls.regrown_of (h _ (below_regrown w _ _))
end
namespace Fa
abbrev Steps:=List (ByteArray × Int)
def S(l:List UInt8):ByteArray:=⟨l.toArray⟩
def aeG(x:ByteArray × Int):List UInt8:=x.1.data.toList++([32]++Lib.itoa x.2++ [58,32])
def names(p:Steps):Nat:=(p.map fun x=>x.1.size).sum
def cut(p:Steps):Nat:=(p.map fun x=>min x.1.size 20001).sum
def few(p:Steps):Bool:=decide (p.length≤400)&&decide (cut (p.take 400)≤20000)
end Fa
end Go.Proofs.YtiaeohgghaaciaaGreatDoor
