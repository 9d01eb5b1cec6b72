import Derived.Test.YthobcefghkeddaaGreatDoorMem
import Derived.Test.YthobcefghkeddaaGreatDoorProg
import Derived.Stop.Asserts
import Derived.RowKitTokens
set_option maxRecDepth 100000
set_option linter.all false
set_option maxHeartbeats 4000000
namespace Go.Proofs.YthobcefghkeddaaGreatDoor
open Go.RowKit Go.Extern.Stop Go.Stop Go.Extern
def pZ(w:World):Prop:=w.cell? ⟨0,0,none⟩=some (.iface 231 (.agg #[.pointer (some ⟨13,75,none⟩)]))
theorem BA(t:Value)(w:World):Calls Tryz.prog 33 #[.nilIface,t] w fun e w'=>e=.returned (.bool false)∧w=w':=by
 go_enter Tryz.func33,Tryz.ntmps33
 go_wp2
 go_ret
 exact⟨rfl,rfl⟩
theorem Tryz.valueOf81(t:Addr)(w:World):(ReflectliteValue.unpack (.iface 81 (.pointer (some t)))).run Tryz.prog w
 = .ok (.agg #[.pointer (some ⟨13,81,none⟩),.pointer (some ⟨w.heap.size,0,none⟩),.int .u64 150]) (w.alloc (.cells #[.pointer (some t)] 81)):=δ
theorem Tryz.type81(a:Addr)(w:World):(ReflectliteValue.methodAny (ReflectliteValue.valueError "reflectlite.Value.Type" 0) (fun t _ _ _=>ReflectliteType.toType t) #[.agg #[.pointer (some ⟨13,81,none⟩),.pointer (some a),.int .u64 150]]).run Tryz.prog w
 = .ok (.iface 231 (.agg #[.pointer (some ⟨13,81,none⟩)])) w:=δ
theorem Tryz.methodKind(h:Value)(w:World):(Go.method 503 231 (.agg #[h]) "Kind").run Tryz.prog w=.ok (244,h) w:=δ
theorem Tryz.kind81(w:World):((ReflectliteType.abiMethod fun t=>(fun a:Nat=>Value.int IntKind.u8 (a:Int)) <$> Rtype.kind t) #[.pointer (some ⟨13,81,none⟩)]).run Tryz.prog w=.ok (.int .u8 22) w:=δ
theorem Tryz.kind79(w:World):((ReflectliteType.abiMethod fun t=>(fun a:Nat=>Value.int IntKind.u8 (a:Int)) <$> Rtype.kind t) #[.pointer (some ⟨13,79,none⟩)]).run Tryz.prog w=.ok (.int .u8 22) w:=δ
theorem rlm(z:Sem Value)(f:TypeId→Addr→Nat→Nat→Sem Value)(v:Value):
 ReflectliteValue.method z f #[v]=(do match← ReflectliteValue.parts v with|none=>z|some (t,a,fl)=>f t a fl (fl%32)):=rfl
theorem Tryz.parts81(a:Addr)(w:World):(ReflectliteValue.parts (.agg #[.pointer (some ⟨13,81,none⟩),.pointer (some a),.int .u64 150])).run Tryz.prog w=.ok (some (81,a,150)) w:=δ
theorem Tryz.isNil81(a p:Addr)(W:World)(d:W.cell? a=some (.pointer (some p))):
 (ReflectliteValue.method (ReflectliteValue.valueError "reflectlite.Value.IsNil" 0) ReflectliteValue.isNil #[.agg #[.pointer (some ⟨13,81,none⟩),.pointer (some a),.int .u64 150]]).run Tryz.prog W=.ok (.bool false) W:=by
 rw[rlm];simp only[Sem.run_bind,Tryz.parts81,Result.andThen];simp[ReflectliteValue.isNil,loadVar,isAgg,underlying,Tryz.underlying81,d,Result.andThen]
theorem Tryz.methodElem(h:Value)(w:World):(Go.method 503 231 (.agg #[h]) "Elem").run Tryz.prog w=.ok (259,.agg #[h]) w:=δ
theorem Tryz.methodImplements(h:Value)(w:World):(Go.method 503 231 (.agg #[h]) "Implements").run Tryz.prog w=.ok (260,.agg #[h]) w:=δ
theorem Tryz.methodAssignableTo(h:Value)(w:World):(Go.method 503 231 (.agg #[h]) "AssignableTo").run Tryz.prog w=.ok (257,.agg #[h]) w:=δ
theorem Tryz.elem81(w:World):(ReflectliteType.method ReflectliteType.elem #[.agg #[.pointer (some ⟨13,81,none⟩)]]).run Tryz.prog w=.ok (.iface 231 (.agg #[.pointer (some ⟨13,79,none⟩)])) w:=δ
theorem Tryz.implements79(w:World):(ReflectliteType.relation "Implements" ReflectliteType.implements_ #[.agg #[.pointer (some ⟨13,79,none⟩)],.iface 231 (.agg #[.pointer (some ⟨13,75,none⟩)])]).run Tryz.prog w=.ok (.bool true) w:=δ
theorem Tryz.typeOf79(v:Value)(w:World):(ReflectliteType.typeOf #[.iface 79 v]).run Tryz.prog w=.ok (.iface 231 (.agg #[.pointer (some ⟨13,79,none⟩)])) w:=δ
theorem Tryz.assignable79(w:World):(ReflectliteType.relation "AssignableTo" ReflectliteType.assignableTo #[.agg #[.pointer (some ⟨13,79,none⟩)],.iface 231 (.agg #[.pointer (some ⟨13,79,none⟩)])]).run Tryz.prog w=.ok (.bool true) w:=δ
theorem Tryz.valueOf79(e:Addr)(w:World):(ReflectliteValue.unpack (.iface 79 (.pointer (some e)))).run Tryz.prog w
 = .ok (.agg #[.pointer (some ⟨13,79,none⟩),.pointer (some ⟨w.heap.size,0,none⟩),.int .u64 150]) (w.alloc (.cells #[.pointer (some e)] 79)):=δ
theorem Tryz.elemOf81(w:World):(Rtype.elem? 81).run Tryz.prog w=.ok (some 79) w:=δ
theorem Tryz.mk79(p:Addr)(w:World):(ReflectliteValue.mk 79 p ReflectliteValue.flagAddr).run Tryz.prog w=.ok (.agg #[.pointer (some ⟨13,79,none⟩),.pointer (some p),.int .u64 406]) w:=δ
theorem Tryz.elemV81(a p:Addr)(W:World)(d:W.cell? a=some (.pointer (some p))):
 (ReflectliteValue.method (ReflectliteValue.valueError "reflectlite.Value.Elem" 0) ReflectliteValue.elem #[.agg #[.pointer (some ⟨13,81,none⟩),.pointer (some a),.int .u64 150]]).run Tryz.prog W
  = .ok (.agg #[.pointer (some ⟨13,79,none⟩),.pointer (some p),.int .u64 406]) W:=by
 rw[rlm];simp only[Sem.run_bind,Tryz.parts81,Result.andThen];simp[ReflectliteValue.elem,loadVar,isAgg,underlying,Tryz.underlying81,d,Result.andThen,Tryz.elemOf81,Tryz.mk79]
theorem rls(v x:Value):ReflectliteValue.set #[v,x]=(do
 let(some (dst,a,fl),some (src,b,_)):=(← ReflectliteValue.parts v,←ReflectliteValue.parts x)
  | unsupported (.noEntry "extern/(internal/reflectlite.Value).Set.zeroValue")
 if fl / ReflectliteValue.flagAddr%2==0 then unsupported (.noEntry "extern/(internal/reflectlite.Value).Set.unaddressable")
 let val ← loadVar src b
 if← Rtype.directlyAssignable dst src then storeVar dst a val
 else if← Rtype.implements dst src then
  if(← Rtype.kind src)==20 then
   match val with
   | .nilIface=>unsupported (.noEntry "extern/reflectlite: a nil value of one interface type handed on as a value of another")
   | _=>storeVar dst a val
  else storeVar dst a (.iface src val)
 else panicString ("reflectlite.Set: value of type " ++ (← Rtype.spelt src) ++ " is not assignable to type " ++ (← Rtype.spelt dst))
 pure (.tuple #[])):=rfl
theorem Tryz.parts79a(a:Addr)(w:World):(ReflectliteValue.parts (.agg #[.pointer (some ⟨13,79,none⟩),.pointer (some a),.int .u64 406])).run Tryz.prog w=.ok (some (79,a,406)) w:=δ
theorem Tryz.parts79(a:Addr)(w:World):(ReflectliteValue.parts (.agg #[.pointer (some ⟨13,79,none⟩),.pointer (some a),.int .u64 150])).run Tryz.prog w=.ok (some (79,a,150)) w:=δ
theorem Tryz.direct79(w:World):(Rtype.directlyAssignable 79 79).run Tryz.prog w=.ok true w:=δ
theorem Tryz.set79(d b e:Addr)(old:Value)(W:World)(g:W.cell? b=some (.pointer (some e)))(j:W.cell? d=some old)(h:W.frozen? d=false):
 (ReflectliteValue.set #[.agg #[.pointer (some ⟨13,79,none⟩),.pointer (some d),.int .u64 406],.agg #[.pointer (some ⟨13,79,none⟩),.pointer (some b),.int .u64 150]]).run Tryz.prog W
  = .ok (.tuple #[]) (W.setCell d (.pointer (some e))):=by
 rw[rls];simp only[Sem.run_bind,Tryz.parts79a,Tryz.parts79,Result.andThen];simp[ReflectliteValue.flagAddr,loadVar,isAgg,underlying,Tryz.underlying79,g,Result.andThen,Tryz.direct79,storeVar,Value.cells,storeCells,Addr.add];rw[run_store Tryz.prog W d _ _ (by rfl)];simp[j,h]
def Tryz.xe6:=@run_callFunc_extern Tryz.prog 103 _ (fun args=>ReflectliteValue.unpack (args.getD 0 (.tuple #[]))) Tryz.func103 δ δ δ δ
def Tryz.xe7:=@run_callFunc_extern Tryz.prog 104 _ (ReflectliteValue.methodAny (ReflectliteValue.valueError "reflectlite.Value.Type" 0) (fun t _ _ _=>ReflectliteType.toType t)) Tryz.func104 δ δ δ δ
def Tryz.xe8:=@run_callFunc_extern Tryz.prog 105 _ (ReflectliteValue.method (ReflectliteValue.valueError "reflectlite.Value.IsNil" 0) ReflectliteValue.isNil) Tryz.func105 δ δ δ δ
def Tryz.xe27:=@run_callFunc_extern Tryz.prog 244 _ (ReflectliteType.abiMethod fun t=>do pure (.int .u8 (← Rtype.kind t))) Tryz.func244 δ δ δ δ
def Tryz.xe37:=@run_callFunc_extern Tryz.prog 259 _ (ReflectliteType.method ReflectliteType.elem) Tryz.func259 δ δ δ δ
def Tryz.xe38:=@run_callFunc_extern Tryz.prog 260 _ (ReflectliteType.relation "Implements" ReflectliteType.implements_) Tryz.func260 δ δ δ δ
def Tryz.xe10:=@run_callFunc_extern Tryz.prog 129 _ ReflectliteType.typeOf Tryz.func129 δ δ δ δ
def Tryz.xe35:=@run_callFunc_extern Tryz.prog 257 _ (ReflectliteType.relation "AssignableTo" ReflectliteType.assignableTo) Tryz.func257 δ δ δ δ
def Tryz.xe11:=@run_callFunc_extern Tryz.prog 130 _ (ReflectliteValue.method (ReflectliteValue.valueError "reflectlite.Value.Elem" 0) ReflectliteValue.elem) Tryz.func130 δ δ δ δ
def Tryz.xe12:=@run_callFunc_extern Tryz.prog 131 _ ReflectliteValue.set Tryz.func131 δ δ δ δ
abbrev oA(t:Nat)(w:World):Obj := .cells #[.pointer (some ⟨13,t,none⟩),.pointer (some ⟨w.heap.size,0,none⟩),.int .u64 150] 188
abbrev wA(n:Nat)(t:Addr)(w:World):World:=(w.alloc (.cells #[.pointer (some t)] n)).alloc (oA n w)
theorem ym(e t:Addr)(old:Value)(w:World)(l:pZ w)(d:w.cell? t=some old)(j:w.frozen? t=false):
 Calls Tryz.prog 33 #[.iface 79 (.pointer (some e)),.iface 81 (.pointer (some t))] w fun ev w'=>ev=.returned (.bool true)∧w'=(((wA 81 t w).alloc (oA 81 w)).alloc (.cells #[.pointer (some e)] 79)).setCell t (.pointer (some e)):=by
 unfold pZ at l;have U:=Tryz.xe6;have V:=Tryz.xe7;have W:=Tryz.xe8;have D:=Tryz.xe27;have H:=Tryz.xe37;have I:=Tryz.xe38;have y:=Tryz.xe10;have E:=Tryz.xe35;have B:=Tryz.xe11;have C:=Tryz.xe12;have tO:=Tryz.typeOf79;have X:=Tryz.methodAssignableTo;have u:=Tryz.assignable79;have O:=Tryz.valueOf79;have Q:=Tryz.valueOf81;have R:=Tryz.type81;have mK:=Tryz.methodKind;have Y:=Tryz.methodElem;have Z:=Tryz.methodImplements;have N:=Tryz.kind81;have L:=Tryz.kind79;have v:=Tryz.elem81;have K:=Tryz.implements79;have n8:=Tryz.isNil81 ⟨w.heap.size,0,none⟩ t (wA 81 t w) ξ;have q:0<w.heap.size:=by
  rcases ϑ w.heap.size with x|h
  ·simp[World.cell?,x]at l
  ·exact h
 have J:(wA 81 t w).cell? ⟨0,0,none⟩=some (.iface 231 (.agg #[.pointer (some ⟨13,75,none⟩)])):=by
  rw[World.cell?_alloc_lt _ _ ⟨0,0,none⟩ ξ,World.cell?_alloc_lt _ _ ⟨0,0,none⟩ q];exact l
 have g:t.block<w.heap.size:=by
  rcases Ψ t.block w.heap.size with h|h
  ·exact h
  ·simp[World.cell?,Array.getElem?_eq_none h]at d
 have el:=Tryz.elemV81 ⟨w.heap.size,0,none⟩ t ((wA 81 t w).alloc (oA 81 w)) (by rw[World.cell?_alloc_lt _ _ ⟨w.heap.size,0,none⟩ η];simp);have st:=Tryz.set79 t ⟨w.heap.size+1+1+1,0,none⟩ e old (((wA 81 t w).alloc (oA 81 w)).alloc (.cells #[.pointer (some e)] 79))
  (by rw[World.cell?_alloc_at _ _ _ _ ξ];rfl)
  (by rw[World.cell?_alloc_lt _ _ t η,World.cell?_alloc_lt _ _ t η,World.cell?_alloc_lt _ _ t η,World.cell?_alloc_lt _ _ t g];exact d)
  (by rw[World.frozen?_alloc_old _ _ t η,World.frozen?_alloc_old _ _ t η,World.frozen?_alloc_old _ _ t η,World.frozen?_alloc_old _ _ t (Nat.ne_of_lt g)];exact j)
 go_enter Tryz.func33,Tryz.ntmps33
 go_wp2
 refine wp_loop_rounds 1 ?_;rw[rounds_succ]
 go_wp2
 go_ret
 exact⟨rfl,rfl⟩
theorem Tryz.isTypeOf(v:Value)(w:World):(Extern.ReflectliteType.typeOf #[.iface 36 v]).run Tryz.prog w=.ok (.iface 231 (.agg #[.pointer (some ⟨13,36,none⟩)])) w:=δ
theorem Tryz.isComparable(w:World):((Extern.ReflectliteType.method fun t=>do Rtype.noPackHeld "Comparable" t;(fun a=>Value.bool a.comparable) <$> typeInfo t) #[.agg #[.pointer (some ⟨13,36,none⟩)]]).run Tryz.prog w=.ok (.bool true) w:=δ
theorem Tryz.isMethodComparable(v:Value)(w:World):(Go.method 503 231 v "Comparable").run Tryz.prog w=.ok (258,v) w:=δ
theorem Tryz.noIsE(v:Value)(d:TypeId)(w:World):(Instr.typeAssert (.iface 36 v) d 286 true).run Tryz.prog w=.ok (.tuple #[.nilIface,.bool false]) w:=run_typeAssert_lacksB Tryz.underlying286 δ δ v d w
theorem Tryz.noUnwrapE(v:Value)(d:TypeId)(w:World):(Instr.typeAssert (.iface 36 v) d 239 true).run Tryz.prog w=.ok (.tuple #[.nilIface,.bool false]) w:=run_typeAssert_lacksB Tryz.underlying239 δ δ v d w
theorem Tryz.noUnwrapsE(v:Value)(d:TypeId)(w:World):(Instr.typeAssert (.iface 36 v) d 241 true).run Tryz.prog w=.ok (.tuple #[.nilIface,.bool false]) w:=run_typeAssert_lacksB Tryz.underlying241 δ δ v d w
theorem Tryz.isComp:(Tryz.prog.info? 36).map (·.comparable)=some true:=δ
theorem ye(a b:Int)(w:World):(binOp .eql 75 (.iface 36 (.int .i64 a)) (.iface 36 (.int .i64 b))).run Tryz.prog w=.ok (.bool (a==b)) w:=by
 obtain⟨i,hi,g⟩:=Option.map_eq_some_iff.1 Tryz.isComp;have h:∀d:Nat,(Op.equalIn (d+2) 75 (.iface 36 (.int .i64 a)) (.iface 36 (.int .i64 b))).run Tryz.prog w=.ok (a==b) w:=fun d=>by
  simp[Op.equalIn,run_underlying Tryz.underlying75,run_underlying Tryz.underlying36,typeInfo,hi,g]
 simp only[binOp];simp[Op.equal,Op.maxDepth,h 9998]
theorem Ac(a b:Int)(w:World):Calls Tryz.prog 128 #[.iface 36 (.int .i64 a),.iface 36 (.int .i64 b)] w fun e w'=>e=.returned (.bool (a==b))∧w=w':=by
 have l:=@run_callFunc_extern Tryz.prog 129 _ Extern.ReflectliteType.typeOf Tryz.func129 δ δ δ δ;have h:=@run_callFunc_extern Tryz.prog 258 _ (Extern.ReflectliteType.method fun t=>do Rtype.noPackHeld "Comparable" t;pure (.bool (← typeInfo t).comparable)) Tryz.func258 δ δ δ δ;have v:=Tryz.isTypeOf;have j:=Tryz.isComparable;have q:=Tryz.isMethodComparable;have u:=Tryz.noIsE;have x:=Tryz.noUnwrapE;have y:=Tryz.noUnwrapsE;have d:=ye a b;obtain⟨t,g⟩:∃t,t=(a==b):=⟨_,rfl⟩;rw[←g]at d⊢;clear g
 cases t
 ·go_enter Tryz.func128,Tryz.ntmps128
  go_wp2
  refine wp_loop_rounds 1 ?_;rw[rounds_succ]
  go_wp2
  go_ret
  exact⟨rfl,rfl⟩
 ·go_enter Tryz.func128,Tryz.ntmps128
  go_wp2
  refine wp_loop_rounds 1 ?_;rw[rounds_succ]
  go_wp2
  go_ret
  exact⟨rfl,rfl⟩
