import Derived.Test.YtpblcjipmoblnaaGreatDoorMem
import Derived.Test.YtpblcjipmoblnaaGreatDoorProg
import Derived.Stop.Asserts
import Derived.RowKitTokens
set_option maxRecDepth 100000
set_option linter.all false
set_option maxHeartbeats 4000000
namespace Go.Proofs.YtpblcjipmoblnaaGreatDoor
open Go.RowKit Go.Extern.Stop Go.Stop Go.Extern
def oy(w:World):Prop:=w.cell? ⟨0,0,none⟩=some (.iface 230 (.agg #[.pointer (some ⟨13,111,none⟩)]))
theorem zS(t:Value)(w:World):Calls Tryz.prog 57 #[.nilIface,t] w fun e w'=>e=.returned (.bool false)∧w=w':=by
 go_enter Tryz.func57,Tryz.ntmps57
 go_wp2
 go_ret
 exact⟨rfl,rfl⟩
theorem Tryz.valueOf117(t:Addr)(w:World):(ReflectliteValue.unpack (.iface 117 (.pointer (some t)))).run Tryz.prog w
 = .ok (.agg #[.pointer (some ⟨13,117,none⟩),.pointer (some ⟨w.heap.size,0,none⟩),.int .u64 150]) (w.alloc (.cells #[.pointer (some t)] 117)):=δ
theorem Tryz.type117(a:Addr)(w:World):(ReflectliteValue.methodAny (ReflectliteValue.valueError "reflectlite.Value.Type" 0) (fun t _ _ _=>ReflectliteType.toType t) #[.agg #[.pointer (some ⟨13,117,none⟩),.pointer (some a),.int .u64 150]]).run Tryz.prog w
 = .ok (.iface 230 (.agg #[.pointer (some ⟨13,117,none⟩)])) w:=δ
theorem Tryz.methodKind(h:Value)(w:World):(Go.method 498 230 (.agg #[h]) "Kind").run Tryz.prog w=.ok (236,h) w:=δ
theorem Tryz.kind117(w:World):((ReflectliteType.abiMethod fun t=>(fun a:Nat=>Value.int IntKind.u8 (a:Int)) <$> Rtype.kind t) #[.pointer (some ⟨13,117,none⟩)]).run Tryz.prog w=.ok (.int .u8 22) w:=δ
theorem Tryz.kind115(w:World):((ReflectliteType.abiMethod fun t=>(fun a:Nat=>Value.int IntKind.u8 (a:Int)) <$> Rtype.kind t) #[.pointer (some ⟨13,115,none⟩)]).run Tryz.prog w=.ok (.int .u8 22) w:=δ
theorem rlm(z:Sem Value)(f:TypeId→Addr→Nat→Nat→Sem Value)(v:Value):
 ReflectliteValue.method z f #[v]=(do match← ReflectliteValue.parts v with|none=>z|some (t,a,fl)=>f t a fl (fl%32)):=rfl
theorem Tryz.parts117(a:Addr)(w:World):(ReflectliteValue.parts (.agg #[.pointer (some ⟨13,117,none⟩),.pointer (some a),.int .u64 150])).run Tryz.prog w=.ok (some (117,a,150)) w:=δ
theorem Tryz.isNil117(a p:Addr)(W:World)(d:W.cell? a=some (.pointer (some p))):
 (ReflectliteValue.method (ReflectliteValue.valueError "reflectlite.Value.IsNil" 0) ReflectliteValue.isNil #[.agg #[.pointer (some ⟨13,117,none⟩),.pointer (some a),.int .u64 150]]).run Tryz.prog W=.ok (.bool false) W:=by
 rw[rlm];simp only[Sem.run_bind,Tryz.parts117,Result.andThen];simp[ReflectliteValue.isNil,loadVar,isAgg,underlying,Tryz.underlying117,d,Result.andThen]
theorem Tryz.methodElem(h:Value)(w:World):(Go.method 498 230 (.agg #[h]) "Elem").run Tryz.prog w=.ok (255,.agg #[h]) w:=δ
theorem Tryz.methodImplements(h:Value)(w:World):(Go.method 498 230 (.agg #[h]) "Implements").run Tryz.prog w=.ok (256,.agg #[h]) w:=δ
theorem Tryz.methodAssignableTo(h:Value)(w:World):(Go.method 498 230 (.agg #[h]) "AssignableTo").run Tryz.prog w=.ok (253,.agg #[h]) w:=δ
theorem Tryz.elem117(w:World):(ReflectliteType.method ReflectliteType.elem #[.agg #[.pointer (some ⟨13,117,none⟩)]]).run Tryz.prog w=.ok (.iface 230 (.agg #[.pointer (some ⟨13,115,none⟩)])) w:=δ
theorem Tryz.implements115(w:World):(ReflectliteType.relation "Implements" ReflectliteType.implements_ #[.agg #[.pointer (some ⟨13,115,none⟩)],.iface 230 (.agg #[.pointer (some ⟨13,111,none⟩)])]).run Tryz.prog w=.ok (.bool true) w:=δ
theorem Tryz.typeOf115(v:Value)(w:World):(ReflectliteType.typeOf #[.iface 115 v]).run Tryz.prog w=.ok (.iface 230 (.agg #[.pointer (some ⟨13,115,none⟩)])) w:=δ
theorem Tryz.assignable115(w:World):(ReflectliteType.relation "AssignableTo" ReflectliteType.assignableTo #[.agg #[.pointer (some ⟨13,115,none⟩)],.iface 230 (.agg #[.pointer (some ⟨13,115,none⟩)])]).run Tryz.prog w=.ok (.bool true) w:=δ
theorem Tryz.valueOf115(e:Addr)(w:World):(ReflectliteValue.unpack (.iface 115 (.pointer (some e)))).run Tryz.prog w
 = .ok (.agg #[.pointer (some ⟨13,115,none⟩),.pointer (some ⟨w.heap.size,0,none⟩),.int .u64 150]) (w.alloc (.cells #[.pointer (some e)] 115)):=δ
theorem Tryz.elemOf117(w:World):(Rtype.elem? 117).run Tryz.prog w=.ok (some 115) w:=δ
theorem Tryz.mk115(p:Addr)(w:World):(ReflectliteValue.mk 115 p ReflectliteValue.flagAddr).run Tryz.prog w=.ok (.agg #[.pointer (some ⟨13,115,none⟩),.pointer (some p),.int .u64 406]) w:=δ
theorem Tryz.elemV117(a p:Addr)(W:World)(d:W.cell? a=some (.pointer (some p))):
 (ReflectliteValue.method (ReflectliteValue.valueError "reflectlite.Value.Elem" 0) ReflectliteValue.elem #[.agg #[.pointer (some ⟨13,117,none⟩),.pointer (some a),.int .u64 150]]).run Tryz.prog W
  = .ok (.agg #[.pointer (some ⟨13,115,none⟩),.pointer (some p),.int .u64 406]) W:=by
 rw[rlm];simp only[Sem.run_bind,Tryz.parts117,Result.andThen];simp[ReflectliteValue.elem,loadVar,isAgg,underlying,Tryz.underlying117,d,Result.andThen,Tryz.elemOf117,Tryz.mk115]
theorem rls(v x:Value):ReflectliteValue.set #[v,x]=(do
 let(some (dst,a,fl),some (src,b,_)):=(← ReflectliteValue.parts v,←ReflectliteValue.parts x)
  | unsupported (.noEntry "extern/(internal/reflectlite.Value).Set.zeroValue")
 if fl / ReflectliteValue.flagAddr%2==0 then unsupported (.noEntry "extern/(internal/reflectlite.Value).Set.unaddressable")
 let val ← loadVar src b
 if← Rtype.directlyAssignable dst src then storeVar dst a val
 else if← Rtype.implements dst src then
  if(← Rtype.kind src)==20 then
   match val with
   | .nilIface=>unsupported (.noEntry "extern/reflectlite: a nil value of one interface type handed on as a value of another")
   | _=>storeVar dst a val
  else storeVar dst a (.iface src val)
 else panicString ("reflectlite.Set: value of type " ++ (← Rtype.spelt src) ++ " is not assignable to type " ++ (← Rtype.spelt dst))
 pure (.tuple #[])):=rfl
theorem Tryz.parts115a(a:Addr)(w:World):(ReflectliteValue.parts (.agg #[.pointer (some ⟨13,115,none⟩),.pointer (some a),.int .u64 406])).run Tryz.prog w=.ok (some (115,a,406)) w:=δ
theorem Tryz.parts115(a:Addr)(w:World):(ReflectliteValue.parts (.agg #[.pointer (some ⟨13,115,none⟩),.pointer (some a),.int .u64 150])).run Tryz.prog w=.ok (some (115,a,150)) w:=δ
theorem Tryz.direct115(w:World):(Rtype.directlyAssignable 115 115).run Tryz.prog w=.ok true w:=δ
theorem Tryz.set115(d b e:Addr)(old:Value)(W:World)(g:W.cell? b=some (.pointer (some e)))(j:W.cell? d=some old)(h:W.frozen? d=false):
 (ReflectliteValue.set #[.agg #[.pointer (some ⟨13,115,none⟩),.pointer (some d),.int .u64 406],.agg #[.pointer (some ⟨13,115,none⟩),.pointer (some b),.int .u64 150]]).run Tryz.prog W
  = .ok (.tuple #[]) (W.setCell d (.pointer (some e))):=by
 rw[rls];simp only[Sem.run_bind,Tryz.parts115a,Tryz.parts115,Result.andThen];simp[ReflectliteValue.flagAddr,loadVar,isAgg,underlying,Tryz.underlying115,g,Result.andThen,Tryz.direct115,storeVar,Value.cells,storeCells,Addr.add];rw[run_store Tryz.prog W d _ _ (by rfl)];simp[j,h]
theorem xJ(e t:Addr)(old:Value)(w:World)(l:oy w)(d:w.cell? t=some old)(j:w.frozen? t=false):
 Calls Tryz.prog 57 #[.iface 115 (.pointer (some e)),.iface 117 (.pointer (some t))] w fun ev w'=>ev=.returned (.bool true)∧w'=((((w.alloc (.cells #[.pointer (some t)] 117)).alloc (.cells #[.pointer (some ⟨13,117,none⟩),.pointer (some ⟨w.heap.size,0,none⟩),.int .u64 150] 192)).alloc (.cells #[.pointer (some ⟨13,117,none⟩),.pointer (some ⟨w.heap.size,0,none⟩),.int .u64 150] 192)).alloc (.cells #[.pointer (some e)] 115)).setCell t (.pointer (some e)):=by
 unfold oy at l;have O:=@run_callFunc_extern Tryz.prog 106 _ (fun args=>ReflectliteValue.unpack (args.getD 0 (.tuple #[]))) Tryz.func106 δ δ δ δ;have Q:=@run_callFunc_extern Tryz.prog 107 _ (ReflectliteValue.methodAny (ReflectliteValue.valueError "reflectlite.Value.Type" 0) (fun t _ _ _=>ReflectliteType.toType t)) Tryz.func107 δ δ δ δ;have R:=@run_callFunc_extern Tryz.prog 108 _ (ReflectliteValue.method (ReflectliteValue.valueError "reflectlite.Value.IsNil" 0) ReflectliteValue.isNil) Tryz.func108 δ δ δ δ;have A:=@run_callFunc_extern Tryz.prog 236 _ (ReflectliteType.abiMethod fun t=>do pure (.int .u8 (← Rtype.kind t))) Tryz.func236 δ δ δ δ;have C:=@run_callFunc_extern Tryz.prog 255 _ (ReflectliteType.method ReflectliteType.elem) Tryz.func255 δ δ δ δ;have D:=@run_callFunc_extern Tryz.prog 256 _ (ReflectliteType.relation "Implements" ReflectliteType.implements_) Tryz.func256 δ δ δ δ;have v:=@run_callFunc_extern Tryz.prog 131 _ ReflectliteType.typeOf Tryz.func131 δ δ δ δ;have B:=@run_callFunc_extern Tryz.prog 253 _ (ReflectliteType.relation "AssignableTo" ReflectliteType.assignableTo) Tryz.func253 δ δ δ δ;have x:=@run_callFunc_extern Tryz.prog 132 _ (ReflectliteValue.method (ReflectliteValue.valueError "reflectlite.Value.Elem" 0) ReflectliteValue.elem) Tryz.func132 δ δ δ δ;have y:=@run_callFunc_extern Tryz.prog 133 _ ReflectliteValue.set Tryz.func133 δ δ δ δ;have Y:=Tryz.typeOf115;have S:=Tryz.methodAssignableTo;have q:=Tryz.assignable115;have K:=Tryz.valueOf115;have L:=Tryz.valueOf117;have N:=Tryz.type117;have W:=Tryz.methodKind;have U:=Tryz.methodElem;have V:=Tryz.methodImplements;have J:=Tryz.kind117;have I:=Tryz.kind115;have r:=Tryz.elem117;have H:=Tryz.implements115;have X:=Tryz.isNil117 ⟨w.heap.size,0,none⟩ t ((w.alloc (.cells #[.pointer (some t)] 117)).alloc (.cells #[.pointer (some ⟨13,117,none⟩),.pointer (some ⟨w.heap.size,0,none⟩),.int .u64 150] 192)) ξ;have p:0<w.heap.size:=by
  rcases Nat.eq_zero_or_pos w.heap.size with u|h
  ·simp[World.cell?,u]at l
  ·exact h
 have E:((w.alloc (.cells #[.pointer (some t)] 117)).alloc (.cells #[.pointer (some ⟨13,117,none⟩),.pointer (some ⟨w.heap.size,0,none⟩),.int .u64 150] 192)).cell? ⟨0,0,none⟩=some (.iface 230 (.agg #[.pointer (some ⟨13,111,none⟩)])):=by
  rw[World.cell?_alloc_lt _ _ ⟨0,0,none⟩ ξ,World.cell?_alloc_lt _ _ ⟨0,0,none⟩ p];exact l
 have g:t.block<w.heap.size:=by
  rcases Nat.lt_or_ge t.block w.heap.size with h|h
  ·exact h
  ·simp[World.cell?,Array.getElem?_eq_none h]at d
 have el:=Tryz.elemV117 ⟨w.heap.size,0,none⟩ t (((w.alloc (.cells #[.pointer (some t)] 117)).alloc (.cells #[.pointer (some ⟨13,117,none⟩),.pointer (some ⟨w.heap.size,0,none⟩),.int .u64 150] 192)).alloc (.cells #[.pointer (some ⟨13,117,none⟩),.pointer (some ⟨w.heap.size,0,none⟩),.int .u64 150] 192)) (by rw[World.cell?_alloc_lt _ _ ⟨w.heap.size,0,none⟩ η];simp);have st:=Tryz.set115 t ⟨w.heap.size+1+1+1,0,none⟩ e old ((((w.alloc (.cells #[.pointer (some t)] 117)).alloc (.cells #[.pointer (some ⟨13,117,none⟩),.pointer (some ⟨w.heap.size,0,none⟩),.int .u64 150] 192)).alloc (.cells #[.pointer (some ⟨13,117,none⟩),.pointer (some ⟨w.heap.size,0,none⟩),.int .u64 150] 192)).alloc (.cells #[.pointer (some e)] 115))
  (by rw[World.cell?_alloc_at _ _ _ _ ξ];rfl)
  (by rw[World.cell?_alloc_lt _ _ t η,World.cell?_alloc_lt _ _ t η,World.cell?_alloc_lt _ _ t η,World.cell?_alloc_lt _ _ t g];exact d)
  (by rw[World.frozen?_alloc_old _ _ t η,World.frozen?_alloc_old _ _ t η,World.frozen?_alloc_old _ _ t η,World.frozen?_alloc_old _ _ t (Nat.ne_of_lt g)];exact j)
 go_enter Tryz.func57,Tryz.ntmps57
 go_wp2
 refine wp_loop_rounds 1 ?_;rw[rounds_succ]
 go_wp2
 go_ret
 exact⟨rfl,rfl⟩
theorem Tryz.isTypeOf(v:Value)(w:World):(Extern.ReflectliteType.typeOf #[.iface 72 v]).run Tryz.prog w=.ok (.iface 230 (.agg #[.pointer (some ⟨13,72,none⟩)])) w:=δ
theorem Tryz.isComparable(w:World):((Extern.ReflectliteType.method fun t=>do Rtype.noPackHeld "Comparable" t;(fun a=>Value.bool a.comparable) <$> typeInfo t) #[.agg #[.pointer (some ⟨13,72,none⟩)]]).run Tryz.prog w=.ok (.bool true) w:=δ
theorem Tryz.isMethodComparable(v:Value)(w:World):(Go.method 498 230 v "Comparable").run Tryz.prog w=.ok (254,v) w:=δ
theorem Tryz.noIsE(v:Value)(d:TypeId)(w:World):(Instr.typeAssert (.iface 72 v) d 281 true).run Tryz.prog w=.ok (.tuple #[.nilIface,.bool false]) w:=run_typeAssert_lacksB Tryz.underlying281 δ δ v d w
theorem Tryz.noUnwrapE(v:Value)(d:TypeId)(w:World):(Instr.typeAssert (.iface 72 v) d 238 true).run Tryz.prog w=.ok (.tuple #[.nilIface,.bool false]) w:=run_typeAssert_lacksB Tryz.underlying238 δ δ v d w
theorem Tryz.noUnwrapsE(v:Value)(d:TypeId)(w:World):(Instr.typeAssert (.iface 72 v) d 240 true).run Tryz.prog w=.ok (.tuple #[.nilIface,.bool false]) w:=run_typeAssert_lacksB Tryz.underlying240 δ δ v d w
theorem Tryz.isComp:(Tryz.prog.info? 72).map (·.comparable)=some true:=δ
theorem xA(a b:Int)(w:World):(binOp .eql 111 (.iface 72 (.int .i64 a)) (.iface 72 (.int .i64 b))).run Tryz.prog w=.ok (.bool (a==b)) w:=by
 obtain⟨i,j,g⟩:=Option.map_eq_some_iff.1 Tryz.isComp;have h:∀d:Nat,(Op.equalIn (d+2) 111 (.iface 72 (.int .i64 a)) (.iface 72 (.int .i64 b))).run Tryz.prog w=.ok (a==b) w:=fun d=>by
  simp[Op.equalIn,run_underlying Tryz.underlying111,run_underlying Tryz.underlying72,typeInfo,j,g]
 simp only[binOp];simp[Op.equal,Op.maxDepth,h 9998]
theorem yu(a b:Int)(w:World):Calls Tryz.prog 130 #[.iface 72 (.int .i64 a),.iface 72 (.int .i64 b)] w fun e w'=>e=.returned (.bool (a==b))∧w=w':=by
 have l:=@run_callFunc_extern Tryz.prog 131 _ Extern.ReflectliteType.typeOf Tryz.func131 δ δ δ δ;have h:=@run_callFunc_extern Tryz.prog 254 _ (Extern.ReflectliteType.method fun t=>do Rtype.noPackHeld "Comparable" t;pure (.bool (← typeInfo t).comparable)) Tryz.func254 δ δ δ δ;have r:=Tryz.isTypeOf;have j:=Tryz.isComparable;have p:=Tryz.isMethodComparable;have q:=Tryz.noIsE;have u:=Tryz.noUnwrapE;have v:=Tryz.noUnwrapsE;have d:=xA a b;obtain⟨t,g⟩:∃t,t=(a==b):=⟨_,rfl⟩;rw[←g]at d⊢;clear g
 cases t
 ·go_enter Tryz.func130,Tryz.ntmps130
  go_wp2
  refine wp_loop_rounds 1 ?_;rw[rounds_succ]
  go_wp2
  go_ret
  exact⟨rfl,rfl⟩
 ·go_enter Tryz.func130,Tryz.ntmps130
  go_wp2
  refine wp_loop_rounds 1 ?_;rw[rounds_succ]
  go_wp2
  go_ret
  exact⟨rfl,rfl⟩
