import Derived.Test.YthobcefghkeddaaGreatDoorRsvf
import Derived.Test.YthobcefghkeddaaGreatDoorProg
set_option maxRecDepth 100000
set_option linter.all false
set_option maxHeartbeats 4000000
namespace Go.Proofs.YthobcefghkeddaaGreatDoor
namespace Rs
open Go.RowKit Ck
variable {w:World}
theorem hPp:Tryz.prog.follows .mixedOrders=true:=δ
theorem jP{S:Sta}{κ:Kap}{N:Nat}{F:Fr}{P:Program}{fn:Func}{R:Ending→World→Prop}{a:Act}{g t2:Nat}{v1 v2:SV}(u:fn.results = #[.tmp g,.tmp t2])(d:Has S κ N F a)(h:gt F g=some v1)(j:gt F t2=some v2)(q:a.defers=[])
 (l:R (.returned (.tuple #[v1.den S κ,v2.den S κ])) w):bodyPost P fn R .ret a w:=
 bodyPost_ret (v := .tuple #[v1.den S κ,v2.den S κ]) (by simp[results,u,d.get _ _ h,d.get _ _ j]) q l
theorem bq{x:Int}(h:0≤x∧x<18446744073709551616):IntKind.u64.wrap x=x:=IntWalk.u64_in _ χ
def DX(f:List Int):Sta where
 i j:=f.getD j 0
theorem fa1{S:Sta}{x:BE×Bool}(h:x.1.den S=x.2):∀y∈[x],y.1.den S=y.2:=fun y d=>by
 obtain rfl:=ρ.1 d;exact h
theorem dg{S:Sta}:∀y∈([]:List (BE×Bool)),y.1.den S=y.2:=fun _ h=>by cases h
theorem dm(a b:Nat)(y:a<lim)(B:b<lim)(w:World):
 Calls Tryz.prog 60 #[.int .u64 a,.int .u64 b] w fun e w'=>e=.returned (.tuple #[.int .u64 ((if a+b<lim then a+b else 0:Nat):Int),.bool (decide (a+b<lim))])∧Kz w w':=by
 unfold lim at *;refine fnE (DX [a,b]) (fun _=>(0,0)) [.one (.i .u64 (.x 0)),.one (.i .u64 (.x 1))] Tryz.func60 Tryz.ntmps60 rfl rfl ψ H0 (fun _ h=>h.elim) trivial fun A q hh=>?_
 have d:lT .add .u64 a b=if a+b<18446744073709551616 then((a+b:Nat):Int)else((a+b-18446744073709551616:Nat):Int):=by
  show IntKind.u64.wrap _=_;split
  ·rw[bq χ];omega
  ·rw[show((a:Int)+b)=((a+b-18446744073709551616:Nat):Int)+18446744073709551616 by omega]
   unfold IntKind.wrap;simp[IntKind.bits,IntKind.signed];omega
 by_cases hlt:a+b<18446744073709551616
 ·rw[if_pos hlt]at d
  have j:=hh.fa [(.cmp .geq (.bin .add .u64 (.x 0) (.x 1)) (.x 0),true)] (fa1 (by
   show decide (lT .add .u64 a b≥a)=true;rw[d];exact decide_eq_true χ))
  refine dU 9 τ [(4,.one (.i .u64 (.bin .add .u64 (.x 0) (.x 1)))),(5,.one (.b (.c true)))] [] 0 [] hPp δ j fun x u v l g=>?_
  refine jP rfl l.has rfl rfl (g.agree.defers.trans q) ⟨?_,g.keep⟩;show Ending.returned (.tuple #[.int .u64 (lT .add .u64 a b),.bool true])=_;rw[d,if_pos hlt,decide_eq_true hlt]
 ·rw[if_neg hlt]at d
  have j:=hh.fa [(.cmp .geq (.bin .add .u64 (.x 0) (.x 1)) (.x 0),false)] (fa1 (by
   show decide (lT .add .u64 a b≥a)=false;rw[d];exact decide_eq_false χ))
  refine dU 9 τ [(4,.one (.i .u64 (.c 0))),(5,.one (.b (.c false)))] [] 0 [] hPp δ j fun x u v l g=>?_
  refine jP rfl l.has rfl rfl (g.agree.defers.trans q) ⟨?_,g.keep⟩;rw[if_neg hlt,decide_eq_false hlt];rfl
def dp(n al:Nat):Nat:=(n+al-1) / al*al
def upT(al:Nat):BE := .cmp .eql (.bin .rem .u64 (.x 0) (.c al)) (.c 0)
def upA(al:Nat):List (FuncId×List SV×SV):=[(60,[.one (.i .u64 (.bin .sub .u64 (.x 0) (.bin .rem .u64 (.x 0) (.c al)))),.one (.i .u64 (.c al))],.tu [.i .u64 (.x 1),.b (.x 0)])]
noncomputable def upB(al:Nat):Bool:=
 gH (gK Tryz.prog { FA:=[(upT al,true)] } 22 ((flat (ax Tryz.f109 [])).take 20) ⟨ma 0 [.one (.i .u64 (.x 0)),.one (.i .u64 (.c al))],[],0,[]⟩) ⟨ma 0 [.one (.i .u64 (.x 0)),.one (.i .u64 (.c al))],[],0,[]⟩ .r τ [(4,.one (.i .u64 (.x 0))),(5,.one (.b (.c true)))] [] 0 [] &&
 gH (gK Tryz.prog { FA:=[(upT al,false)],CT:=upA al } 22 ((flat (ax Tryz.f109 [])).take 20) ⟨ma 0 [.one (.i .u64 (.x 0)),.one (.i .u64 (.c al))],[],0,[]⟩) ⟨ma 0 [.one (.i .u64 (.x 0)),.one (.i .u64 (.c al))],[],0,[]⟩ .r τ [(4,.one (.i .u64 (.x 1))),(5,.one (.b (.x 0)))] [] 0 []
theorem zE{al:Nat}(g:upB al=true)(l:0<al)(H:al<lim)(n:Nat)(u:n<lim)(w:World):
 Calls Tryz.prog 109 #[.int .u64 n,.int .u64 al] w fun e w'=>e=.returned (.tuple #[.int .u64 ((if dp n al<lim then dp n al else 0:Nat):Int),.bool (decide (dp n al<lim))])∧Kz w w':=by
 unfold upB at g;rw[Bool.and_eq_true]at g;have q:(n:Int).tmod al=((n%al:Nat):Int):=by rw[Int.tmod_eq_emod_of_nonneg χ];omega
 have I:=Nat.div_add_mod n al;have J:=Nat.mod_lt n l;have K:IntKind.u64.wrap ((n:Int)-((n%al:Nat):Int))=((n-n%al:Nat):Int):=by
  have:=Nat.mod_le n al;unfold lim at u;rw[bq χ];omega
 refine fnE { i:=fun j=>match j with|0=>(n:Int)|_=>((if dp n al<lim then dp n al else 0:Nat):Int),b:=fun _=>decide (dp n al<lim) } (fun _=>(0,0)) [.one (.i .u64 (.x 0)),.one (.i .u64 (.c al))] Tryz.func109 Tryz.ntmps109 rfl rfl (show 2≤22 by decide) H0 (fun _ h=>h.elim) trivial fun A D hh=>?_
 by_cases hr:n%al=0
 ·have v:dp n al=n:=by
   unfold dp;rw[show n+al-1=al-1+al*(n / al) by omega,Nat.add_mul_div_left _ _ l,Nat.div_eq_of_lt χ];rw[Nat.zero_add,Nat.mul_comm];omega
  have B:=hh.fa [(upT al,true)] (fa1 (by
   show((n:Int).tmod al==0)=true;rw[q,hr];rfl))
  refine dU 20 τ [(4,.one (.i .u64 (.x 0))),(5,.one (.b (.c true)))] [] 0 [] hPp g.1 B fun N E L C d=>?_
  refine jP rfl C.has rfl rfl (d.agree.defers.trans D) ⟨?_,d.keep⟩;rw[v,if_pos u,decide_eq_true u];rfl
 ·have v:dp n al=n-n%al+al:=by
   unfold dp;rw[show n+al-1=(n%al+al-1-al)+al*(n / al+1) by rw[Nat.mul_add];omega,Nat.add_mul_div_left _ _ l,Nat.div_eq_of_lt χ];rw[Nat.zero_add,Nat.mul_comm,Nat.mul_add];omega
  have B:=hh.more [(upT al,false)] (upA al) [] (fa1 (by
   show((n:Int).tmod al==0)=false;rw[q];simp;omega)) (fun x y w' O=>by
    obtain rfl:=ρ.1 y;have:=dm (n-n%al) al χ H w';rw[←v]at this;show Calls Tryz.prog 60 #[.int .u64 (IntKind.u64.wrap ((n:Int)-(n:Int).tmod al)),.int .u64 al] w' _;rw[q,K];exact this) (fun i x y=>by cases y)
  refine dU 20 τ [(4,.one (.i .u64 (.x 1))),(5,.one (.b (.x 0)))] [] 0 [] hPp g.2 B fun N E L C d=>?_
  exact jP rfl C.has rfl rfl (d.agree.defers.trans D) ⟨rfl,d.keep⟩
theorem qx{al:Nat}(d:al=4096∨al=2097152)(n:Nat)(g:n<lim)(w:World):
 Calls Tryz.prog 109 #[.int .u64 n,.int .u64 al] w fun e w'=>e=.returned (.tuple #[.int .u64 ((if dp n al<lim then dp n al else 0:Nat):Int),.bool (decide (dp n al<lim))])∧Kz w w':=by
 rcases d with rfl|rfl
 ·exact zE δ ψ ψ n g w
 ·exact zE δ ψ ψ n g w
theorem Now.own{S:Sta}{κ0 κ:Kap}{N:Nat}{P:Program}{C:Ctx}{T:Nat→Prop}{F:Fr}{M:Mm}{v k:Nat}{R:List Nat}{H:Gh}{ws:Nat→Bool}{Q a:Act}{J:World}(h:Now S κ N P C H ⟨F,M,k,R⟩ a w)(p:kj T κ0 κ v k ws Q a J w)(r:Nat){l:List Cl}(W:gm M r=some l)(B:v≤r)(K:r<k)(M':Mm)(f:List Nat→Option (List Value))(n:Nat)(Y:l.length=n)
 (X:qb M M'=true)(L:(gm M' r).isNone=true)(D:(M'.all fun x=>Nat.ble (x.1+1) v||(Nat.ble v x.1&&(Nat.ble (x.1+1) k)))=true)(u:∀q m,gm M' q=some m→q<v→(κ q).1<J.heap.size)(U:∀vs,f []=some vs→vs=l.map (Cl.den S κ)):
 Now S κ N P { EL:=C.EL } (gB (κ r).1 n f) ⟨F,M',k,[]⟩ a w∧J.heap.size≤(κ r).1∧(κ r).2=0:=by
 obtain⟨O,q2,q3⟩:=p.new.row h.mem W B K;refine⟨h.mute _ M' [] X (fun q m E e=>?_) (fun g V=>by rw[show g=(κ r).1 from V];exact O.lt) ⟨_,by rw[List.length_map];exact Y,O,fun vs Z=>(U vs Z).symm⟩,q3,q2⟩;have e:(κ q).1=(κ r).1:=e;have I:q≠r:=fun h=>by subst h;rw[E]at L;cases L
 have y:=υ.1 D _ (gI E);simp only[Bool.or_eq_true,Bool.and_eq_true]at y
 rcases y with y|⟨d,j⟩
 ·have:=u q m E (ω y)
  omega
 ·have d:=ω d
  have j:=ω j;obtain⟨_,_,_,o1⟩:=p.new q d j;obtain⟨_,_,_,o2⟩:=p.new r B K
  rcases Nat.lt_trichotomy q r with c|c|c
  ·have:=o2 q d c;omega
  ·exact I c
  ·have:=o1 r B c;omega
theorem aS{T:Nat→Prop}{j w':World}(h:Kz j w)(k:aD T w w')(l:∀g,T g→j.heap.size≤g):Kz j w':=h.trans k fun g q d=>by have:=l g d;omega
theorem tQ{S:Sta}{κ:Kap}{b n r:Nat}{f:List Nat→Option (List Value)}{l:List Cl}{d:List Nat}(u:(κ r).1=b)(v:(κ r).2=0)(h:l.length=n)(w:f (99::d)=some (l.map (Cl.den S κ))){g:World}(x:(gB b n f).G d g):
 ∃cs E0,g.heap[(κ r).1]?=some (.cells cs E0 (0,0))∧(κ r).2+0+l.length≤cs.size∧(gB b n f).G (99::d) (g.setRow (κ r).1 (bk cs ((κ r).2+0) (l.map (Cl.den S κ)))):=by
 obtain⟨us,y,B,_⟩:=x;rw[u,v];obtain⟨cs,E0,c1,c2,q⟩:=B.all (vs:=l.map (Cl.den S κ)) (by rw[y,List.length_map,h]);rw[List.length_map]at c2;exact⟨cs,E0,c1,c2,_,by rw[List.length_map,h],q,fun vs j=>by rw[w]at j;exact ι j⟩
theorem Aj{S:Sta}{κ:Kap}{b n r:Nat}{f:List Nat→Option (List Value)}{l:List Cl}{e:List Nat}(q:(gB b n f).G e w)(g:(κ r).1=b)(h:(κ r).2=0)(j:f e=some (l.map (Cl.den S κ))):fP S κ [(r,l)] w:=by
 obtain⟨us,_,d,u⟩:=q;rw[u _ j]at d;exact d.memF (by rw[←g,←h])
def cS(a s:Nat):Sp:=if s=0∨4294967296≤a then(1,0)else(a,min (a+s) 4294967296-1)
theorem rf(a s:Nat)(ha:a<lim)(hs:s<lim)(w:World):Calls Tryz.prog 54 #[.int .u64 a,.int .u64 s] w fun e w'=>e=.returned (.agg #[.int .u64 (cS a s).1,.int .u64 (cS a s).2])∧Kz w w':=by
 obtain⟨E,hE⟩:∃E:Nat,E=if a+s<lim then a+s else 0:=⟨_,rfl⟩
 obtain⟨K,Z⟩:∃K:Bool,K=decide (a+s<lim):=⟨_,rfl⟩;have ad:=dm a s ha hs;rw[←hE,←Z]at ad;unfold lim at ha hs hE Z;obtain⟨S,hS⟩:∃S:Sta,S={ i:=fun j=>match j with|0=>(a:Int)|1=>s|2=>E|_=>(min (a+s) 4294967296:Nat),b:=fun _=>K }:=⟨_,rfl⟩;have s0:S.i 0=a:=by rw[hS];rfl
 have s1:S.i 1=s:=by rw[hS];rfl
 have s2:S.i 2=E:=by rw[hS];rfl
 have s3:S.i 3=(min (a+s) 4294967296:Nat):=by rw[hS];rfl
 have sb:S.b 0=K:=by rw[hS]
 clear hS;refine fnE S (fun _=>(0,0)) [.one (.i .u64 (.x 0)),.one (.i .u64 (.x 1))] Tryz.func54 Tryz.ntmps54 rfl (by simp[SV.den,Cl.den,IE.den,s0,s1]) ψ H0 (fun _ h=>h.elim) trivial fun A hd hh=>?_
 refine fb (CL:={}) τ [(4,.one (.p 0 0)),(0,.one (.i .u64 (.x 0))),(1,.one (.i .u64 (.x 1)))] [(0,[.i .u64 (.c 0),.i .u64 (.c 0)])] 1 [] δ hh dV fun Y a1 w1 n1 X=>?_
 obtain⟨n2,b1,b2⟩:=n1.own X 0 rfl (Γ _) ψ [] (fun e=>if e=[99]then some [.int .u64 (cS a s).1,.int .u64 (cS a s).2]else none) 2 rfl rfl rfl rfl (fun _ _ h=>by cases h) (fun vs h=>by cases h);have Q:∀g,g=(Y 0).1→w.heap.size≤g:=fun g hg=>by rw[hg];exact b1
 obtain⟨f,hf⟩:∃f:List Nat→Option (List Value),f=fun e=>if e=[99]then some [.int .u64 (cS a s).1,.int .u64 (cS a s).2]else none:=⟨_,rfl⟩
 rw[←hf]at n2
 -- where nothing is: the first end
 have key:∀(e:BE) (D:Kap) (y:Act) (C:World),e.den S=true→s=0∨4294967296≤a→D 0=Y 0→Now S D 30 Tryz.prog {} (gB (Y 0).1 2 f) ⟨[(4,.one (.p 0 0)),(12,.one (.b e))],[],1,[]⟩ y C→y.defers=[]→Kz w C→wpL Tryz.prog (bodyPost Tryz.prog Tryz.f54 fun e w'=>e=.returned (.agg #[.int .u64 (cS a s).1,.int .u64 (cS a s).2])∧Kz w w') ((flat (ax Tryz.f54 [])).drop 2) y C:=by
  intro e D y C he hc L H q hk;refine cG true H rfl he ?_;have W:[Value.int .u64 (cS a s).1,.int .u64 (cS a s).2]=[Cl.i .u64 (.c 1),.i .u64 (.c 0)].map (Cl.den S D):=by unfold cS;rw[if_pos hc];rfl
  refine DB (CL:={}) 1 0 0 [.i .u64 (.c 1),.i .u64 (.c 0)] [] τ [(4,.one (.p 0 0))] [] 1 [99] δ H dV (by rw[L];rfl) (fun N _ hg=>tQ (by rw[L]) (by rw[L,b2]) rfl (by rw[hf,←W];rfl) hg) fun O R N J d=>kB ?_
  have k3:O 0=Y 0:=(d.upto 0 Nat.zero_lt_one).trans L;refine oK (t:=4) (r:=0) rfl J.has rfl (v := .ag [.i .u64 (.c 1),.i .u64 (.c 0)]) (M:=[(0,[.i .u64 (.c 1),.i .u64 (.c 0)])]) δ (Aj J.gh (by rw[k3]) (by rw[k3,b2]) (by rw[hf];exact congrArg some W)) (d.agree.defers.trans q) ⟨?_,aS hk d.keep Q⟩;exact congrArg (fun l:List Value=>Ending.returned (.agg l.toArray)) W.symm
 by_cases c1:s=0
 ·have n3:=n2.fa [(.cmp .eql (.x 1) (.c 0),true)] (fa1 (by show(S.i 1==0)=true;rw[s1,c1];rfl))
  exact b7 1 τ [(4,.one (.p 0 0)),(12,.one (.b (.c true)))] [] 1 [] hPp δ n3 fun D y C H I=>key _ D y C rfl (.inl c1) (I.upto 0 ψ) (H.fa [] dg) (I.agree.defers.trans (X.agree.defers.trans hd)) (aS X.keep I.keep Q)
 have f1:BE.den S (.cmp .eql (.x 1) (.c 0))=false:=by show(S.i 1==0)=false;rw[s1];simp;omega
 by_cases c2:4294967296≤a
 ·have n3:=n2.fa [(.cmp .eql (.x 1) (.c 0),false)] (fa1 f1)
  exact b7 1 τ [(4,.one (.p 0 0)),(12,.one (.b (.cmp .geq (.x 0) (.c 4294967296))))] [] 1 [] hPp δ n3 fun D y C H I=>key _ D y C (by show decide (S.i 0≥4294967296)=true;rw[s0];exact decide_eq_true χ) (.inr c2) (I.upto 0 ψ) (H.fa [] dg) (I.agree.defers.trans (X.agree.defers.trans hd)) (aS X.keep I.keep Q)
 have f2:BE.den S (.cmp .geq (.x 0) (.c 4294967296))=false:=by show decide (S.i 0≥4294967296)=false;rw[s0];exact decide_eq_false χ
 have ac:cS a s=(a,min (a+s) 4294967296-1):=by unfold cS;rw[if_neg χ]
 -- behind the test
 have n3:=n2.more [(.cmp .eql (.x 1) (.c 0),false),(.cmp .geq (.x 0) (.c 4294967296),false)] [(60,[.one (.i .u64 (.x 0)),.one (.i .u64 (.x 1))],.tu [.i .u64 (.x 2),.b (.x 0)])] []
  (by intro x u;rcases Ξ.1 u with rfl|u;exact f1;obtain rfl:=ρ.1 u;exact f2)
  (fun x u w' _=>by
   obtain rfl:=ρ.1 u;show Calls Tryz.prog 60 #[.int .u64 (S.i 0),.int .u64 (S.i 1)] w' fun e af=>e=.returned (.tuple #[.int .u64 (S.i 2),.bool (S.b 0)])∧Kz w' af
   rw[s0,s1,s2,sb];exact ad w') (fun i x u=>by cases u)
 have last:∀(D:Kap) (y:Act) (C:World),D 0=Y 0→Now S D 30 Tryz.prog {} (gB (Y 0).1 2 f) ⟨[(4,.one (.p 0 0)),(0,.one (.i .u64 (.x 0))),(5,.one (.i .u64 (.x 3)))],[],1,[]⟩ y C→y.defers=[]→Kz w C→wpL Tryz.prog (bodyPost Tryz.prog Tryz.f54 fun e w'=>e=.returned (.agg #[.int .u64 (cS a s).1,.int .u64 (cS a s).2])∧Kz w w') ((flat (ax Tryz.f54 [])).drop 6) y C:=by
  intro D y C L H q hk;have W:[Value.int .u64 (cS a s).1,.int .u64 (cS a s).2]=[Cl.i .u64 (.x 0),.i .u64 (.bin .sub .u64 (.x 3) (.c 1))].map (Cl.den S D):=by
   rw[ac];simp only[List.map_cons,List.map_nil,Cl.den_i,IE.den,s0,s3,lT];rw[bq χ]
   congr 3
   omega
  refine DB (CL:={}) 4 0 0 [.i .u64 (.x 0),.i .u64 (.bin .sub .u64 (.x 3) (.c 1))] [] τ [(4,.one (.p 0 0))] [] 1 [99] δ H dV (by rw[L];rfl) (fun N _ hg=>tQ (by rw[L]) (by rw[L,b2]) rfl (by rw[hf,←W];rfl) hg) fun O R N J d=>kB ?_
  have k3:O 0=Y 0:=(d.upto 0 (Nat.zero_lt_one)).trans L;refine oK (t:=4) (r:=0) rfl J.has rfl (v := .ag [.i .u64 (.x 0),.i .u64 (.bin .sub .u64 (.x 3) (.c 1))]) (M:=[(0,[.i .u64 (.x 0),.i .u64 (.bin .sub .u64 (.x 3) (.c 1))])]) δ (Aj J.gh (by rw[k3]) (by rw[k3,b2]) (by rw[hf];exact congrArg some W)) (d.agree.defers.trans q) ⟨?_,aS hk d.keep Q⟩;exact congrArg (fun l:List Value=>Ending.returned (.agg l.toArray)) W.symm
 refine b7 1 τ [(4,.one (.p 0 0)),(0,.one (.i .u64 (.x 0))),(1,.one (.i .u64 (.x 1))),(12,.one (.b (.cmp .geq (.x 0) (.c 4294967296))))] [] 1 [] hPp δ n3 fun D y C H I=>?_
 refine cG false H rfl f2 (fZ ?_);have q:=I.agree.defers.trans (X.agree.defers.trans hd);have V:=aS X.keep I.keep Q
 -- a sum that is no number,or one beyond the end
 cases hKK:K with
 | false =>
  have J:=H.fa [(.x 0,false)] (fa1 (sb.trans hKK));refine b7 3 τ [(4,.one (.p 0 0)),(0,.one (.i .u64 (.x 0))),(5,.one (.i .u64 (.c 4294967296)))] [] 1 [] hPp δ J fun O R N B d=>?_
  have hm:min (a+s) 4294967296=4294967296:=by rw[hKK]at Z;have:=of_decide_eq_false Z.symm;omega
  exact last O R N ((d.upto 0 ψ).trans (I.upto 0 ψ)) ⟨B.has.re ⟨rfl,rfl,by show Value.int .u64 4294967296=.int .u64 (S.i 3);rw[s3,hm];rfl,trivial⟩,B.mem,noC _ _ _ _ _,B.tb,B.gh⟩ (d.agree.defers.trans q) (aS V d.keep Q)
 | true =>
  have U:E=a+s:=by rw[hKK]at Z;have:=of_decide_eq_true Z.symm;rw[hE,if_pos this]
  by_cases c3:4294967296<a+s
  ·have J:=H.fa [(.x 0,true),(.cmp .gtr (.x 2) (.c 4294967296),true)] (by intro x u;rcases Ξ.1 u with rfl|u;exact sb.trans hKK;obtain rfl:=ρ.1 u;show decide (S.i 2>4294967296)=true;rw[s2,U];exact decide_eq_true χ)
   refine b7 3 τ [(4,.one (.p 0 0)),(0,.one (.i .u64 (.x 0))),(5,.one (.i .u64 (.c 4294967296)))] [] 1 [] hPp δ J fun O R N B d=>?_
   have hm:min (a+s) 4294967296=4294967296:=χ
   exact last O R N ((d.upto 0 ψ).trans (I.upto 0 ψ)) ⟨B.has.re ⟨rfl,rfl,by show Value.int .u64 4294967296=.int .u64 (S.i 3);rw[s3,hm];rfl,trivial⟩,B.mem,noC _ _ _ _ _,B.tb,B.gh⟩ (d.agree.defers.trans q) (aS V d.keep Q)
  ·have J:=H.fa [(.x 0,true),(.cmp .gtr (.x 2) (.c 4294967296),false)] (by intro x u;rcases Ξ.1 u with rfl|u;exact sb.trans hKK;obtain rfl:=ρ.1 u;show decide (S.i 2>4294967296)=false;rw[s2,U];exact decide_eq_false χ)
   refine b7 3 τ [(4,.one (.p 0 0)),(0,.one (.i .u64 (.x 0))),(5,.one (.i .u64 (.x 2)))] [] 1 [] hPp δ J fun O R N B d=>?_
   have hm:min (a+s) 4294967296=a+s:=χ
   exact last O R N ((d.upto 0 ψ).trans (I.upto 0 ψ)) ⟨B.has.re ⟨rfl,rfl,by show Value.int .u64 (S.i 2)=.int .u64 (S.i 3);rw[s3,hm,s2,U],trivial⟩,B.mem,noC _ _ _ _ _,B.tb,B.gh⟩ (d.agree.defers.trans q) (aS V d.keep Q)
theorem rd{a s q:Nat}:(cS a s).1≤q∧q≤(cS a s).2↔rng a s q:=by
 unfold cS rng;split
 ·show 1≤q∧q≤0↔_
  omega
 ·show a≤q∧q≤min (a+s) 4294967296-1↔_
  omega
theorem xD{a s:Nat}(d:a<lim):(cS a s).1<lim∧(cS a s).2<lim:=by
 unfold cS lim at *;split
 ·exact⟨ψ,ψ⟩
 ·exact⟨d,by show min (a+s) 4294967296-1<_;omega⟩
theorem yr(x:Ck.Region)(w:World):Calls Tryz.prog 55 #[.agg ((nK 0).map (Cl.den (ly x) fun _=>(0,0))).toArray] w fun e w'=>e=.returned (.int .u64 (cX x.big))∧Kz w w':=by
 refine fnE (ly x) (fun _=>(0,0)) [.ag (nK 0)] Tryz.func55 Tryz.ntmps55 rfl rfl ψ H0 (fun _ h=>h.elim) trivial fun A j hh=>?_
 cases hb:x.big with
 | true =>
  refine dU 9 τ [(2,.one (.i .u64 (.c 2097152)))] [] 1 [] hPp δ (hh.fa [(.x 1,true)] (fa1 hb)) fun u l q g d=>?_
  exact fj 2 rfl g.has rfl (d.agree.defers.trans j) ⟨rfl,d.keep⟩
 | false =>
  refine dU 9 τ [(2,.one (.i .u64 (.c 4096)))] [] 1 [] hPp δ (hh.fa [(.x 1,false)] (fa1 hb)) fun u l q g d=>?_
  exact fj 2 rfl g.has rfl (d.agree.defers.trans j) ⟨rfl,d.keep⟩
end Rs
namespace Ck
open Rs
variable {n al:Nat}
theorem Cp{p:Nat}(d:0<al)(g:al ∣ p)(h:n≤p):dp n al≤p:=by
 obtain⟨k,rfl⟩:=g;unfold dp;rw[Nat.mul_comm al k];refine Nat.mul_le_mul_right _ ?_;have:n+al-1<al*(k+1):=by rw[Nat.mul_add];omega
 exact Nat.lt_succ_iff.1 ((Nat.div_lt_iff_lt_mul d).2 (by rw[Nat.mul_comm];exact this))
theorem E7(d:0<al):n≤dp n al:=by
 unfold dp;have g:=Nat.div_add_mod (n+al-1) al;have h:=Nat.mod_lt (n+al-1) d;rw[Nat.mul_comm]at g;omega
theorem D4:al ∣ dp n al:=⟨_,Nat.mul_comm _ _⟩
def dT(size al:Nat)(s:Sp):Bool:=decide (dp s.1 al<lim)&&(decide (dp s.1 al≤s.2)&&decide (size≤s.2-dp s.1 al+1))
theorem sZ{l:List Sp}(h:dS l){r size:Nat}(J:0<size)(g:∀q,r≤q→q<r+size→aW l q):∃t∈l,t.1≤r∧r+size-1≤t.2:=by
 obtain⟨t,w,C,E⟩:=g r (Γ _) χ;refine⟨t,w,C,?_⟩
 rcases Ψ t.2 (r+size-1)with c|c
 ·obtain⟨u,D,H,I⟩:=g (t.2+1) χ χ
  obtain⟨i,hi⟩:=List.getElem?_of_mem w;obtain⟨j,v⟩:=List.getElem?_of_mem D;obtain⟨B,x⟩:=ο.1 hi;obtain⟨j1,y⟩:=ο.1 v
  rcases Nat.lt_trichotomy i j with d|d|d
  ·have:=List.pairwise_iff_getElem.1 h.apart i j B j1 d
   rw[x,y]at this;omega
  ·subst d;rw[hi]at v;obtain rfl:=ι v;omega
  ·have:=List.pairwise_iff_getElem.1 h.apart j i j1 B d
   rw[x,y]at this;have:=h.some_ t w;omega
 ·exact c
theorem s8{size:Nat}(d:0<al){t:Sp}(l:t.2<lim){r:Nat}(h:al ∣ r)(q:0<size)(g:t.1≤r)(j:r+size-1≤t.2):dT size al t=true:=by
 have:=Cp d h g;unfold dT;simp only[Bool.and_eq_true,decide_eq_true_eq];omega
theorem tZ{l:List Sp}(h:dP l){size al:Nat}(x:0<size)(w:0<al):fit (aW l) size al=(l.find? (dT size al)).map fun s=>dp s.1 al:=by
 have g:∀t∈l,t.2<lim:=fun t d=>by have:=(h.QW t d).2.2;unfold lim;omega
 cases e:l.find? (dT size al)with
 | none =>
  refine oy.2 (.inr fun p u=>?_);obtain⟨t,d,j,y⟩:=sZ h.ok x u.2;have:=List.find?_eq_none.1 e t d;exact this (s8 w (g t d) u.1 x j y)
 | some s =>
  refine fE.2 ⟨χ,⟨D4,fun q J K=>?_⟩,fun r H B=>?_⟩
  ·have j:=List.find?_some e
   unfold dT at j;simp only[Bool.and_eq_true,decide_eq_true_eq]at j;have:=E7 (n:=s.1) w;have J:dp s.1 al≤q:=J;have K:q<dp s.1 al+size:=K;exact⟨s,List.mem_of_find?_eq_some e,χ,χ⟩
  ·have H:r<dp s.1 al:=H
   obtain⟨t,d,j,y⟩:=sZ h.ok x B.2;have D:=s8 w (g t d) B.1 x j y;obtain⟨v,L,I,E,C⟩:=List.find?_eq_some_iff_append.1 e;rw[E]at d
   rcases Ω.1 d with d|d
   ·have:=C t d
    rw[D]at this
    cases this
   ·rcases Ξ.1 d with rfl|d
    ·have:=Cp w B.1 j;omega
    ·have u:=h.ok.apart
     rw[E]at u;have:=(List.pairwise_cons.1 (List.pairwise_append.1 u).2.1).1 t d;have N:s.2+1<t.1:=this;unfold dT at v;simp only[Bool.and_eq_true,decide_eq_true_eq]at v;omega
