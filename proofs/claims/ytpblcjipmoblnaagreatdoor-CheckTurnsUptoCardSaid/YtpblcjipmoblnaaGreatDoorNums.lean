import Derived.Test.YtpblcjipmoblnaaGreatDoorOpenG
import Derived.Test.YtpblcjipmoblnaaGreatDoorLFlat
import Derived.Test.YtpblcjipmoblnaaGreatDoorThings2
set_option maxRecDepth 100000
set_option maxHeartbeats 4000000
set_option linter.unusedVariables false
set_option linter.unusedSimpArgs false
set_option linter.unnecessarySimpa false
namespace Go.Proofs.YtpblcjipmoblnaaGreatDoor
open Go.RowKit Go.IntWalk Ck
variable {B:Nat} {w:World}
def bs(l:List UInt8):ByteArray:=⟨l.toArray⟩
def fJ:aC:={
 pos:=0
 name:=bs [115]
 QF:=[⟨1,65536,65536⟩]
 Q4:=[]
 Q5:=[⟨2,bs [114],4096,false,0,false,false,0,false,ByteArray.empty⟩]
 Q3:=[⟨3,bs [97],0,false,[⟨4,bs [114],4096,true,false⟩],[]⟩]
 Q8:=[]
 QG:=[]
 QC:=[]
 Q9:=[⟨5,bs [112],10,[⟨6,0,false,[⟨7,bs [97],10,0⟩]⟩]⟩]
 QD:=[]
 QE:=[⟨8,bs [112]⟩]
 QB:=[]
 QA:=[] }
def lB:aC:=⟨3,ByteArray.empty,[],[],[],[],[],[],[],[],[],[],[],[]⟩
theorem bW{α:Type}{k:Nat}{R:World→Nat→Nat→α→Prop}:aT B k R w (.slice none 0 0) []:=⟨none,0,rfl,Nat.le_refl _,by unfold top;simp,fun h=>by simp at h⟩
theorem dj{α:Type}{k:Nat}{R:World→Nat→Nat→α→Prop}{b:Nat}{x:α}(d:b<B)(h:R w b 0 x):aT B k R w (.slice (some ⟨b,0,none⟩) 1 1) [x]:=
 ⟨_,1,rfl,Nat.le_refl _,by unfold top;simp,fun _=>⟨b,0,rfl,d,fun i y a=>by
  match i,a with
  | 0,a=>obtain rfl:x=y:=Option.some.inj a;simpa using h
  | i+1,a=>simp at a⟩⟩
theorem dS{b:Nat}{l:List Value}{t:TypeId}(h:w.heap[b]?=some (.cells l.toArray t (0,0))):aN w b 0 l:=fun j v hv=>by
 rw[Nat.zero_add,cell_of_row _ _ _ _ _ _ h]
 simpa using hv
def v0(z:Nat):aV:={
 QF := .slice (some ⟨z+1,0,none⟩) 1 1
 Q4 := .slice none 0 0
 Q5 := .slice (some ⟨z+1+1,0,none⟩) 1 1
 Q3 := .slice (some ⟨z+1+1+1+1,0,none⟩) 1 1
 Q8 := .slice none 0 0
 QG := .slice none 0 0
 QC := .slice none 0 0
 Q9 := .slice (some ⟨z+1+1+1+1+1+1+1,0,none⟩) 1 1
 QD := .slice none 0 0
 QE := .slice (some ⟨z+1+1+1+1+1+1+1+1,0,none⟩) 1 1
 QB := .slice none 0 0
 QA := .slice none 0 0 }
def vZ:aV:=⟨.slice none 0 0,.slice none 0 0,.slice none 0 0,.slice none 0 0,.slice none 0 0,.slice none 0 0,.slice none 0 0,.slice none 0 0,.slice none 0 0,.slice none 0 0,.slice none 0 0,.slice none 0 0⟩
theorem xG(B:Nat)(w:World):cX B w vZ lB:=⟨bW,bW,bW,bW,bW,bW,bW,bW,bW,bW,bW,bW,by unfold dN lB;simp,by unfold ae lB;simp⟩
def jK(z:Nat):List Obj:=
 [.cells ((v0 z).cells fJ).toArray 34,.cells (Ck.Ram.cells ⟨1,65536,65536⟩).toArray 41,.cells (Ck.Region.cells ⟨2,bs [114],4096,false,0,false,false,0,false,bs []⟩).toArray 48,
  .cells (Ck.Map.cells ⟨4,bs [114],4096,true,false⟩).toArray 71,.cells #[.int .i64 3,.string (bs [97]),.int .u64 0,.bool false,.slice (some ⟨z+1+1+1,0,none⟩) 1 1,.slice none 0 0] 52,
  .cells (Run.cells ⟨7,bs [97],10,0⟩).toArray 108,.cells #[.int .i64 6,.int .u64 0,.bool false,.slice (some ⟨z+1+1+1+1+1,0,none⟩) 1 1] 92,
  .cells #[.int .i64 5,.string (bs [112]),.int .u64 10,.slice (some ⟨z+1+1+1+1+1+1,0,none⟩) 1 1] 62,.cells (Ck.gk.cells ⟨8,bs [112]⟩).toArray 78]
theorem oS:∀(os:List Obj) (w:World),(os.foldl World.alloc w).heap.size=w.heap.size+os.length∧(∀i o,os[i]?=some o→(os.foldl World.alloc w).heap[w.heap.size+i]?=some o)∧Kz w (os.foldl World.alloc w)
 | [],w=>⟨rfl,fun i o h=>by simp at h,aB.refl _ _⟩
 | o::os,w=>by
  obtain⟨g,j,a⟩:=oS os (w.alloc o);have b:(w.alloc o).heap.size=w.heap.size+1:=by simp
  have d:(w.alloc o).heap[w.heap.size]?=some o:=heap_alloc_new _ _;refine⟨by rw[List.foldl_cons,g,b,List.length_cons];omega,fun i x hx=>?_,((aB.refl _ _).alloc _).trans a (fun _ _ e=>e)⟩
  cases i with
  | zero =>
   obtain rfl:o=x:=Option.some.inj hx;rw[List.foldl_cons,Nat.add_zero,a.block _ (by omega) (fun e=>e)];exact d
  | succ i =>
   have:=j i x hx;rw[b,Nat.add_assoc,Nat.add_comm 1 i]at this;exact this
theorem lk{z:Nat}(h:∀i o,(jK z)[i]?=some o→w.heap[z+i]?=some o)(a:z+9≤B):cX B w (v0 z) fJ:={
 QF:=dj (b:=z+1) (by omega) ⟨dS (h 1 _ rfl),by simp[Ck.Ram.Ok,dN,lim,ByteArray.size]⟩
 Q4:=bW
 Q5:=dj (b:=z+1+1) (by omega) ⟨dS (h 2 _ rfl),by simp[Ck.Region.Ok,dN,ae,bs,lim,ByteArray.size]⟩
 Q3:=dj (b:=z+1+1+1+1) (by omega) ⟨_,_,dS (h 4 _ rfl),dj (b:=z+1+1+1) (by omega) ⟨dS (h 3 _ rfl),by simp[Ck.Map.Ok,dN,ae,bs,lim,ByteArray.size]⟩,bW,by simp[dN,ae,bs,lim,ByteArray.size]⟩
 Q8:=bW
 QG:=bW
 QC:=bW
 Q9:=dj (b:=z+1+1+1+1+1+1+1) (by omega) ⟨_,dS (h 7 _ rfl),dj (b:=z+1+1+1+1+1+1) (by omega) ⟨_,dS (h 6 _ rfl),
  dj (b:=z+1+1+1+1+1) (by omega) ⟨dS (h 5 _ rfl),by simp[Run.Ok,dN,ae,bs,lim,ByteArray.size]⟩,by simp[dN,lim,ByteArray.size]⟩,by simp[dN,ae,bs,lim,ByteArray.size]⟩
 QD:=bW
 QE:=dj (b:=z+1+1+1+1+1+1+1+1) (by omega) ⟨dS (h 8 _ rfl),by simp[Ck.gk.Ok,dN,ae,bs,lim,ByteArray.size]⟩
 QB:=bW
 QA:=bW
 pos:=by simp[fJ,dN,lim,ByteArray.size]
 name:=by simp[fJ,ae,bs,lim,ByteArray.size] }
theorem vQ{fn:Func}{R:Ending→World→Prop}{a:Act}{t z:Nat}{v:aV}{P:aC}(h:fn.results = #[.cell t 34])(C:At a t (.pointer (some ⟨z,0,none⟩)))(B:t<a.tmps.size)(b:aN w z 0 (v.cells P))(A:a.defers=[])
 (l:R (.returned (.agg (v.cells P).toArray)) w):bodyPost Tryz.prog fn R .ret a w:=by
 refine bodyPost_ret (v := .agg (v.cells P).toArray) ?_ A l;have e:a.tmps.getD t undef=.pointer (some ⟨z,0,none⟩):=C.eval B;have c0:=b 0 _ rfl;have c1:=b 1 _ rfl;have c2:=b 2 _ rfl;have n:=b 3 _ rfl;have p:=b 4 _ rfl;have q:=b 5 _ rfl;have r:=b 6 _ rfl;have u:=b 7 _ rfl;have x:=b 8 _ rfl;have y:=b 9 _ rfl;have d:=b 10 _ rfl;have g:=b 11 _ rfl;have i:=b 12 _ rfl;have j:=b 13 _ rfl;simp only[Nat.zero_add]at c0 c1 c2 n p q r u x y d g i j;clear b l;unfold results;simp only[h];go_simp;rfl
theorem oC(w:World):Calls Tryz.prog 33 #[] w fun e w'=>∃z,e=.returned (.agg ((v0 z).cells fJ).toArray)∧w.heap.size≤z∧z+9≤w'.heap.size∧(∀i o,(jK z)[i]?=some o→w'.heap[z+i]?=some o)∧Kz w w':=by
 obtain⟨b,d,g⟩:=oS (jK w.heap.size) w;have h:=hh b;have a:=hh d;have j:=hh g;clear b d g
 go_enter Tryz.func33,Tryz.ntmps33
 go_wp2
 exact vQ (z:=w.heap.size) (t:=0) rfl (fun _=>rfl) (show(0:Nat)<18 by decide) (dS (a.out 0 _ rfl)) rfl ⟨w.heap.size,rfl,Nat.le_refl _,Nat.le_of_eq h.out.symm,a.out,j.out⟩
end Go.Proofs.YtpblcjipmoblnaaGreatDoor
