import Derived.Test.YtpblcjipmoblnaaGreatDoorAsE
import Derived.Test.YtpblcjipmoblnaaGreatDoorShelfL
import Derived.Lib.LaidU8
import Derived.LaidHandle
import Derived.Shelf.Vars
set_option maxRecDepth 100000
set_option maxHeartbeats 4000000
set_option linter.unusedVariables false
set_option linter.unusedSimpArgs false
set_option linter.unnecessarySimpa false
namespace Go.Proofs.YtpblcjipmoblnaaGreatDoor
open Go.RowKit Go.Lib
variable {W:World} {g:Nat}
theorem rk(h:laidMetH Tryz.prog Rows.checkNamesRow.laid W):
 laidMet Tryz.prog (Rows.checkNamesRow.laid.filter fun x=>x.2.handleName?.isNone) W∧handlesMet Tryz.prog [("errors.errorType",Rows.laid_errors_errorType)] W:=by
 have e:Rows.checkNamesRow.laid.filter (fun x=>x.2.handleName?.isSome)=[("errors.errorType",Rows.laid_errors_errorType)]:=by kernel_rfl
 unfold laidMetH at h;simp only[e]at h;exact h
theorem wJ:((List.range Tryz.prog.types.size).filter fun t=>Tryz.prog.rowNamed t [101,114,114,111,114])=[111]:=by kernel_rfl
theorem uK(h:handlesMet Tryz.prog [("errors.errorType",Rows.laid_errors_errorType)] W):mt W:=by
 have a:Tryz.prog.globalNamed "errors.errorType" = some 0:=by kernel_rfl
 have b:(Tryz.prog.cutTypes.find? (·.1 == "internal/reflectlite.rtype")).map (·.2)=some 230:=by kernel_rfl
 obtain⟨name,u,ty,g,i,e3,e4,d⟩:=h _ (List.mem_singleton.2 rfl);have j:name=[101,114,114,111,114]:=(Option.some.inj g).symm;subst j;obtain rfl:=Option.some.inj (b.symm.trans i);have e:ty∈(List.range Tryz.prog.types.size).filter fun t=>Tryz.prog.rowNamed t [101,114,114,111,114]:=List.mem_filter.2 ⟨List.mem_range.2 e3,e4⟩
 rw[wJ]at e;obtain rfl:=List.mem_singleton.1 e;have hh:typeHandle Tryz.prog 111=.pointer (some ⟨13,111,none⟩):=by kernel_rfl
 rw[hh]at d;unfold mt
 simpa using World.var?_cell a d 0
theorem kL{n:String}{k:IntKind}{u:List Int}{m:Nat}{t e:TypeId}(x:Tryz.prog.globalNamed n=some g)(q:(Tryz.prog.globals[g]?).map (·.type)=some t)
 (y:Tryz.prog.underlying t=some (.array m e))(w:Tryz.prog.underlying e=some (.int k))(d:Tryz.prog.cellsOf e=1)(j:Tryz.prog.cellsOf t=m)(h:VarReads Tryz.prog W n (tabData k u)):TabIs Tryz.prog W n k u:=by
 obtain⟨A,t',cs,r,p,l,a,b,v⟩:=h;obtain rfl:=Option.some.inj (x.symm.trans l);obtain rfl:=Option.some.inj (q.symm.trans a);have i:=cells_of_tab y w d j v;unfold TabIs;rw[b];exact congrArg some (Array.ext' i)
theorem kx{W:World}{n:String}{t:TypeId}{g:Nat}{ms:Array (String×TypeId)}{d:DataW Unit}(r:Tryz.prog.globalNamed n=some g)(q:(Tryz.prog.globals[g]?).map (·.type)=some t)
 (x:Tryz.prog.underlying t=some (.interface ms))(h:VarReads Tryz.prog W n d):∃v,W.cell? ⟨g,0,none⟩=some v∧sK v:=by
 obtain⟨y,t',cs,a,p,l,b,i,j⟩:=h;obtain rfl:=Option.some.inj (r.symm.trans l);obtain rfl:=Option.some.inj (q.symm.trans b);have u:=World.var?_cell r i 0
 cases a with
 | zero=>simp[DataW.trod]at j
 | succ a =>
  have:∃v,cs.toList=[v]∧sK v:=by
   simp only[DataW.trod,x]at j;split at j<;>simp_all [sK]
  obtain⟨v,hv,w⟩:=this;have e:cs = #[v]:=Array.ext' hv;subst e;exact⟨v,u,w⟩
theorem nr{n:String}{k:IntKind}{d:List Int}{w w':World}(i:Tryz.prog.globalNamed n=some g)(h:TabIs Tryz.prog w n k d)(e:Below w.heap.size w w'):TabIs Tryz.prog w' n k d:=by
 unfold TabIs World.var? at h⊢;rw[i]at h⊢;simp only[Option.bind_some]at h⊢;have b:g<w.heap.size:=by
  rcases Nat.lt_or_ge g w.heap.size with a|a
  ·exact a
  ·rw[Array.getElem?_eq_none a]at h;cases h
 rw[e.block g b];exact h
theorem jG.below{w w':World}(h:jG ib w)(e:Below w.heap.size w w'):jG ib w':=by
 have lt:∀{a:Addr} {v:Value},w.cell? a=some v→a.block<w.heap.size:=fun{a v} b=>by
  rcases Nat.lt_or_ge a.block w.heap.size with d|d
  ·exact d
  ·simp[World.cell?,Array.getElem?_eq_none d]at b
 have keep:∀{a:Addr} {v:Value},w.cell? a=some v→w'.cell? a=some v:=fun{a v} b=>(e.cell (lt b)).trans b
 refine⟨fun i n=>keep (h.QV i n),nr (g:=2) (by kernel_rfl) h.space e,?_,nr (g:=5) (by kernel_rfl) h.pow e,?_,?_,?_⟩
 ·obtain⟨p,q,r,u,x⟩:=h.white
  exact⟨p,q,keep r,fun j v hv=>keep (u j v hv),fun i n=>keep (x i n)⟩
 ·obtain⟨m,y⟩:=h.max
  exact⟨m,keep y⟩
 ·obtain⟨v,hv,l⟩:=h.e3
  exact⟨v,keep hv,l⟩
 ·obtain⟨v,hv,l⟩:=h.e4
  exact⟨v,keep hv,l⟩
theorem rh(h:laidMetH Tryz.prog Rows.checkNamesRow.laid W)(p:W.ShapedOpen Tryz.prog):gm W.heap.size W:=by
 obtain⟨G,hh⟩:=rk h;have a:∀{n:String} {d:DataW Unit},(n,d)∈Rows.checkNamesRow.laid→d.handleName?.isNone=true→VarReads Tryz.prog W n d:=fun H I=>laidMet.reads G (List.mem_filter.2 ⟨H,I⟩)
 have b:TabIs Tryz.prog W "bulkhead/scan.classes" .u8 ((List.range 128).map fun i=>(ib i:Int)):=
  kL (g:=1) (t:=287) (e:=5) (m:=128) (by kernel_rfl) (by kernel_rfl) (by kernel_rfl) (by kernel_rfl) (by kernel_rfl) (by kernel_rfl)
   ((show Rows.laid_bulkhead_scan_classes=tabData .u8 ((List.range 128).map fun i=>(ib i:Int)) by kernel_rfl)▸a (n := "bulkhead/scan.classes") (d:=Rows.laid_bulkhead_scan_classes) (.tail _ (.tail _ (.tail _ (.tail _ (.tail _ (.tail _ (.tail _ (.tail _ (.tail _ (.head _)))))))))) (by kernel_rfl))
 have l:TabIs Tryz.prog W "internal/strconv.uint64pow10" .u64 pow10Tab:=
  kL (g:=5) (t:=323) (e:=39) (m:=20) (by kernel_rfl) (by kernel_rfl) (by kernel_rfl) (by kernel_rfl) (by kernel_rfl) (by kernel_rfl)
   ((show Rows.laid_internal_strconv_uint64pow10=tabData .u64 pow10Tab by kernel_rfl)▸a (n := "internal/strconv.uint64pow10") (d:=Rows.laid_internal_strconv_uint64pow10) (.tail _ (.tail _ (.head _))) (by kernel_rfl))
 have q:TabIs Tryz.prog W "strings.asciiSpace" .u8 asciiSpaceTab:=
  kL (g:=2) (t:=314) (e:=5) (m:=256) (by kernel_rfl) (by kernel_rfl) (by kernel_rfl) (by kernel_rfl) (by kernel_rfl) (by kernel_rfl)
   ((show Rows.laid_strings_asciiSpace=tabData .u8 asciiSpaceTab by kernel_rfl)▸a (n := "strings.asciiSpace") (d:=Rows.laid_strings_asciiSpace) (.tail _ (.tail _ (.tail _ (.tail _ (.tail _ (.tail _ (.tail _ (.tail _ (.head _))))))))) (by kernel_rfl))
 have u:WhiteTab 7 W:=whiteTab_of_reads Tryz.lays199 ⟨by kernel_rfl,by kernel_rfl,by kernel_rfl,by kernel_rfl,by kernel_rfl,by kernel_rfl,by kernel_rfl,by kernel_rfl⟩
  ((show Rows.laid_unicode_White_Space=whiteData by kernel_rfl)▸a (n := "unicode.White_Space") (d:=Rows.laid_unicode_White_Space) (.tail _ (.tail _ (.tail _ (.tail _ (.tail _ (.tail _ (.tail _ (.head _)))))))) (by kernel_rfl))
 have D:jG ib W:={
  QV:=fun i w=>by
   have:=b.cell (g:=1) (by kernel_rfl) i (by simpa using w);rw[this];simp[List.getD,w]
  space:=q
  white:=by
   obtain⟨T,L,R,K,x,y,A,B,C⟩:=u;refine⟨(T,L),(R,K),x,fun j v hv=>?_,C⟩
   match j,hv with
   | 0,hv=>obtain rfl:=Option.some.inj hv;exact y
   | 1,hv=>obtain rfl:=Option.some.inj hv;exact A
   | 2,hv=>obtain rfl:=Option.some.inj hv;exact B
   | j+3,hv=>simp at hv
  pow:=l
  max:=cell_of_shapedOpen_int (g:=6) (t:=3) (zero := #[.int .i64 0]) p (of_decide_eq_true (by kernel_rfl)) (by kernel_rfl) rfl (by kernel_rfl) (by kernel_rfl) Tryz.underlying3
  e3:=kx (g:=3) (t:=111) (ms:=_) (by kernel_rfl) (by kernel_rfl) (Tryz.underlying111) (a (n := "strconv.ErrSyntax") (d:=Rows.laid_strconv_ErrSyntax) (.tail _ (.tail _ (.tail _ (.tail _ (.tail _ (.tail _ (.head _))))))) (by kernel_rfl))
  e4:=kx (g:=4) (t:=111) (ms:=_) (by kernel_rfl) (by kernel_rfl) (Tryz.underlying111) (a (n := "strconv.ErrRange") (d:=Rows.laid_strconv_ErrRange) (.tail _ (.tail _ (.tail _ (.tail _ (.tail _ (.head _)))))) (by kernel_rfl)) }
 have r:13<W.heap.size:=by
  obtain⟨o,_,J,_⟩:=p.2 13 (of_decide_eq_true (by kernel_rfl)) (of_decide_eq_true (by kernel_rfl));exact(Array.getElem?_eq_some_iff.1 J).1
 exact⟨r,uK hh,fun w' E=>D.below E⟩
end Go.Proofs.YtpblcjipmoblnaaGreatDoor
