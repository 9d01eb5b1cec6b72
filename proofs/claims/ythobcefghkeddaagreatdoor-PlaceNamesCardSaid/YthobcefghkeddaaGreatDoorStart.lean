import Derived.Test.YthobcefghkeddaaGreatDoorAsE
import Derived.Test.YthobcefghkeddaaGreatDoorShelfL
import Derived.Lib.LaidU8
import Derived.LaidHandle
set_option maxRecDepth 100000
set_option linter.all false
set_option maxHeartbeats 4000000
namespace Go.Proofs.YthobcefghkeddaaGreatDoor
open Go.RowKit Go.Lib
variable {W:World} {g:Nat}
theorem uS(h:laidMetH Tryz.prog Rows.placeNamesRow.laid W):
 laidMet Tryz.prog (Rows.placeNamesRow.laid.filter fun x=>x.2.handleName?.isNone) W∧handlesMet Tryz.prog [("errors.errorType",Rows.laid_errors_errorType)] W:=by
 have e:Rows.placeNamesRow.laid.filter (fun x=>x.2.handleName?.isSome)=[("errors.errorType",Rows.laid_errors_errorType)]:=δ
 unfold laidMetH at h;simp only[e]at h;exact h
theorem A8:((List.range Tryz.prog.types.size).filter fun t=>Tryz.prog.rowNamed t [101,114,114,111,114])=[75]:=δ
theorem xj(h:handlesMet Tryz.prog [("errors.errorType",Rows.laid_errors_errorType)] W):ow W:=by
 have d:Tryz.prog.globalNamed "errors.errorType" = some 0:=δ
 have g:(Tryz.prog.cutTypes.find? (·.1 == "internal/reflectlite.rtype")).map (·.2)=some 231:=δ
 obtain⟨name,u,ty,q,v,e3,e4,j⟩:=h _ (List.mem_singleton.2 rfl);have w:name=[101,114,114,111,114]:=(Option.some.inj q).symm;subst w;obtain rfl:=Option.some.inj (g.symm.trans v);have l:ty∈(List.range Tryz.prog.types.size).filter fun t=>Tryz.prog.rowNamed t [101,114,114,111,114]:=List.mem_filter.2 ⟨List.mem_range.2 e3,e4⟩
 rw[A8]at l;obtain rfl:=List.mem_singleton.1 l;have hh:typeHandle Tryz.prog 75=.pointer (some ⟨13,75,none⟩):=δ
 rw[hh]at j;unfold ow
 simpa using World.var?_cell d j 0
theorem lM{n:String}{k:IntKind}{y:List Int}{m:Nat}{t e:TypeId}(D:Tryz.prog.globalNamed n=some g)(w:(Tryz.prog.globals[g]?).map (·.type)=some t)
 (E:Tryz.prog.underlying t=some (.array m e))(C:Tryz.prog.underlying e=some (.int k))(l:Tryz.prog.cellsOf e=1)(u:Tryz.prog.cellsOf t=m)(h:VarReads Tryz.prog W n (tabData k y)):TabIs Tryz.prog W n k y:=by
 obtain⟨H,t',cs,x,p,v,d,j,B⟩:=h;obtain rfl:=Option.some.inj (D.symm.trans v);obtain rfl:=Option.some.inj (w.symm.trans d);have q:=cells_of_tab E C l u B;unfold TabIs;rw[j];exact congrArg some (Array.ext' q)
theorem mX{W:World}{n:String}{t:TypeId}{g:Nat}{ms:Array (String×TypeId)}{d:DataW Unit}(y:Tryz.prog.globalNamed n=some g)(x:(Tryz.prog.globals[g]?).map (·.type)=some t)
 (D:Tryz.prog.underlying t=some (.interface ms))(h:VarReads Tryz.prog W n d):∃v,W.cell? ⟨g,0,none⟩=some v∧vD v:=by
 obtain⟨H,t',cs,j,p,w,l,q,u⟩:=h;obtain rfl:=Option.some.inj (y.symm.trans w);obtain rfl:=Option.some.inj (x.symm.trans l);have B:=World.var?_cell y q 0
 cases j with
 | zero=>simp[DataW.trod]at u
 | succ j =>
  have:∃v,cs.toList=[v]∧vD v:=by
   simp only[DataW.trod,D]at u;split at u<;>simp_all [vD]
  obtain⟨v,E,C⟩:=this;have e:cs = #[v]:=Array.ext' E;subst e;exact⟨v,B,C⟩
theorem pj{n:String}{k:IntKind}{l:List Int}{w w':World}(u:Tryz.prog.globalNamed n=some g)(h:TabIs Tryz.prog w n k l)(q:Below w.heap.size w w'):TabIs Tryz.prog w' n k l:=by
 unfold TabIs World.var? at h⊢;rw[u]at h⊢;simp only[Option.bind_some]at h⊢;have j:g<w.heap.size:=by
  rcases Nat.lt_or_ge g w.heap.size with d|d
  ·exact d
  ·rw[Array.getElem?_eq_none d]at h;cases h
 rw[q.block g j];exact h
theorem jT.below{w w':World}(h:jT gK w)(x:Below w.heap.size w w'):jT gK w':=by
 have lt:∀{a:Addr} {v:Value},w.cell? a=some v→a.block<w.heap.size:=fun{a v} l=>by
  rcases Nat.lt_or_ge a.block w.heap.size with u|u
  ·exact u
  ·simp[World.cell?,Array.getElem?_eq_none u]at l
 have keep:∀{a:Addr} {v:Value},w.cell? a=some v→w'.cell? a=some v:=fun{a v} l=>(x.cell (lt l)).trans l
 refine⟨fun i hi=>keep (h.QT i hi),pj (g:=2) δ h.space x,?_,pj (g:=5) δ h.pow x,?_,?_,?_⟩
 ·obtain⟨p,q,B,C,D⟩:=h.white
  exact⟨p,q,keep B,fun j v d=>keep (C j v d),fun i hi=>keep (D i hi)⟩
 ·obtain⟨m,E⟩:=h.max
  exact⟨m,keep E⟩
 ·obtain⟨v,d,y⟩:=h.e3
  exact⟨v,keep d,y⟩
 ·obtain⟨v,d,y⟩:=h.e4
  exact⟨v,keep d,y⟩
theorem uR(h:laidMetH Tryz.prog Rows.placeNamesRow.laid W)(x:W.ShapedOpen Tryz.prog):fH W.heap.size W:=by
 obtain⟨N,hh⟩:=uS h;have l:∀{n:String} {d:DataW Unit},(n,d)∈Rows.placeNamesRow.laid→d.handleName?.isNone=true→VarReads Tryz.prog W n d:=fun O Q=>laidMet.reads N (List.mem_filter.2 ⟨O,Q⟩)
 have u:TabIs Tryz.prog W "bulkhead/scan.classes" .u8 ((List.range 128).map fun i=>(gK i:Int)):=
  lM (g:=1) (t:=308) (e:=5) (m:=128) δ δ δ δ δ δ
   ((show Rows.laid_bulkhead_scan_classes=tabData .u8 ((List.range 128).map fun i=>(gK i:Int)) by kernel_rfl)▸l (n := "bulkhead/scan.classes") (d:=Rows.laid_bulkhead_scan_classes) (.tail _ (.tail _ (.tail _ (.tail _ (.tail _ (.tail _ (.tail _ (.tail _ (.tail _ (.head _)))))))))) δ)
 have w:TabIs Tryz.prog W "internal/strconv.uint64pow10" .u64 pow10Tab:=
  lM (g:=5) (t:=341) (e:=41) (m:=20) δ δ δ δ δ δ
   ((show Rows.laid_internal_strconv_uint64pow10=tabData .u64 pow10Tab by kernel_rfl)▸l (n := "internal/strconv.uint64pow10") (d:=Rows.laid_internal_strconv_uint64pow10) (.tail _ (.tail _ (.head _))) δ)
 have y:TabIs Tryz.prog W "strings.asciiSpace" .u8 asciiSpaceTab:=
  lM (g:=2) (t:=332) (e:=5) (m:=256) δ δ δ δ δ δ
   ((show Rows.laid_strings_asciiSpace=tabData .u8 asciiSpaceTab by kernel_rfl)▸l (n := "strings.asciiSpace") (d:=Rows.laid_strings_asciiSpace) (.tail _ (.tail _ (.tail _ (.tail _ (.tail _ (.tail _ (.tail _ (.tail _ (.head _))))))))) δ)
 have C:WhiteTab 7 W:=whiteTab_of_reads Tryz.lays199 ⟨δ,δ,δ,δ,δ,δ,δ,δ⟩
  ((show Rows.laid_unicode_White_Space=whiteData by kernel_rfl)▸l (n := "unicode.White_Space") (d:=Rows.laid_unicode_White_Space) (.tail _ (.tail _ (.tail _ (.tail _ (.tail _ (.tail _ (.tail _ (.head _)))))))) δ)
 have K:jT gK W:={
  QT:=fun i hi=>by
   have:=u.cell (g:=1) δ i (by simpa using hi);rw[this];simp[List.getD,hi]
  space:=y
  white:=by
   obtain⟨T,X,R,V,D,E,H,I,J⟩:=C;refine⟨(T,X),(R,V),D,fun j v q=>?_,J⟩
   match j,q with
   | 0,q=>obtain rfl:=Option.some.inj q;exact E
   | 1,q=>obtain rfl:=Option.some.inj q;exact H
   | 2,q=>obtain rfl:=Option.some.inj q;exact I
   | j+3,q=>simp at q
  pow:=w
  max:=cell_of_shapedOpen_int (g:=6) (t:=3) (zero := #[.int .i64 0]) x (of_decide_eq_true δ) δ rfl δ δ Tryz.underlying3
  e3:=mX (g:=3) (t:=75) (ms:=_) δ δ (Tryz.underlying75) (l (n := "strconv.ErrSyntax") (d:=Rows.laid_strconv_ErrSyntax) (.tail _ (.tail _ (.tail _ (.tail _ (.tail _ (.tail _ (.head _))))))) δ)
  e4:=mX (g:=4) (t:=75) (ms:=_) δ δ (Tryz.underlying75) (l (n := "strconv.ErrRange") (d:=Rows.laid_strconv_ErrRange) (.tail _ (.tail _ (.tail _ (.tail _ (.tail _ (.head _)))))) δ) }
 have B:13<W.heap.size:=by
  obtain⟨o,_,U,_⟩:=x.2 13 (of_decide_eq_true δ) (of_decide_eq_true δ);exact(Array.getElem?_eq_some_iff.1 U).1
 exact⟨B,xj hh,fun w' L=>K.below L⟩
