import Derived.Test.YtpblcjipmoblnaaGreatDoorSmall
import Derived.Test.YtpblcjipmoblnaaGreatDoorShelfL
import Derived.Lib.LaidU8
import Derived.LaidHandle
set_option maxRecDepth 100000
set_option linter.all false
set_option maxHeartbeats 4000000
namespace Go.Proofs.YtpblcjipmoblnaaGreatDoor
open Go.RowKit Go.Lib
variable {W:World} {g:Nat}
theorem tp(h:laidMetH Tryz.prog Rows.checkNamesRow.laid W):
 laidMet Tryz.prog (Rows.checkNamesRow.laid.filter fun x=>x.2.handleName?.isNone) W∧handlesMet Tryz.prog [("errors.errorType",Rows.laid_errors_errorType)] W:=by
 have e:Rows.checkNamesRow.laid.filter (fun x=>x.2.handleName?.isSome)=[("errors.errorType",Rows.laid_errors_errorType)]:=δ
 unfold laidMetH at h;simp only[e]at h;exact h
theorem zI:((List.range Tryz.prog.types.size).filter fun t=>Tryz.prog.rowNamed t [101,114,114,111,114])=[111]:=δ
theorem ww(h:handlesMet Tryz.prog [("errors.errorType",Rows.laid_errors_errorType)] W):oy W:=by
 have d:Tryz.prog.globalNamed "errors.errorType" = some 0:=δ
 have g:(Tryz.prog.cutTypes.find? (·.1 == "internal/reflectlite.rtype")).map (·.2)=some 230:=δ
 obtain⟨name,u,ty,p,q,e3,e4,j⟩:=h _ (List.mem_singleton.2 rfl);have r:name=[101,114,114,111,114]:=(Option.some.inj p).symm;subst r;obtain rfl:=Option.some.inj (g.symm.trans q);have l:ty∈(List.range Tryz.prog.types.size).filter fun t=>Tryz.prog.rowNamed t [101,114,114,111,114]:=List.mem_filter.2 ⟨List.mem_range.2 e3,e4⟩
 rw[zI]at l;obtain rfl:=List.mem_singleton.1 l;have hh:typeHandle Tryz.prog 111=.pointer (some ⟨13,111,none⟩):=δ
 rw[hh]at j;unfold oy
 simpa using World.var?_cell d j 0
theorem lT{n:String}{k:IntKind}{x:List Int}{m:Nat}{t e:TypeId}(B:Tryz.prog.globalNamed n=some g)(v:(Tryz.prog.globals[g]?).map (·.type)=some t)
 (C:Tryz.prog.underlying t=some (.array m e))(A:Tryz.prog.underlying e=some (.int k))(l:Tryz.prog.cellsOf e=1)(r:Tryz.prog.cellsOf t=m)(h:VarReads Tryz.prog W n (tabData k x)):TabIs Tryz.prog W n k x:=by
 obtain⟨D,t',cs,w,p,u,d,j,y⟩:=h;obtain rfl:=Option.some.inj (B.symm.trans u);obtain rfl:=Option.some.inj (v.symm.trans d);have q:=cells_of_tab C A l r y;unfold TabIs;rw[j];exact congrArg some (Array.ext' q)
theorem mY{W:World}{n:String}{t:TypeId}{g:Nat}{ms:Array (String×TypeId)}{d:DataW Unit}(x:Tryz.prog.globalNamed n=some g)(w:(Tryz.prog.globals[g]?).map (·.type)=some t)
 (B:Tryz.prog.underlying t=some (.interface ms))(h:VarReads Tryz.prog W n d):∃v,W.cell? ⟨g,0,none⟩=some v∧uX v:=by
 obtain⟨C,t',cs,j,p,u,l,q,r⟩:=h;obtain rfl:=Option.some.inj (x.symm.trans u);obtain rfl:=Option.some.inj (w.symm.trans l);have y:=World.var?_cell x q 0
 cases j with
 | zero=>simp[DataW.trod]at r
 | succ j =>
  have:∃v,cs.toList=[v]∧uX v:=by
   simp only[DataW.trod,B]at r;split at r<;>simp_all [uX]
  obtain⟨v,hv,A⟩:=this;have e:cs = #[v]:=Array.ext' hv;subst e;exact⟨v,y,A⟩
theorem ph{n:String}{k:IntKind}{l:List Int}{w w':World}(q:Tryz.prog.globalNamed n=some g)(h:TabIs Tryz.prog w n k l)(p:Below w.heap.size w w'):TabIs Tryz.prog w' n k l:=by
 unfold TabIs World.var? at h⊢;rw[q]at h⊢;simp only[Option.bind_some]at h⊢;have j:g<w.heap.size:=by
  rcases Nat.lt_or_ge g w.heap.size with d|d
  ·exact d
  ·rw[Array.getElem?_eq_none d]at h;cases h
 rw[p.block g j];exact h
theorem jp.below{w w':World}(h:jp kn w)(r:Below w.heap.size w w'):jp kn w':=by
 have lt:∀{a:Addr} {v:Value},w.cell? a=some v→a.block<w.heap.size:=fun{a v} d=>by
  rcases Nat.lt_or_ge a.block w.heap.size with l|l
  ·exact l
  ·simp[World.cell?,Array.getElem?_eq_none l]at d
 have keep:∀{a:Addr} {v:Value},w.cell? a=some v→w'.cell? a=some v:=fun{a v} d=>(r.cell (lt d)).trans d
 refine⟨fun i x=>keep (h.QU i x),ph (g:=2) δ h.space r,?_,ph (g:=5) δ h.pow r,?_,?_,?_⟩
 ·obtain⟨p,q,y,A,B⟩:=h.white
  exact⟨p,q,keep y,fun j v hv=>keep (A j v hv),fun i x=>keep (B i x)⟩
 ·obtain⟨m,C⟩:=h.max
  exact⟨m,keep C⟩
 ·obtain⟨v,hv,u⟩:=h.e3
  exact⟨v,keep hv,u⟩
 ·obtain⟨v,hv,u⟩:=h.e4
  exact⟨v,keep hv,u⟩
theorem tm(h:laidMetH Tryz.prog Rows.checkNamesRow.laid W)(r:W.ShapedOpen Tryz.prog):jI W.heap.size W:=by
 obtain⟨J,hh⟩:=tp h;have l:∀{n:String} {d:DataW Unit},(n,d)∈Rows.checkNamesRow.laid→d.handleName?.isNone=true→VarReads Tryz.prog W n d:=fun K L=>laidMet.reads J (List.mem_filter.2 ⟨K,L⟩)
 have p:TabIs Tryz.prog W "bulkhead/scan.classes" .u8 ((List.range 128).map fun i=>(kn i:Int)):=
  lT (g:=1) (t:=287) (e:=5) (m:=128) δ δ δ δ δ δ
   ((show Rows.laid_bulkhead_scan_classes=tabData .u8 ((List.range 128).map fun i=>(kn i:Int)) by kernel_rfl)▸l (n := "bulkhead/scan.classes") (d:=Rows.laid_bulkhead_scan_classes) (.tail _ (.tail _ (.tail _ (.tail _ (.tail _ (.tail _ (.tail _ (.tail _ (.tail _ (.head _)))))))))) δ)
 have q:TabIs Tryz.prog W "internal/strconv.uint64pow10" .u64 pow10Tab:=
  lT (g:=5) (t:=323) (e:=39) (m:=20) δ δ δ δ δ δ
   ((show Rows.laid_internal_strconv_uint64pow10=tabData .u64 pow10Tab by kernel_rfl)▸l (n := "internal/strconv.uint64pow10") (d:=Rows.laid_internal_strconv_uint64pow10) (.tail _ (.tail _ (.head _))) δ)
 have u:TabIs Tryz.prog W "strings.asciiSpace" .u8 asciiSpaceTab:=
  lT (g:=2) (t:=314) (e:=5) (m:=256) δ δ δ δ δ δ
   ((show Rows.laid_strings_asciiSpace=tabData .u8 asciiSpaceTab by kernel_rfl)▸l (n := "strings.asciiSpace") (d:=Rows.laid_strings_asciiSpace) (.tail _ (.tail _ (.tail _ (.tail _ (.tail _ (.tail _ (.tail _ (.tail _ (.head _))))))))) δ)
 have x:WhiteTab 7 W:=whiteTab_of_reads Tryz.lays199 ⟨δ,δ,δ,δ,δ,δ,δ,δ⟩
  ((show Rows.laid_unicode_White_Space=whiteData by kernel_rfl)▸l (n := "unicode.White_Space") (d:=Rows.laid_unicode_White_Space) (.tail _ (.tail _ (.tail _ (.tail _ (.tail _ (.tail _ (.tail _ (.head _)))))))) δ)
 have H:jp kn W:={
  QU:=fun i y=>by
   have:=p.cell (g:=1) δ i (by simpa using y);rw[this];simp[List.getD,y]
  space:=u
  white:=by
   obtain⟨T,Q,R,O,A,B,C,D,E⟩:=x;refine⟨(T,Q),(R,O),A,fun j v hv=>?_,E⟩
   match j,hv with
   | 0,hv=>obtain rfl:=Option.some.inj hv;exact B
   | 1,hv=>obtain rfl:=Option.some.inj hv;exact C
   | 2,hv=>obtain rfl:=Option.some.inj hv;exact D
   | j+3,hv=>simp at hv
  pow:=q
  max:=cell_of_shapedOpen_int (g:=6) (t:=3) (zero := #[.int .i64 0]) r (of_decide_eq_true δ) δ rfl δ δ Tryz.underlying3
  e3:=mY (g:=3) (t:=111) (ms:=_) δ δ (Tryz.underlying111) (l (n := "strconv.ErrSyntax") (d:=Rows.laid_strconv_ErrSyntax) (.tail _ (.tail _ (.tail _ (.tail _ (.tail _ (.tail _ (.head _))))))) δ)
  e4:=mY (g:=4) (t:=111) (ms:=_) δ δ (Tryz.underlying111) (l (n := "strconv.ErrRange") (d:=Rows.laid_strconv_ErrRange) (.tail _ (.tail _ (.tail _ (.tail _ (.tail _ (.head _)))))) δ) }
 have w:13<W.heap.size:=by
  obtain⟨o,_,N,_⟩:=r.2 13 (of_decide_eq_true δ) (of_decide_eq_true δ);exact(Array.getElem?_eq_some_iff.1 N).1
 exact⟨w,ww hh,fun w' I=>H.below I⟩
