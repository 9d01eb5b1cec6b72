import Derived.Lib.SmallJoins
import Derived.Lib.AppendIntMem
import Derived.Test.YthobcefghkeddaaGreatDoorReserved
set_option maxRecDepth 100000
set_option linter.all false
set_option maxHeartbeats 4000000
namespace Go.Proofs.YthobcefghkeddaaGreatDoor
section
open Go.RowKit Go.IntWalk Go.Lib
theorem xu(p:ByteArray)(v:p.size≤281474976710656)(w:World){e3 e4:Value}(x:w.cell? ⟨3,0,none⟩=some e3)(j:wG e3)(y:w.cell? ⟨4,0,none⟩=some e4)(l:wG e4):
 Calls Tryz.prog 147 #[.string p,.int .i64 10,.int .i64 64] w fun e w'=>∃(u:Nat) (g:Value),e=.returned (.tuple #[.int .u64 u,g])∧u<18446744073709551616 ∧
  ((g=.nilIface∧parseUintB 64 p.data.toList=.ok u)∨((∃N,g=.iface 314 (.pointer (some ⟨N,0,none⟩)))∧∀u,parseUintB 64 p.data.toList ≠ .ok u))∧Below w.heap.size w w':=by
 cases hu:parseUintB 64 p.data.toList with
 | ok u =>
  have d:u<18446744073709551616:=by have:=parseUintB_le hu;omega
  refine(Tryz.strconv_ParseUint_10_at64_ok p χ u hu w).mono ?_;rintro e w' ⟨rfl,h|h⟩
  ·exact⟨u,_,rfl,d,.inl ⟨rfl,rfl⟩,by rw[h];exact Below.refl _ _⟩
  ·exact⟨u,_,rfl,d,.inl ⟨rfl,rfl⟩,by rw[h];exact Go.Joins.below_bytesWorld _ _ _ _ (Γ _)⟩
 | range =>
  refine(Tryz.strconv_ParseUint_10_at64_range p v hu e4 w y l).mono ?_;rintro e w' ⟨N,rfl,_,_,q⟩;exact⟨18446744073709551615,_,rfl,χ,.inr ⟨⟨N,rfl⟩,ξ⟩,q⟩
 | _ =>
  refine(Any.strconv_ParseUint_10_at64_syntax Tryz.laysPu14 p v hu e3 w x j).mono ?_;rintro e w' ⟨N,rfl,_,_,q⟩;exact⟨0,_,rfl,χ,.inr ⟨⟨N,rfl⟩,ξ⟩,q⟩
open Go.Proofs Go.Sort
theorem tS(u:Nat)(d:u<18446744073709551616)(w:World)(l:Lib.TabIs Tryz.prog w "internal/strconv.uint64pow10" .u64 Lib.pow10Tab):
 Calls Tryz.prog 167 #[.int .u64 u,.int .i64 10] w fun e w'=>e=.returned (.string ⟨(Lib.decDigits u).toArray⟩)∧∃k os,w'=grow (w.drewN k) os:=by
 by_cases hs:u<100
 ·have I:=Tryz.internal_strconv_small u hs
  have O:IntKind.i64.wrap (u:Int)=(u:Int):=i64_in _ χ;have L:(u:Int)<100:=χ
  go_enter Tryz.func167,Tryz.ntmps167
  go_wp2_with (go_at_call 192;refine(I _).mono ?_;rintro e w' ⟨rfl,rfl⟩)
  go_ret
  exact⟨rfl,0, #[],by simp[World.drewN_zero]⟩
 ·have y:1≤u:=χ
  have L:¬ (u:Int)<100:=χ
  have H:Lib.nDigits u≤20:=by have:=Lib.numDigits_eq u y d;split at this<;>omega
  have x:Tryz.prog.arrayLen 318=24:=by simp[Program.arrayLen,Tryz.underlying318]
  have J:∀W,(Instr.sliceAt 318 (.pointer (some ⟨w.heap.size,0,none⟩)) none (some (.int .i64 (Lib.nDigits u:Int))) none).run Tryz.prog W=.ok (.slice (some ⟨w.heap.size,0,none⟩) (Lib.nDigits u) 24) W:=fun W=>by
   rw[run_sliceAt_array_h W 318 ⟨w.heap.size,0,none⟩ (by simp[Program.arrayLen,Program.elem,Tryz.underlying318]) .i64 (Lib.nDigits u:Int) χ (by rw[x];omega)];go_simp
   try omega
  have q:=Lib.holds_zero0 w 318 (Lib.nDigits u) χ;have g:=Tryz.internal_strconv_formatBase10 w.heap.size 0 24 u (Array.replicate (Lib.nDigits u) 0) (w.alloc (.cells Lib.zeros24 318)) q (by rw[Array.size_replicate];exact Lib.lt_pow_nDigits u) d (by rw[Array.size_replicate];omega);rw[Array.size_replicate]at g;have B:=hh q;have C:=hh (Tryz.internal_strconv_numDigits u y d _ (Lib.tabIs_alloc l (.cells Lib.zeros24 318)));clear q x l
  go_enter Tryz.func167,Tryz.ntmps167
  go_wp2_with (first
   | (go_at_call 193;refine C.out.mono ?_;rintro e w' ⟨rfl,rfl⟩))
  go_at_call 194
  refine g.mono ?_;rintro e w' ⟨rfl,k,Q,v,rfl,D⟩;have N:(convert 313 9 (.slice (some ⟨w.heap.size,0,none⟩) (Lib.nDigits u) 24)).run Tryz.prog ((putRow (fun(b:UInt8)=>Value.int .u8 (b.toNat:Int)) (w.alloc (.cells Lib.zeros24 318)) w.heap.size 0 v).drewN k)=.ok (.string ⟨(Lib.decDigits u).toArray⟩) ((putRow (fun(b:UInt8)=>Value.int .u8 (b.toNat:Int)) (w.alloc (.cells Lib.zeros24 318)) w.heap.size 0 v).drewN k):=by
   have h:=run_convert_bytes_back (P:=Tryz.prog) ((putRow (fun(b:UInt8)=>Value.int .u8 (b.toNat:Int)) (w.alloc (.cells Lib.zeros24 318)) w.heap.size 0 v).drewN k) 313 9 5 ⟨w.heap.size,0,none⟩ 24 (Lib.decDigits u) Tryz.underlying313 Tryz.underlying5 Tryz.underlying9 (fun j E=>by
    rw[Lib.row_is_numeral D j E,Lib.add_plain,World.cell?_drewN];exact cell?_putRow (fun(b:UInt8)=>Value.int .u8 (b.toNat:Int)) _ w.heap.size 0 _ v B.out (by rw[D.size,Array.size_replicate]) j (by rw[D.size];rw[Lib.decDigits_length]at E;exact E))
   rw[Lib.decDigits_length]at h;exact h
  go_wp2
  go_ret
  obtain⟨os,K⟩:=Lib.fin_at w (.cells Lib.zeros24 318) v k 0;exact⟨rfl,k,os,K⟩
theorem ov(u:Nat)(h:u<18446744073709551616)(w:World)(g:Lib.TabIs Tryz.prog w "internal/strconv.uint64pow10" .u64 Lib.pow10Tab):
 Calls Tryz.prog 148 #[.int .u64 u,.int .i64 10] w fun e w'=>e=.returned (.string ⟨(Lib.decDigits u).toArray⟩)∧∃k os,w'=grow (w.drewN k) os:=by
 have d:=tS u h w g
 generalize (Lib.decDigits u).toArray=ds at d⊢
 clear g
 go_enter Tryz.func148,Tryz.ntmps148
 go_wp2_with (go_at_call 167;refine d.mono ?_;rintro e w' ⟨rfl,k,os,rfl⟩)
 go_ret
 exact⟨rfl,k,os,rfl⟩
end
open Go.RowKit Go.IntWalk Go.Lib
def nZ(s:ByteArray):Nat:=(s.data[0]?.getD 0).toNat
noncomputable def eI(QT:Nat→Nat)(s:ByteArray):Bool:=decide (s.size<1)||decide (32<s.size) || !decide (il QT (nZ s)=4) || !decide (iO s=0)
noncomputable def gW(QT:Nat→Nat)(s:ByteArray):Bool := !eI QT s && !decide (0≤idxFunc (kr QT) true s)
theorem yL{QT:Nat→Nat}{s:ByteArray}{w:World}(hC:∀w',Below w.heap.size w w'→pa QT w')(hT:TabIs Tryz.prog w "strings.asciiSpace" IntKind.u8 asciiSpaceTab)(hW:WhiteTab 7 w):
 Calls Tryz.prog 146 #[.string s] w fun e w'=>e=.returned (.bool (gW QT s))∧Below w.heap.size w w':=by
 have j:=hh (rH (s:=s) hT hW);have a8:=hh (hC w (Below.refl _ _));have C:=hh (fun W (V:Below w.heap.size w W)=>Tryz.strings_ContainsFunc_runes 163 #[] (enters_of Tryz.func163 δ rfl) (kr QT) s W (fun W' x hx be=>(sE (hC W' (V.trans (be.mono V.size))) x hx).mono fun e w' h=>⟨h.1,0,h.2⟩));clear hT hW hC;refine bL Tryz.func146 Tryz.ntmps146 rfl ξ fun a bg bf y=>?_
 have h0:At a 0 (.string s):=y 0 _ rfl;clear y
 conv=>arg 2;whnf
 refine so (fun U X=>aE (fun i=>i==2) a U∧X=w) ?_ ?_
 ·obtain⟨T,d⟩:=a
  refine rl ?_;with_reducible refine st ?_;refine ln ?_
  refine⟨rfl,?_,rfl⟩;exact ag
 rintro U X ⟨N,rfl⟩;have a3:=N.size.trans bg;have a0:=N.defers.trans bf;have j0:=N.Q7 h0 rfl;refine wp_seq (wp_seq (Code.wp_only (R:=fun J Y=>aE (fun i=>rg 3 21 i) U J∧At J 21 (.bool (eI QT s))∧Below X.heap.size X Y) ?_ ?_))
 ·have bl:=aU
  by_cases b1:s.size<1
  ·have B:Hid (eI QT s=true):=hh (by simp[eI,b1])
   have bb:(s.size:Int)<1:=χ
   clear j C;obtain⟨T,d⟩:=U;refine rl ?_
   iterate 19 with_reducible refine st ?_
   with_reducible refine ln ?_
   refine⟨rfl,?_,?_,Below.refl _ _⟩
   ·exact ag
   ·rw[B.out]
    exact aq
  ·have bb:¬ (s.size:Int)<1:=χ
   by_cases b2:32<s.size
   ·have B:Hid (eI QT s=true):=hh (by simp[eI,b2])
    have bc:(32:Int)<(s.size:Int):=χ
    clear j C;obtain⟨T,d⟩:=U;refine rl ?_
    iterate 19 with_reducible refine st ?_
    with_reducible refine ln ?_
    refine⟨rfl,?_,?_,Below.refl _ _⟩
    ·exact ag
    ·rw[B.out]
     exact aq
   ·have bc:¬ (32:Int)<(s.size:Int):=χ
    have hp:0<s.size:=χ
    have hf:(s[0]'hp).toNat=nZ s:=by
     unfold nZ;rw[show s[0]'hp=s.data[0]'hp from rfl,Array.getElem?_eq_getElem hp];rfl
    have E:=qo a8.out (nZ s) (by rw[←hf];exact(s[0]'hp).toNat_lt);rw[←hf]at E;obtain⟨c,hc⟩:∃c,c=il QT (s[0]'hp).toNat:=⟨_,rfl⟩;rw[←hc]at E;rw[hf]at hc;have af:=hh E;have ad:=hh hc;clear E hc hf;obtain⟨T,d⟩:=U;refine rl ?_
    by_cases b3:c=4
    ·obtain⟨r,hr⟩:∃r,r=iO s:=⟨_,rfl⟩
     obtain⟨b4,g⟩:∃b,b=!decide (r=0):=⟨_,rfl⟩;have B:Hid (eI QT s=b4):=hh (by rw[g,hr];simp[eI,b1,b2,←ad.out,b3]);have e4:(r !=0)=b4:=by rw[g];exact CI _ _
     have l:=j;rw[←hr]at l;have a9:=hh l.out;have bd:((c:Int)!=4)=false:=by rw[b3];rfl
     subst b3;clear g hr j l
     iterate 11 with_reducible refine st ?_
     with_reducible refine Lz (fun K v=>?_)
     go_simp;refine af.out.mono ?_;rintro e Y ⟨rfl,rfl⟩;with_reducible refine v _ _ ?_;clear v K
     iterate 4 with_reducible refine st ?_
     with_reducible refine Lz (fun K v=>?_)
     go_simp;refine a9.out.mono ?_;rintro e w3 ⟨rfl,an⟩;have a7:=hh an;clear an;with_reducible refine v _ _ ?_;clear v K
     iterate 2 with_reducible refine st ?_
     with_reducible refine ln ?_
     refine⟨rfl,?_,?_,a7.out⟩
     ·exact ag
     ·rw[B.out]
      exact aq
    ·have B:Hid (eI QT s=true):=hh (by simp[eI,b1,b2,←ad.out,b3])
     have bd:((c:Int)!=4)=true:=η
     clear j C b3
     iterate 11 with_reducible refine st ?_
     with_reducible refine Lz (fun K v=>?_)
     go_simp;refine af.out.mono ?_;rintro e Y ⟨rfl,rfl⟩;with_reducible refine v _ _ ?_;clear v K
     iterate 7 with_reducible refine st ?_
     with_reducible refine ln ?_
     refine⟨rfl,?_,?_,Below.refl _ _⟩
     ·exact ag
     ·rw[B.out]
      exact aq
 rintro J Y ⟨O,a5,D⟩;have I:=O.size.trans a3;have H:=O.defers.trans a0;have l0:=O.Q7 j0 rfl;obtain⟨b,V⟩:∃b,b=eI QT s:=⟨_,rfl⟩;rw[←V]at a5;have B:=hh V;clear V;have al:=a5.eval χ
 cases b
 ·refine wp_cond_false al (wp_skip ?_)
  repeat with_reducible apply bK
  have Q:=C.out Y D;obtain⟨q,hq⟩:∃q,q=decide (0≤idxFunc (kr QT) true s):=⟨_,rfl⟩;rw[←hq]at Q;have HC:=hh Q;have HQ:=hh hq;have ac:=hh D;clear Q hq D;refine so (fun L Z=>aE (fun i=>i==2||i==22||i==23||i==24) J L∧At L 2 (.bool (!q))∧Below X.heap.size X Z) ?_ ?_
  ·obtain⟨T,d⟩:=J
   refine rl ?_;with_reducible refine st ?_;refine Lz (fun K v=>?_)
   go_simp;refine HC.out.mono ?_;rintro e Z ⟨rfl,g⟩;have a6:=hh g;clear g;with_reducible refine v _ _ ?_;clear v K
   iterate 2 with_reducible refine st ?_
   with_reducible refine ln ?_
   refine⟨rfl,ag,aq,ac.out.trans (a6.out.mono ac.out.size)⟩
  rintro L Z ⟨u,k2,g⟩;refine wp_ret ?_;refine br (t:=2) rfl k2 (by rw[u.size,I];decide) (u.defers.trans H) ⟨by unfold gW;rw[←B.out,←HQ.out];rfl,g⟩
 ·refine wp_cond_true al ?_
  refine so (fun L Z=>aE (fun i=>i==2) J L∧At L 2 (.bool false)∧Z=Y) ?_ ?_
  ·obtain⟨T,d⟩:=J
   refine rl ?_;with_reducible refine st ?_;refine ln ?_
   refine⟨rfl,ag,aq,rfl⟩
  rintro L Z ⟨u,k2,rfl⟩;refine wp_ret ?_
  repeat with_reducible apply bY
  refine br (t:=2) rfl k2 (by rw[u.size,I];decide) (u.defers.trans H) ⟨by unfold gW;rw[←B.out];rfl,D⟩
open Go.Sort
variable {QT:Nat→Nat} {w:World} {p s:ByteArray}
def ce(p:ByteArray):Bool:=match parseUintB 64 p.data.toList with
 | .ok u=>decide ((⟨(decDigits u).toArray⟩:ByteArray)=p)
 | _=>false
theorem sg(B:jm QT w)(Y:p.size≤281474976710656)(a:Act)(Z:a.tmps.size=41)(C:At a 5 (.string p))(Q:Exit→Act→World→Prop)
 (E:∀j w' (u:Nat) g,aE (fun i=>i==6||i==7||(rg 27 31 i)) a j→At j 6 (.int .u64 u)→At j 7 g→u<18446744073709551616→((g=.nilIface∧parseUintB 64 p.data.toList=.ok u)∨((∃N,g=.iface 314 (.pointer (some ⟨N,0,none⟩)))∧∀u,parseUintB 64 p.data.toList ≠ .ok u))→Below w.heap.size w w'→Q .normal j w'):
 (ax Tryz.f122 [1,1,1,0,1,0,0,1,1,0,0,1,0]).wp Tryz.prog Q a w:=by
 obtain⟨e3,v,l⟩:=B.e3;obtain⟨e4,x,q⟩:=B.e4;have L:=hh (xu p Y w v l x q);clear v x l q B
 conv=>arg 2;whnf
 refine Code.wp_only (R:=fun j w'=>aE (fun i=>i==6||i==7||(rg 27 31 i)) a j∧∃(u:Nat) (g:Value),At j 6 (.int .u64 u)∧At j 7 g∧u<18446744073709551616∧((g=.nilIface∧parseUintB 64 p.data.toList=.ok u)∨((∃N,g=.iface 314 (.pointer (some ⟨N,0,none⟩)))∧∀u,parseUintB 64 p.data.toList ≠ .ok u))∧Below w.heap.size w w') ?_ (fun U w4 ⟨V,u,g,W,v,x,C,X⟩=>E U w4 u g V W v x C X);clear E;obtain⟨T,d⟩:=a;refine rl ?_;with_reducible refine st ?_;refine Lz (fun K D=>?_)
 go_simp;refine L.out.mono ?_;rintro e w2 ⟨u,g,rfl,I,h,H⟩;have y:=hh h;have J:=hh H;have O:=hh I;clear h H I;with_reducible refine D _ _ ?_;clear D K
 iterate 5 with_reducible refine st ?_
 with_reducible refine ln ?_
 refine⟨rfl,ag,u,g,aq,aq,O.out,y.out,J.out⟩
theorem vF(I:jm QT w)(a:Act)(V:a.tmps.size=41)(h5:At a 5 (.string p)){u:Nat}{B:Value}(h6:At a 6 (.int .u64 u))(h7:At a 7 B)(W:u<18446744073709551616)(O:(B=.nilIface∧parseUintB 64 p.data.toList=.ok u)∨((∃N,B=.iface 314 (.pointer (some ⟨N,0,none⟩)))∧∀u,parseUintB 64 p.data.toList ≠ .ok u))(Q:Exit→Act→World→Prop)
 (H:∀g w',aE (fun i=>(rg 32 39 i)) a g→At g 39 (.bool (!ce p))→Below w.heap.size w w'→Q .normal g w'):
 (ax Tryz.f122 [1,1,1,0,1,0,0,1,1,0,0,1,1,0]).wp Tryz.prog Q a w:=by
 have v:=hh (ov u W w I.pow);clear I
 conv=>arg 2;whnf
 refine Code.wp_only (R:=fun g w'=>aE (fun i=>(rg 32 39 i)) a g∧At g 39 (.bool (!ce p))∧Below w.heap.size w w') ?_ (fun L w4 h=>H L w4 h.1 h.2.1 h.2.2);clear H;have X:=aU
 rcases O with⟨rfl,q⟩|⟨⟨N,rfl⟩,l⟩
 ·obtain⟨x,D⟩:∃x,x=(⟨(decDigits u).toArray⟩:ByteArray):=⟨_,rfl⟩
  obtain⟨b,C⟩:∃b,b=decide (x=p):=⟨_,rfl⟩;have y:Hid (ce p=b):=hh (by unfold ce;rw[q,C,D]);have Y:(x.toList==p.toList)=b:=by rw[C];exact bU _ _
  have Z:(x.toList !=p.toList)=!b:=by rw[←Y];rfl
  rw[←D]at v;clear D C q;obtain⟨T,d⟩:=a;refine rl ?_
  iterate 4 with_reducible refine st ?_
  with_reducible refine Lz (fun K E=>?_)
  go_simp;refine v.out.mono ?_;rintro e Z ⟨rfl,k,os,rfl⟩;have J:Hid (Below w.heap.size w (grow (w.drewN k) os)):=hh ⟨rfl,rfl,rfl,by show _≤(w.heap++os).size;simp,fun j U=>by show(w.heap++os)[j]?=_;exact Array.getElem?_append_left U⟩;with_reducible refine E _ _ ?_;clear E K
  iterate 3 with_reducible refine st ?_
  with_reducible refine ln ?_
  refine⟨rfl,?_,?_,?_⟩
  ·exact ag
  ·rw[y.out]
   exact aq
  ·exact J.out
 ·have y:Hid (ce p=false):=hh (by unfold ce;cases hq:parseUintB 64 p.data.toList with|ok u=>exact absurd hq (l u)|_=>rfl)
  clear l v;obtain⟨T,d⟩:=a;refine rl ?_
  iterate 8 with_reducible refine st ?_
  with_reducible refine ln ?_
  refine⟨rfl,?_,?_,?_⟩
  ·exact ag
  ·rw[y.out,Bool.not_false]
   exact aq
  ·exact Below.refl _ _
theorem xK(h:BI w):WhiteTab 7 w:=by
 obtain⟨p,q,g,d,j⟩:=h;exact⟨p.1,p.2,q.1,q.2,g,d 0 _ rfl,d 1 _ rfl,d 2 _ rfl,j⟩
def dot:ByteArray:=⟨#[46]⟩
def dM(s:ByteArray):List ByteArray:=splitB dot 0 (countB s dot) s
theorem mF(s:ByteArray):(dM s).length=countB s dot+1:=splitB_all dot ψ 0 _ s rfl
noncomputable def eF(QT:Nat→Nat)(s:ByteArray):Bool := !(decide (64<s.size) || !gW QT ((dM s).getD 0 ByteArray.empty))&&(dM s).tail.all ce
theorem se(H:s.size<4294967281){m:Int}(u:w.cell? ⟨6,0,none⟩=some (.int .i64 m))(a:Act)(I:a.tmps.size=41)(J:At a 0 (.string s))(Q:Exit→Act→World→Prop)
 (x:∀g,aE (fun i=>i==3||i==8||i==9) a g→At g 3 (.slice (some ⟨w.heap.size,0,none⟩) (dM s).length (dM s).length)→Q .normal g (w.alloc (.cells ((dM s).map Value.string).toArray 9))):
 (ax Tryz.f122 [1,0]).wp Tryz.prog Q a w:=by
 have l:=Tryz.strings_Split s dot m w H u ψ;rw[←mF]at l;have q:=hh l;clear l u
 conv=>arg 2;whnf
 refine Code.wp_only (R:=fun g w'=>aE (fun i=>i==3||i==8||i==9) a g∧At g 3 (.slice (some ⟨w.heap.size,0,none⟩) (dM s).length (dM s).length)∧w'=w.alloc (.cells ((dM s).map Value.string).toArray 9)) ?_ (fun C N h=>by obtain⟨D,E,rfl⟩:=h;exact x C D E);clear x;obtain⟨n,y⟩:∃n,n=(dM s).length:=⟨_,rfl⟩;rw[←y]at q⊢;clear y;obtain⟨T,d⟩:=a;refine rl ?_;with_reducible refine st ?_;refine Lz (fun K v=>?_)
 go_simp;refine(show Calls Tryz.prog 145 #[.string s,.string dot] w _ from q.out).mono ?_;rintro e L ⟨rfl,j⟩;have B:=hh j;clear j;with_reducible refine v _ _ ?_;clear v K;refine st ?_;refine ln ?_
 refine⟨rfl,ag,aq,B.out⟩
theorem vG(q:∀w',Below w.heap.size w w'→jm QT w')(a:Act)(N:a.tmps.size=41)(V:At a 0 (.string s)){Z n:Nat}(I:1≤n)(W:At a 3 (.slice (some ⟨Z,0,none⟩) n n))(X:w.cell? ⟨Z,0,none⟩=some (.string p))(Q:Exit→Act→World→Prop)
 (C:∀g w',aE (fun i=>rg 10 19 i) a g→At g 19 (.bool (decide (64<s.size) || !gW QT p))→Below w.heap.size w w'→Q .normal g w'):
 (ax Tryz.f122 [1,1,0,0]).wp Tryz.prog Q a w:=by
 have x:=hh (yL (s:=p) (fun w' H=>(q w' H).QT) (q w (Below.refl _ _)).space (xK (q w (Below.refl _ _)).white));clear q
 conv=>arg 2;whnf
 refine Code.wp_only (R:=fun g w'=>aE (fun i=>rg 10 19 i) a g∧At g 19 (.bool (decide (64<s.size) || !gW QT p))∧Below w.heap.size w w') ?_ (fun E U h=>C E U h.1 h.2.1 h.2.2);clear C;have O:=aU;obtain⟨l,D⟩:∃l,l=gW QT p:=⟨_,rfl⟩;rw[←D]at x⊢;clear D
 by_cases b1:64<s.size
 ·have u:Hid ((decide (64<s.size) || !l)=true):=hh (by simp[b1])
  have y:(64:Int)<(s.size:Int):=χ
  clear x;obtain⟨T,d⟩:=a;refine rl ?_
  iterate 10 with_reducible refine st ?_
  with_reducible refine ln ?_
  refine⟨rfl,?_,?_,Below.refl _ _⟩
  ·exact ag
  ·rw[u.out]
   exact aq
 ·have u:Hid ((decide (64<s.size) || !l)=!l):=hh (by simp[b1])
  have y:¬ (64:Int)<(s.size:Int):=χ
  have J:0<n:=I;have L:(0:Int)<(n:Int):=χ
  obtain⟨T,d⟩:=a;refine rl ?_
  iterate 7 with_reducible refine st ?_
  with_reducible refine Lz (fun K B=>?_)
  go_simp;refine x.out.mono ?_;rintro e Y ⟨rfl,j⟩;have v:=hh j;clear j;with_reducible refine B _ _ ?_;clear B K
  iterate 2 with_reducible refine st ?_
  with_reducible refine ln ?_
  refine⟨rfl,?_,?_,v.out⟩
  ·exact ag
  ·rw[u.out]
   exact aq
theorem vD(hS:∀w',Below w.heap.size w w'→jm QT w')(hs:s.size<4294967281)(al:∀p∈dM s,p.size≤281474976710656):
 Calls Tryz.prog 122 #[.string s] w fun e w'=>e=.returned (.bool (eF QT s))∧Below w.heap.size w w':=by
 obtain⟨m6,h6⟩:=(hS w (Below.refl _ _)).max;obtain⟨p0,l,bs⟩:∃p0 l,dM s=p0::l:=by
  cases h:dM s with
  | nil=>have:=mF s;rw[h]at this;simp at this
  | cons a b=>exact⟨a,b,rfl⟩
 have cm:l.length≤4294967296:=by have h1:=mF s;rw[bs,List.length_cons]at h1;have:=countB_le dot ψ s.size s (Γ _);omega
 refine bL Tryz.func122 Tryz.ntmps122 rfl ξ fun a cj ca E=>?_
 have h0:At a 0 (.string s):=E 0 _ rfl;clear E
 conv=>arg 2;whnf
 refine so (fun a1 D=>aE (fun i=>i==2) a a1∧D=w) ?_ ?_
 ·obtain⟨T,d⟩:=a
  refine rl ?_;with_reducible refine st ?_;refine ln ?_
  refine⟨rfl,?_,rfl⟩;exact ag
 rintro a1 D ⟨V,rfl⟩;have af:=V.size.trans cj;have j0:=V.Q7 h0 rfl;refine wp_seq (se hs h6 a1 af j0 _ (fun a2 W k3=>?_));rw[bs]at k3 al⊢;obtain⟨v,N⟩:∃x,x=D.alloc (.cells ((p0::l).map Value.string).toArray 9):=⟨_,rfl⟩;rw[←N];have hk:Kz D v:=by rw[N];exact(aD.refl _ _).alloc _
 have ac:Below D.heap.size D v:=hk.below (Γ _) (fun _ _ h=>h);have y:∀j p,(p0::l)[j]?=some p→v.cell? ⟨D.heap.size,j,none⟩=some (.string p):=fun j p hj=>by
  have cc:v.heap[D.heap.size]?=some (.cells ((p0::l).map Value.string).toArray 9):=by rw[N];exact Array.getElem?_push_size
  rw[cell_of_row _ _ _ _ _ _ cc,List.getElem?_toArray,List.getElem?_map,hj];rfl
 have bw:D.heap.size<v.heap.size:=by rw[N];simp
 obtain⟨Z,hZ⟩:∃z,z=D.heap.size:=⟨_,rfl⟩;rw[←hZ]at k3 y bw;clear hZ;have bm:∀w',Below v.heap.size v w'→jm QT w':=fun w' hb=>hS w' (ac.trans (hb.mono hk.size))
 have K:=W.size.trans af;have j0:=W.Q7 j0 rfl;refine wp_seq (wp_seq (vG bm a2 K j0 ξ k3 (y 0 p0 rfl) _ (fun a3 w3 X b1 bo=>?_)));have I:a3.defers=[]:=X.defers.trans (W.defers.trans (V.defers.trans ca));have an:=X.size.trans K;have be:=b1.eval χ;obtain⟨b,hb⟩:∃b,b=(decide (64<s.size) || !gW QT p0):=⟨_,rfl⟩;rw[←hb]at be;have bd:Hid (eF QT s=(!b&&l.all ce)):=hh (by unfold eF;rw[bs,hb];rfl);have b5:Below D.heap.size D w3:=ac.trans (bo.mono hk.size);clear hb b1 N
 cases b
 rotate_left
 ·refine wp_cond_true be ?_
  refine so (fun O w4=>At O 2 (.bool false)∧O.tmps.size=41∧O.defers=[]∧w4=w3) ?_ ?_
  ·obtain⟨T,d⟩:=a3
   refine rl ?_;with_reducible refine st ?_;refine ln ?_
   refine⟨rfl,?_,by simpa using an,I,rfl⟩;exact aq
  rintro O w4 ⟨k2,cf,b6,rfl⟩;refine wp_ret ?_
  repeat with_reducible apply bY
  exact br (t:=2) rfl k2 (by rw[cf];decide) b6 ⟨by rw[bd.out];rfl,b5⟩
 refine wp_cond_false be (wp_skip ?_)
 repeat with_reducible apply bK
 have k3:=X.Q7 k3 rfl;have cw:Z<w3.heap.size:=Θ bw bo.size;have q:∀w4,Below v.heap.size v w4→∀j p,l[j]?=some p→w4.cell? ⟨Z,1+j,none⟩=some (.string p):=fun w4 hb j p hj=>(hb.cell (p:=⟨Z,1+j,none⟩) bw).trans (y (1+j) p (by rw[Nat.add_comm];simpa using hj))
 clear X W V y h6;refine wp_seq (wp_seq (Code.wp_only (R:=fun O w4=>aE (fun i=>i==20||i==21||i==22||i==23) a3 O∧(∃o,At O 21 (.slice (some ⟨Z,o,none⟩) l.length l.length)∧(0<l.length→o=1))∧At O 22 (.int .i64 l.length)∧At O 23 (.int .i64 0)∧w4=w3) ?_ ?_))
 ·obtain⟨n,hn⟩:∃n,n=l.length:=⟨_,rfl⟩
  rw[←hn]at cm⊢;rw[List.length_cons,←hn]at k3;have cy:(1:Int)≤(n:Int)+1:=χ
  clear hn q;obtain⟨T,d⟩:=a3;refine rl ?_
  iterate 4 with_reducible refine st ?_
  with_reducible refine ln ?_
  refine⟨rfl,?_,⟨if n=0 then 0 else 1,?_,fun h=>if_neg χ⟩,?_,?_,rfl⟩
  ·exact ag
  ·have e:(Value.slice (if n=0 then some ⟨Z,0,none⟩else some ⟨Z,1,none⟩) n n)=.slice (some ⟨Z,if n=0 then 0 else 1,none⟩) n n:=by split<;>rfl
   rw[←e];exact At.ne (At.ne At.self ψ) ψ
  ·(repeat (first|with_reducible exact At.self|with_reducible apply At.ne));all_goals first|decide|exact At.self
  ·(repeat (first|with_reducible exact At.self|with_reducible apply At.ne));all_goals first|decide|exact At.self
 rintro O w4 ⟨bf,⟨o,cp,ho⟩,cs,cu,rfl⟩;have a0:=bf.size.trans an;refine bX l.length (fun i=>i==5||i==6||i==7||(rg 23 40 i)) (fun i=>i==5||i==6||i==7||(rg 25 39 i)) (fun k a' w'=>(l.take k).all ce=true∧Below v.heap.size v w') χ cu cs ψ rfl
  ζ χ ψ (fun k a1 a2 w hA hI=>hI) ⟨rfl,bo⟩ ?_ ?_
 ·rintro k a5 w5 cb B c3 ⟨g,C⟩
  obtain rfl:o=1:=ho χ;obtain⟨p,hp⟩:=ge cb;have q0:=q w5 C k p hp;have c4:=B.Q7 cp rfl;have L:=B.size.trans a0;have J:a5.defers=[]:=B.defers.trans (bf.defers.trans I);have cx:(k:Int)<(l.length:Int):=χ
  have cd:=al p (List.mem_cons_of_mem _ (γ hp));have HP:=hh hp;have bx:=hh g;clear hp g q;refine so (fun a6 w6=>aE (fun i=>i==5||i==25||i==26) a5 a6∧At a6 5 (.string p)∧w6=w5) ?_ ?_
  ·obtain⟨T,d⟩:=a5
   refine rl ?_
   iterate 3 with_reducible refine st ?_
   with_reducible refine ln ?_
   refine⟨rfl,ag,aq,rfl⟩
  rintro a6 w6 ⟨bg,b2,rfl⟩;have bb:=bg.size.trans L;refine wp_seq (sg (bm _ C) cd a6 bb b2 _ (fun a7 w7 u er Y k6 k7 hu hc b3=>?_));have H:Below v.heap.size v w7:=C.trans (b3.mono C.size);have bc:=Y.size.trans bb;refine wp_seq (vF (bm _ H) a7 bc (Y.Q7 b2 rfl) k6 k7 hu hc _ (fun a8 w8 bl cv b4=>?_));have ad:Below v.heap.size v w8:=H.trans (b4.mono H.size);have b0:=bl.size.trans bc;have bz:a8.defers=[]:=bl.defers.trans (Y.defers.trans (bg.defers.trans J));have U:=cv.eval χ
  cases hnu:ce p with
  | true =>
   rw[hnu]at U;refine wp_cond_false U (wp_skip ?_);refine⟨((bg.m).t Y).t bl,?_,ad⟩;rw[aO HP.out,List.all_append,bx.out];simp[hnu]
  | false =>
   rw[hnu]at U;refine wp_cond_true U ?_;refine so (fun Q w9=>At Q 2 (.bool false)∧Q.tmps.size=41∧Q.defers=[]∧w9=w8) ?_ ?_
   ·clear hnu
    obtain⟨T,d⟩:=a8;refine rl ?_;with_reducible refine st ?_;refine ln ?_
    refine⟨rfl,?_,by simpa using b0,bz,rfl⟩;exact aq
   rintro Q w9 ⟨k2,bt,bp,rfl⟩;refine wp_ret ?_
   repeat (first|with_reducible apply bQ|with_reducible apply bY)
   refine br (t:=2) rfl k2 (by rw[bt];decide) bp ⟨?_,ac.trans (ad.mono hk.size)⟩;have e:l.all ce=false:=by
    rw[Bool.eq_false_iff];intro h;have:=υ.1 h p (γ HP.out);rw[hnu]at this
    cases this
   rw[bd.out,e];rfl
 ·rintro a5 w5 B ⟨g,C⟩
  rw[List.take_length]at g;have L:=B.size.trans a0;have J:a5.defers=[]:=B.defers.trans (bf.defers.trans I)
  repeat with_reducible apply bK
  refine so (fun Q w9=>At Q 2 (.bool true)∧Q.tmps.size=41∧Q.defers=[]∧w9=w5) ?_ ?_
  ·obtain⟨T,d⟩:=a5
   refine rl ?_;with_reducible refine st ?_;refine ln ?_
   refine⟨rfl,?_,by simpa using L,J,rfl⟩;exact aq
  rintro Q w9 ⟨k2,bt,bp,rfl⟩;refine wp_ret ?_;exact br (t:=2) rfl k2 (by rw[bt];decide) bp ⟨by rw[bd.out,g];rfl,ac.trans (C.mono hk.size)⟩
theorem oO(g:ByteArray)(d:Nat):∀(k:Nat) (s:ByteArray),∀p∈splitB g d k s,p.size≤s.size
 | 0,s,p,h=>by
  have:p=s:=by simpa[splitB]using h
  rw[this];exact Γ _
 | k+1,s,p,h=>by
  unfold splitB at h;split at h
  ·have:p=s:=by simpa using h
   rw[this];exact Γ _
  ·rcases Ξ.1 h with h|h
   ·rw[h,ByteArray.size_extract];omega
   ·have:=oO g d k _ p h
    rw[ByteArray.size_extract]at this;omega
theorem uz{B:Nat}:fU B (eF jg):=by
 have j:∀w,iH B w→jm jg w:=fun w h=>h.scan w (Below.refl _ _)
 intro w s g d u;unfold aV at u;refine(vD (QT:=jg) (fun w' l=>j w' (g.below (l.mono d))) χ (fun p q=>?_)).mono fun e w' h=>⟨h.1,aD.of_below h.2 (fun i v x=>χ)⟩
 have:=oO dot 0 _ s p q;omega
