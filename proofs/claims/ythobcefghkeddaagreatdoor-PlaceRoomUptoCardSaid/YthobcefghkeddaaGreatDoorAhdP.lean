import Derived.Test.YthobcefghkeddaaGreatDoorLE1
import Derived.StillTailTactics
import Derived.Deep.CutRange
set_option maxRecDepth 100000
set_option linter.all false
set_option maxHeartbeats 4000000
namespace Go.Proofs.YthobcefghkeddaaGreatDoor
open Go.RowKit Go.IntWalk
theorem qA(M n:Nat)(A:Option Addr)(c:Nat)(xs:List Run)(w:World)(hM:1≤M)(hM2:M≤65536)(hxn:xs.length=n)(hn:n≤M)(hn0:0<n)
 (hb:∀r∈xs,1≤r.QS∧r.QS≤65536∧1≤r.per∧r.per≤65536)(hf:Edf.Fits n (Ln.nP xs) (Ln.nB xs))(hr:eJ w A xs):
 Calls Tryz.prog 142 #[.int .i64 M,.slice A n c] w fun e w'=>∃v,e=.returned v∧w'.ownsRow w.heap.size 278 3 v (Ln.edf xs M).length (aT (Ln.edf xs M))∧Below w.heap.size w w':=by
 obtain⟨b,off,rfl,hbl,hcs⟩:=hr χ;have hpb:∀i,i<n→1≤Ln.nP xs i∧1≤Ln.nB xs i:=fun i hi=>by
  have h1:=θ (l:=xs) (i:=i) χ;have h2:=hb _ (γ h1);rw[Ln.wV h1,Ln.wW h1];omega
 have hp:∀i,i<n→1≤Ln.nP xs i:=fun i hi=>(hpb i hi).1
 obtain⟨P,hP⟩:∃P,P=Ln.nP xs:=⟨_,rfl⟩;obtain⟨B,hB⟩:∃B,B=Ln.nB xs:=⟨_,rfl⟩;have hcell:∀i,i<n→∃s bd pd:_,Hid (Ln.nS xs i=s∧B i=bd∧P i=pd)∧1≤bd∧bd≤65536∧1≤pd∧pd≤65536∧w.cell? ⟨b,off+i*4+1,none⟩=some (.string s)∧w.cell? ⟨b,off+i*4+2,none⟩=some (.int .u64 bd)∧w.cell? ⟨b,off+i*4+3,none⟩=some (.int .u64 pd):=fun i hi=>by
  have h1:=θ (l:=xs) (i:=i) χ;obtain⟨b1,b2,b3,b4⟩:=hb _ (γ h1);obtain⟨_,q1,q2,q3⟩:=hcs i _ h1;refine⟨_,_,_,⟨Ln.EM h1,?_,?_⟩,b1,b2,b3,b4,q1,q2,q3⟩
  ·rw[hB,Ln.wW h1]
  ·rw[hP,Ln.wV h1]
 rw[←hP,←hB]at hf hpb;rw[←hP]at hp;obtain⟨R,hR⟩:∃R,R=Ln.edf xs:=⟨_,rfl⟩;have hR0:R 0=[]:=by rw[hR];rfl
 have hRm:∀t c o,(∀s,s<c→Edf.who n P B (t+s)=o)→0<c→R (t+c)=Ln.run (R t) (Edf.nameOf (Ln.nS xs) o) (c:Int):=fun t c o h1 h2=>by
  rw[hR,Ln.edf,Ln.edf,hxn];rw[hP,hB]at h1;exact Edf.rows_more h1 h2
 have hRu:∀t:Nat,Ln.nO t (R t)∧(R t).length≤t:=fun t=>by
  have:=Ln.np (Edf.QV xs.length (Ln.nP xs) (Ln.nB xs) (Ln.nS xs) t) (Ln.nr (0:Nat));rw[Edf.ticks_length]at this;rw[hR];unfold Ln.edf
  simpa using this
 rw[←hR];clear hr hcs hb hxn hP hB hR;have HCell:=ν hcell;have HF:=ν hf;have HPB:=ν hpb;have HP:=ν hp;have HR0:=ν hR0;have HRm:=ν hRm;have HRu:=ν hRu;clear hcell hf hpb hp hR0 hRm hRu
 go_enter Tryz.func142,Tryz.ntmps142
 go_wp2
 obtain⟨p,hp⟩:∃p,p=w.heap.size:=⟨_,rfl⟩;obtain⟨gw,hgw⟩:∃gw,gw=p+1:=⟨_,rfl⟩;obtain⟨PW,hPW⟩:∃PW,PW=p+1+1:=⟨_,rfl⟩;obtain⟨gn,hgn⟩:∃gn,gn=p+1+1+1:=⟨_,rfl⟩;obtain⟨PN,hPN⟩:∃PN,PN=p+1+1+1+1:=⟨_,rfl⟩;rw[←hp,←hPN,←hgn,←hPW,←hgw];obtain⟨wo,hwo⟩:∃wo,wo=(((((w.alloc (Obj.cells #[Value.slice none 0 0] 252)).alloc (Obj.cells #[] 272)).alloc (Obj.cells #[Value.slice (some ⟨gw,0,none⟩) 0 0] 269)).alloc (Obj.cells #[] 272)).alloc (Obj.cells #[Value.slice (some ⟨gn,0,none⟩) 0 0] 269)):=⟨_,rfl⟩;rw[←hwo];have hst:=ESt.start w p PW PN gw gn wo hp hgw hPW hgn hPN hwo;have HSt:=ν hst;have hbz:b<w.heap.size:=hbl;clear hst hwo hgw hPW hgn hPN hp hbl
 go_loopg [21] n (fun k i wr=>∃(j:Nat) (vn:Value) (nl:List Job),i=.int .i64 j∧k+j=n∧Hid (ESt w.heap.size w wr p PW PN (.slice none 0 0) (.slice (some ⟨gw,0,none⟩) 0 0) vn [] [] nl)∧Hid (nl.Perm (Edf.nextOf (fun _=>0) j))∧Hid (Ln.bE nl nl.length))
 case atStart=>exact⟨0,_,[],rfl,rfl,HSt.out,List.Perm.refl _,fun k x y _ h1=>by simp at h1⟩
 case round =>
  obtain⟨j,vn,nl,rfl,hkj,HE,HPm,HH⟩:=hrel;have hnl:nl.length=j:=by rw[HPm.out.length_eq,Edf.nextOf_length]
  have HNL:=ν hnl;have hnl2:nl.length≤900000000:=χ
  have hjb:j≤n:=χ
  have HKJ:=ν hkj;clear hnl hkj
  by_cases hlt:j<n
  ·go_wp2_with fail
   refine(sO wr PN vn nl ⟨j,0,0⟩ hnl2 HE.out.next HH.out).mono ?_;rintro e w1 ⟨rfl,v',l',hp',hh',hat',hk',ho'⟩;have he:=HE.out.onNext HE.out.size hk' hat' ho';have HE':=ν he;have HPm':=ν hp';have HH':=ν hh';clear hp' hh' hat' hk' ho' he
   go_wp2
   go_roundg (n-(j+1))
   case measure=>have:=HKJ.out;omega
   case rel=>exact⟨j+1,v',l',by go_num,χ,HE'.out,HPm'.out.trans ((HPm.out.append_right _)),HH'.out⟩
  ·have hjn:n=j:=χ
   have hat:=HE.out.next
   subst hjn;have hnl3:nl.length=n:=HNL.out;obtain⟨t0,ht0⟩:∃t0:Nat,t0=0:=⟨_,rfl⟩;have Ht0:=ν ht0;clear hlt hat hnl2 hnl3 ht0
   go_wp2
   go_loopg [9] M (fun k i wr=>∃(t:Nat) (rv vw vn:Value) (wl nl:List Job),i=.int .i64 t∧k+t=M∧Hid (ESt w.heap.size w wr p PW PN rv vw vn (R t) wl nl)∧Hid (Edf.HeadInv n P B t wl nl)∧Hid (Ln.bE wl wl.length)∧Hid (Ln.bE nl nl.length))
   case atStart =>
    refine⟨0,.slice none 0 0,.slice (some ⟨gw,0,none⟩) 0 0,vn,[],nl,rfl,rfl,?_,Edf.headInv_zero rfl HPm.out,fun k x y _ h1=>by simp at h1,HH.out⟩;rw[HR0.out];exact HE.out
   case round =>
    clear HE HPm HH HKJ HNL;obtain⟨t,rv,vw,vn,wl,nl,rfl,hkt,HE,HI,HW,HN⟩:=hrel;have HKT:=ν hkt;have htM:t≤M:=χ
    clear hkt
    by_cases hlt:t<M
    ·go_wp2
     go_loopg [] (Edf.todo n t (Edf.nx P t)) (fun k wr=>∃(L N:Nat→Nat) (vw vn:Value) (wl nl:List Job),Hid (k=Edf.todo n t N)∧Hid (ESt w.heap.size w wr p PW PN rv vw vn (R t) wl nl)∧Hid (Edf.RelInv n P B t L N wl nl)∧Hid (Ln.bE wl wl.length)∧Hid (Ln.bE nl nl.length))
     case atStart=>exact⟨_,_,vw,vn,wl,nl,rfl,HE.out,HI.out.rel HF.out HP.out,HW.out,HN.out⟩
     case round =>
      clear HE HI HW HN vw vn wl nl;obtain⟨L,N,vw,vn,wl,nl,HK,HE,HI,HW,HN⟩:=hrel;have hnl:nl.length=n:=by rw[HI.out.next.length_eq,Edf.nextOf_length]
      obtain⟨r,hr⟩:∃r,nl[0]?=some r:=⟨_,θ χ⟩;obtain⟨gx,cx,hvn,hox,hgx⟩:=HE.out.next.form χ
      rw[hnl]at hvn;subst hvn;have hcn:=HE.out.next.var.cell
      obtain⟨d0,d1,d2⟩:=HE.out.next.root hnl hr
      have HNL:=ν hnl;have HR:=ν hr;clear hnl hox hr
      by_cases hd:r.due=t
      ·obtain⟨k,hk,hrk,hstep⟩:=HI.out.step HPB.out HN.out HR.out hd
       obtain⟨k0,_,hr0,_⟩:=Edf.next_root HI.out.next HN.out HR.out
       have hr1:r=⟨k,t,0⟩:=by
        obtain⟨a,b,c⟩:=r;simp only at hd hrk
        injection hr0 with h1 h2 h3
        rw[hd,hrk,h3]
       obtain⟨s,bd,pd,HC,b1,b2,b3,b4,q1,q2,q3⟩:=HCell.out k hk;subst hr1;have HStep:=ν hstep;have hki:(k:Int)<n:=χ
       clear hstep hr0 hrk hd;simp only at d0 d1 d2;rw[←HE.out.below.cell (p:=⟨b,_,none⟩) hbz]at q1 q2 q3;have hbq:b<wr.heap.size:=by have:=HE.out.size;omega
       go_wp2_with fail
       refine(em wr (some ⟨gx,0,none⟩) n cx).mono ?_;rintro e w1 ⟨rfl,rfl⟩
       go_wp2_with fail
       obtain⟨px,hpx⟩:∃px,px=wr.heap.size:=⟨_,rfl⟩;obtain⟨wx,hwx⟩:∃wx,wx=wr.alloc (Obj.cells #[Value.int IntKind.i64 ↑k,Value.int IntKind.i64 ↑t,Value.int IntKind.i64 0] 272):=⟨_,rfl⟩;rw[←hwx,←hpx];have hex:ESt w.heap.size w wx p PW PN rv vw (.slice (some ⟨gx,0,none⟩) n cx) (R t) wl nl:=by rw[hwx];exact HE.out.alloc HE.out.size _
       have x0:wx.cell? ⟨px,0,none⟩=some (.int .i64 k):=by rw[hwx,World.cell?_alloc_at _ _ _ _ (by rw[hpx])];rfl
       have hbq2:b<wx.heap.size:=by have:=hex.size;omega
       have q2':wx.cell? ⟨b,off+k*4+2,none⟩=some (.int .u64 bd):=by rw[hwx,World.cell?_alloc_past _ _ _ hbq];exact q2
       have HEx:=ν hex;clear hex d0 d1 d2 hcn hwx hpx q1 q2 q3 hbq
       go_still_tail 16,δ
       change wpList _ _ _ _ _ wx.drew
       obtain⟨wy,hwy⟩:∃wy,wy=wx.drew:=⟨_,rfl⟩;have hey:ESt w.heap.size w wy p PW PN rv vw (.slice (some ⟨gx,0,none⟩) n cx) (R t) wl nl:=by rw[hwy];exact HEx.out.keepN HEx.out.size ((aD.refl _ _).drew)
       rw[←hwy];have HEy:=ν hey;have hwl:wl.length≤900000000:=by
        have h1:=HI.out.wait.length_eq;have h2:=Edf.jobsOf_length L (Edf.due P t) n;omega
       clear hwy x0 q2' hey
       go_wp2_with fail
       refine(sO wy PW vw wl ⟨k,(t:Int)+pd,bd⟩ hwl HEy.out.wait HW.out).mono ?_;rintro e w3 ⟨rfl,vw',wl',hpw,hhw,hat3,hk3,ho3⟩;have he3:=HEy.out.onWait HEy.out.size hk3 hat3 ho3;have hcn:=he3.next.var.cell
       obtain⟨d0,d1,d2⟩:=he3.next.root HNL.out HR.out
       have hf3:w3.frozen? ⟨gx,1,none⟩=false:=by have h:=he3.next.own;rw[HNL.out]at h;exact h.frozenAt 1
       obtain⟨hset,hkset⟩:=he3.next.set_cell HR.out HNL.out.symm (i:=1) (d:=(t:Int)+pd) (r':=⟨k,(t:Int)+pd,0⟩) (.inl ⟨rfl,rfl⟩)
       obtain⟨w4,hw4⟩:∃w4,w4=w3.setCell ⟨gx,1,none⟩ (.int .i64 ((t:Int)+pd)):=⟨_,rfl⟩;rw[←hw4]at hset hkset;have he4:=he3.onNext he3.size (hkset.mono (T:=fun k=>k=PN∨(Value.slice (some ⟨gx,0,none⟩) n cx).ownBlock=some k) (fun i _ h =>.inr (by rw[h];rfl))) hset (.inl rfl);have HE4:=ν he4;have HPW:=ν hpw;have HHW:=ν hhw;have HSet:=ν hset;simp only at d1;clear hset hkset he4 he3 hat3 hk3 ho3 hpw hhw d0 d2
       go_wp2_with fail
       rw[←hw4];clear hw4 hcn d1 hf3;have hls:(nl.set 0 ⟨k,(t:Int)+pd,0⟩).length=n:=by rw[List.length_set,HNL.out]
       have hun:=Edf.heap_set_under (r':=⟨k,(t:Int)+pd,0⟩) HN.out;rw[HNL.out]at hun;refine(CK w4 PN gx cx n (nl.set 0 ⟨k,(t:Int)+pd,0⟩) hls χ χ HSet.out hun).mono ?_;rintro e w5 ⟨rfl,nl',hpn,hhn,hat5,hk5⟩;have he5:=HE4.out.onNext HE4.out.size (hk5.mono (T:=fun k=>k=PN∨(Value.slice (some ⟨gx,0,none⟩) n cx).ownBlock=some k) (fun i _ h =>.inr (by rw[h];rfl))) hat5 (.inl rfl);obtain⟨hc1,hc2,hc3⟩:=HC.out;have hfin:=HStep.out wl' nl' (by rw[hc2,hc3];have h:=HPW.out;simpa using h) (by rw[hc3];simpa using hpn);have HFin:=ν hfin;have HE5:=ν he5;have HHN:=ν hhn;clear hfin he5 hhn hpn hat5 hk5 hc1 hc2 hc3 hls hun
       go_wp2
       go_roundg (Edf.todo n t (Edf.set1 N k (t+P k)))
       case measure=>rw[HK.out];exact HFin.out.2
       case rel=>exact⟨_,_,vw',_,wl',nl',rfl,HE5.out,HFin.out.1,HHW.out,HHN.out⟩
      ·have haf:=HI.out.after HP.out HN.out (fun r' hr'=>by have h:=HR.out;rw[h]at hr';injection hr' with hr';rw[←hr'];exact hd)
       obtain⟨u,hu1,hu2,hu3⟩:=haf.until HP.out HN.out HR.out;rw[hu1]at d1;have hbf:((u:Int)==(t:Int))=false:=η
       obtain⟨Aw,cw,hvw⟩:=HE.out.wait.slice;obtain⟨m,hm⟩:∃m,m=wl.length:=⟨_,rfl⟩;rw[←hm]at hvw;subst hvw;have hcw:=HE.out.wait.var.cell;have HAF:=ν haf;have HU3:=ν hu3;have Hm:=ν hm;clear haf hu3 hm hu1 hd d0 d2 HI;have HR:Hid True:=trivial
       go_wp2_with fail
       refine(em wr (some ⟨gx,0,none⟩) n cx).mono ?_;rintro e w1 ⟨rfl,rfl⟩
       go_wp2_with fail
       refine(em wr (some ⟨gx,0,none⟩) n cx).mono ?_;rintro e w1 ⟨rfl,rfl⟩
       go_upto_region 19 with fail
       go_cut [12] from 31 to 155 (fun v wx=>∃U:Nat,v=.int .i64 U∧U≤M∧U≤u∧t<U∧wx=wr)
       case first =>
        go_wp2_with fail
        all_goals go_meet
        ·exact⟨u,rfl,χ,χ,χ,rfl⟩
        ·exact⟨M,rfl,χ,χ,χ,rfl⟩
       case rest =>
       obtain⟨U,rfl,hU1,hU2,hU3,rfl⟩:=hcut;clear d1 hcn hbf
       go_wp2_with fail
       refine(em _ Aw m cw).mono ?_;rintro e w1 ⟨rfl,rfl⟩
       by_cases hm0:m=0
       ·subst hm0
        have hUt:(U:Int)-t=((U-t:Nat):Int):=χ
        obtain⟨hwho,hhead⟩:=HAF.out.idle HF.out HP.out Hm.out.symm (c:=U-t) χ (fun i hi=>by have:=HU3.out i hi;omega);have hru:=HRm.out t (U-t) none hwho χ;have e2:t+(U-t)=U:=χ
        rw[e2]at hhead hru;obtain⟨up1,up2⟩:=HRu.out t;have hl2:(R t).length≤1000000000:=χ
        have HUp:=ν up1;have HHead:=ν hhead;have HRun:=ν hru;have HUt:=ν hUt;clear hUt hwho hhead hru e2 up1 up2
        go_wp2_with fail
        refine(kv wc p (p+1) rv (R t) ByteArray.empty ((U:Int)-t) ⟨χ,χ⟩ (fun x hx=>by have:=HUp.out x hx;omega) hl2 HE.out.vp χ (by have:=HE.out.vp.lt;omega) HE.out.row).mono ?_;rintro e w2 ⟨rfl,rv',hv',hown',hk'⟩;have he2:=HE.out.onRow HE.out.size hk' hv' hown';rw[HUt.out]at he2;have hrr:Ln.run (R t) ByteArray.empty ((U-t:Nat):Int)=R U:=HRun.out.symm;rw[hrr]at he2;have HE2:=ν he2;clear hv' hown' hk' he2 hrr
        go_wp2
        go_roundg (M-U)
        case measure=>have:=HKT.out;omega
        case rel=>exact⟨U,rv',_,_,wl,nl,rfl,χ,HE2.out,HHead.out,HW.out,HN.out⟩
       ·obtain⟨x,hx⟩:∃x,wl[0]?=some x:=⟨_,θ (by have:=Hm.out;omega)⟩
        obtain⟨k,l,hk,hl,hlb,hxe,hall⟩:=HAF.out.busy HF.out HP.out HW.out hx;obtain⟨gy,cy,hvy,hoy,hgy⟩:=HE.out.wait.form (by have:=Hm.out;omega)
        injection hvy with hA hmm hcc
        subst hA;subst hcc;obtain⟨d0,d1,d2⟩:=HE.out.wait.root Hm.out.symm hx;rw[hxe]at d0 d1 d2;simp only at d0 d1 d2;obtain⟨s,bd,pd,HC,_,_,_,_,q1,_,_⟩:=HCell.out k hk;rw[HC.out.2.1]at hlb;rw[←HE.out.below.cell (p:=⟨b,_,none⟩) hbz]at q1;have hbq:b<wc.heap.size:=by have:=HE.out.size;omega
        have hm1:(0:Int)<m:=χ
        have hki:(k:Int)<n:=χ
        obtain⟨dk,hdk⟩:∃dk:Nat,dk=Edf.due P t k:=⟨_,rfl⟩;rw[←hdk]at hxe hall;have HAll:=ν hall;have HX:Hid (wl[0]?=some ⟨k,dk,l⟩):=by rw[hx,hxe];rfl
        clear hall hx hxe hdk hoy hmm d1 hm0
        go_upto_region 24 with fail
        go_cut [14] from 31 to 155 (fun v wx=>∃cc:Nat,v=.int .i64 cc∧1≤cc∧cc≤l∧t+cc≤U∧wx=wc)
        case first =>
         go_wp2_with fail
         all_goals go_meet
         ·exact⟨U-t,by go_num,χ,χ,χ,rfl⟩
         ·exact⟨l,rfl,χ,χ,χ,rfl⟩
        case rest =>
        obtain⟨cc,rfl,hc1,hc2,hc3,rfl⟩:=hcut;obtain⟨hwho,hless,heq⟩:=HAll.out cc hc1 hc2 (fun i hi=>by have:=HU3.out i hi;omega);have hru:=HRm.out t cc (some k) hwho χ;obtain⟨up1,up2⟩:=HRu.out t;have hl2:(R t).length≤1000000000:=χ
        have HUp:=ν up1;have HLess:=ν hless;have HEq:=ν heq;have HRun:=ν hru;clear hwho hless heq hru up1 up2 d2
        go_wp2_with fail
        refine(kv wc p (p+1) rv (R t) s cc ⟨χ,χ⟩ (fun x hx=>by have:=HUp.out x hx;omega) hl2 HE.out.vp χ (by have:=HE.out.vp.lt;omega) HE.out.row).mono ?_;rintro e w2 ⟨rfl,rv',hv',hown',hk'⟩;have he2:=HE.out.onRow HE.out.size hk' hv' hown';have hrr:Ln.run (R t) s (cc:Int)=R (t+cc):=by rw[HRun.out,←HC.out.1];rfl
        rw[hrr]at he2;have hcw2:=he2.wait.var.cell;obtain⟨d0',d1',d2'⟩:=he2.wait.root Hm.out.symm HX.out;simp only at d0' d1' d2';have hf2:w2.frozen? ⟨gy,2,none⟩=false:=by have h:=he2.wait.own;rw[←Hm.out]at h;exact h.frozenAt 2
        obtain⟨hset,hkset⟩:=he2.wait.set_cell HX.out Hm.out (i:=2) (d:=(l:Int)-cc) (r':=⟨k,dk,(l:Int)-cc⟩) (.inr ⟨rfl,rfl⟩);obtain⟨wz,hwz⟩:∃wz,wz=w2.setCell ⟨gy,2,none⟩ (.int .i64 ((l:Int)-cc)):=⟨_,rfl⟩;rw[←hwz]at hset hkset;have hez:=he2.onWait he2.size (hkset.mono (T:=fun k=>k=PW∨(Value.slice (some ⟨gy,0,none⟩) m cw).ownBlock=some k) (fun i _ h =>.inr (by rw[h];rfl))) hset (.inl rfl);have hwlen:(wl.set 0 ⟨k,dk,(l:Int)-cc⟩).length=m:=by rw[List.length_set];exact Hm.out.symm
        have hroot:(wl.set 0 ⟨k,dk,(l:Int)-cc⟩)[0]?=some ⟨k,dk,(l:Int)-cc⟩:=by rw[List.getElem?_set_self];have:=Hm.out;omega
        obtain⟨_,_,z2⟩:=hset.root hwlen hroot;simp only at z2;have hheap:=Edf.heap_set_same (c:=(l:Int)-cc) HW.out HX.out;simp only at hheap;have HEz:=ν hez;have HSet:=ν hset;have HLen:=ν hwlen;have HRoot:=ν hroot;have HHeap:=ν hheap;clear hset hkset hez he2 hv' hown' hk' hrr hwlen hroot hheap d0' d1' q1
        go_upto_region 28 with fail
        rw[←hwz];clear hwz hcw2 d2' hf2
        by_cases hcl:cc<l
        ·have hz:((l:Int)-cc==0)=false:=η
         go_wp2
         go_roundg (M-(t+cc))
         case measure=>have:=HKT.out;omega
         case rel=>exact⟨t+cc,rv',_,_,wl.set 0 ⟨k,dk,(l:Int)-cc⟩,nl,by go_num,χ,HEz.out,HLess.out hcl,by rw[HLen.out,Hm.out];exact HHeap.out,HN.out⟩
        ·have hcl2:l=cc:=χ
         have hz:((l:Int)-cc==0)=true:=η
         have hl0:(l:Int)-cc=0:=χ
         obtain⟨m',hm'⟩:∃m',m=m'+1:=⟨m-1,χ⟩;have HL0:=ν hl0;have HM':=ν hm';have hmle:m≤900000000:=by
          have h1:=HAF.out.wait.length_eq;have h2:=Edf.jobsOf_length (Edf.rel P B t (Edf.st n P B t)) (Edf.due P t) n;have h3:=Hm.out;omega
         have hheap2:=HHeap.out;rw[←Hm.out]at hheap2;have HH2:=ν hheap2;have HCL:=ν hcl2;clear hl0 hm' hheap2 hcl2
         go_wp2_with fail
         refine(Bq wz PW gy cw m m' (wl.set 0 ⟨k,dk,(l:Int)-cc⟩) ⟨k,dk,(l:Int)-cc⟩ HLen.out HM'.out hmle HRoot.out HSet.out HH2.out).mono ?_;rintro e w3 ⟨rfl,vw',wl',hpw,hhw,hat3,hk3,ho3⟩;have he3:=HEz.out.onWait HEz.out.size (hk3.mono (T:=fun k=>k=PW∨(Value.slice (some ⟨gy,0,none⟩) m cw).ownBlock=some k) (fun i _ h=>by rcases h with h|h;exact .inl h;exact .inr (by rw[h];rfl))) hat3 (.inl (by rw[ho3];rfl));have HE3:=ν he3;have HPW:=ν hpw;have HHW:=ν hhw;clear he3 hpw hhw hat3 hk3 ho3
         go_wp2
         go_roundg (M-(t+cc))
         case measure=>have:=HKT.out;omega
         case rel=>exact⟨t+cc,rv',vw',_,wl',nl,by go_num,χ,HE3.out,HEq.out HCL.out.symm wl' (by have h:=HPW.out;rw[HL0.out]at h;exact h),HHW.out,HN.out⟩
    ·have htm:t=M:=χ
     have Htm:=ν htm;have hcp:=HE.out.vp.cell;clear htm
     go_wp2
     go_ret
     refine⟨rv,rfl,?_,HE.out.below⟩;rw[←Htm.out];exact lD HE.out.row (by have:=HE.out.QZ;omega)
theorem Ln.edf_none{M:Nat}(d:0<M):Ln.edf [] M=Ln.run [] ByteArray.empty M:=by
 have h:=Edf.rows_more (n:=0) (p:=Ln.nP []) (b:=Ln.nB []) (sub:=Ln.nS []) (t:=0) (c:=M) (o:=none) (fun s _=>rfl) d;rw[Nat.zero_add]at h;exact h
theorem qB(M:Nat)(A:Option Addr)(c:Nat)(w:World)(hM:1≤M)(hM2:M≤65536):
 Calls Tryz.prog 142 #[.int .i64 M,.slice A 0 c] w fun e w'=>∃v,e=.returned v∧w'.ownsRow w.heap.size 278 3 v (Ln.edf [] M).length (aT (Ln.edf [] M))∧Below w.heap.size w w':=by
 rw[Ln.edf_none χ];obtain⟨rows1,hrows1⟩:∃x,x=Ln.run [] ByteArray.empty M:=⟨_,rfl⟩;rw[←hrows1];have HRows:=ν hrows1;clear hrows1
 go_enter Tryz.func142,Tryz.ntmps142
 go_wp2
 obtain⟨p,hp⟩:∃p,p=w.heap.size:=⟨_,rfl⟩;obtain⟨gw,hgw⟩:∃gw,gw=p+1:=⟨_,rfl⟩;obtain⟨PW,hPW⟩:∃PW,PW=p+1+1:=⟨_,rfl⟩;obtain⟨gn,hgn⟩:∃gn,gn=p+1+1+1:=⟨_,rfl⟩;obtain⟨PN,hPN⟩:∃PN,PN=p+1+1+1+1:=⟨_,rfl⟩;rw[←hp,←hPN,←hgn,←hPW,←hgw];obtain⟨wo,hwo⟩:∃wo,wo=(((((w.alloc (Obj.cells #[Value.slice none 0 0] 252)).alloc (Obj.cells #[] 272)).alloc (Obj.cells #[Value.slice (some ⟨gw,0,none⟩) 0 0] 269)).alloc (Obj.cells #[] 272)).alloc (Obj.cells #[Value.slice (some ⟨gn,0,none⟩) 0 0] 269)):=⟨_,rfl⟩;rw[←hwo];have hst:=ESt.start w p PW PN gw gn wo hp hgw hPW hgn hPN hwo;have HSt:=ν hst;clear hst hwo hgw hPW hgn hPN hp
 go_loopg [21] 0 (fun k i wr=>i=.int .i64 0∧wr=wo)
 case atStart=>exact⟨rfl,rfl⟩
 case round =>
  obtain⟨rfl,rfl⟩:=hrel
  go_wp2
  go_loopg [9] M (fun k i wr=>∃(t:Nat) (rv:Value) (rows:List aw),i=.int .i64 t∧k+t=M∧Hid (ESt w.heap.size w wr p PW PN rv (.slice (some ⟨gw,0,none⟩) 0 0) (.slice (some ⟨gn,0,none⟩) 0 0) rows [] [])∧(t=0∧rows=[]∨t=M∧Hid (rows=rows1)))
  case atStart=>exact⟨0,.slice none 0 0,[],rfl,rfl,HSt.out,.inl ⟨rfl,rfl⟩⟩
  case round =>
   obtain⟨t,rv,rows,rfl,hkt,HE,hor⟩:=hrel;have HKT:=ν hkt;clear hkt
   rcases hor with⟨ht,hrw⟩|⟨ht,HRw⟩
   ·subst ht
    subst hrw;have hlt:0<M:=χ
    have hcw:=HE.out.wait.var.cell;have hcn:=HE.out.next.var.cell
    go_wp2
    go_loopg [] 0 (fun k wq=>wq=wr)
    case atStart=>rfl
    case round =>
     obtain rfl:=hrel
     go_wp2_with fail
     refine(em _ (some ⟨gn,0,none⟩) 0 0).mono ?_;rintro e w1 ⟨rfl,rfl⟩
     go_wp2_with fail
     refine(em _ (some ⟨gn,0,none⟩) 0 0).mono ?_;rintro e w1 ⟨rfl,rfl⟩
     go_wp2_with fail
     refine(em _ (some ⟨gw,0,none⟩) 0 0).mono ?_;rintro e w1 ⟨rfl,rfl⟩
     go_wp2_with fail
     refine(kv _ p (p+1) rv [] ByteArray.empty (M:Int) ⟨χ,χ⟩ (fun x hx=>by simp at hx) ξ HE.out.vp χ (by have:=HE.out.vp.lt;omega) HE.out.row).mono ?_;rintro e w2 ⟨rfl,rv',hv',hown',hk'⟩;rw[←HRows.out]at hown';have he2:=HE.out.onRow HE.out.size hk' hv' hown';have HE2:=ν he2;clear hv' hown' hk' he2
     go_wp2
     go_roundg 0
     case measure=>have:=HKT.out;omega
     case rel=>exact⟨M,rv',rows1,rfl,χ,HE2.out,.inr ⟨rfl,rfl⟩⟩
   ·subst ht
    have hcp:=HE.out.vp.cell
    go_wp2
    go_ret
    refine⟨rv,rfl,?_,HE.out.below⟩;rw[←HRw.out];exact lD HE.out.row (by have:=HE.out.QZ;omega)
theorem rV(M:Nat)(A:Option Addr)(c:Nat)(xs:List Run)(w:World)(g:1≤M)(d:M≤65536)(q:xs.length≤M)
 (j:∀r∈xs,1≤r.QS∧r.QS≤65536∧1≤r.per∧r.per≤65536)(l:Edf.Fits xs.length (Ln.nP xs) (Ln.nB xs))(u:eJ w A xs):
 Calls Tryz.prog 142 #[.int .i64 M,.slice A xs.length c] w fun e w'=>∃v,e=.returned v∧w'.ownsRow w.heap.size 278 3 v (Ln.edf xs M).length (aT (Ln.edf xs M))∧Below w.heap.size w w':=by
 rcases ϑ xs.length with h|h
 ·obtain rfl:=List.eq_nil_of_length_eq_zero h
  exact qB M A c w g d
 ·exact qA M xs.length A c xs w g d rfl q h j l u
theorem vV(M:Nat)(A:Option Addr)(c:Nat)(xs:List Run)(lp:Int)(QN:Nat)(w:World)(hM:1≤M)(hM2:M≤65536)
 (hx:∀r∈xs,r.QS<18446744073709551616∧r.per<18446744073709551616)(hl:xs.length≤140737488351232)(hr:eJ w A xs):
 Calls Tryz.prog 120 #[.int .u64 M,.agg #[.int .i64 lp,.int .u64 QN,.bool true,.slice A xs.length c]] w (bu w (Ln.eX M xs)):=by
 obtain⟨W,hW⟩:∃W,W=w.alloc (.cells #[.int .i64 lp,.int .u64 QN,.bool true,.slice A xs.length c] 71):=⟨_,rfl⟩;have hB:Below w.heap.size w W:=by subst hW;exact(Below.refl _ _).alloc (Γ _) _
 have hWs:W.heap.size=w.heap.size+1:=by subst hW;simp
 have c2:W.cell? ⟨w.heap.size,2,none⟩=some (.bool true):=by subst hW;rw[World.cell?_alloc_at _ _ _ _ rfl];rfl
 have c3:W.cell? ⟨w.heap.size,3,none⟩=some (.slice A xs.length c):=by subst hW;rw[World.cell?_alloc_at _ _ _ _ rfl];rfl
 have hR:eJ W A xs:=hr.below hB (Γ _);obtain⟨R,hRes⟩:∃R,R=Ln.eX M xs:=⟨_,rfl⟩;rw[←hRes];have HR:=ν hRes;have HS:=ν hWs;have HW:=ν hW;clear hWs hRes
 go_enter Tryz.func120,Tryz.ntmps120
 have h0:¬ M<1:=χ
 have h1:¬ 65536<M:=χ
 go_wp2
 rw[←hW];clear hW
 go_loopw [7,24] (fun s i wr=>∃k d:Nat,k≤xs.length∧i=.int .i64 k∧d≤M∧s=.int .u64 d∧Ln.bV M true k d (xs.drop k)=Ln.bV M true 0 0 xs∧Below W.heap.size W wr) (fun _ i _=>xs.length-(intOf i).toNat)
 case atStart=>exact⟨0,0,χ,rfl,χ,rfl,rfl,Below.refl _ _⟩
 case round =>
  obtain⟨k,d,hk,rfl,hd,rfl,hdem0,hbw⟩:=hrel;have hdem:=ν hdem0;clear hdem0;have hsz:=hbw.size;have hlt0:w.heap.size<wr.heap.size:=by have:=HS.out;omega
  have c2':wr.cell? ⟨w.heap.size,2,none⟩=some (.bool true):=by
   rw[hbw.cell (p:=⟨w.heap.size,2,none⟩) (by simp[HS.out])];exact c2
  have c3':wr.cell? ⟨w.heap.size,3,none⟩=some (.slice A xs.length c):=by
   rw[hbw.cell (p:=⟨w.heap.size,3,none⟩) (by simp[HS.out])];exact c3
  by_cases hlt:k<xs.length
  ·obtain⟨b,off,rfl,hbl,hcs⟩:=hR χ
   obtain⟨r,hrk⟩:∃r,xs[k]?=some r:=⟨xs[k],θ hlt⟩;have hmem:r∈xs:=γ hrk;obtain⟨q0,q1,q2,q3⟩:=hcs k r hrk;rw[←hbw.cell (p:=⟨b,_,none⟩) (by exact hbl)]at q0 q1 q2 q3;have hbud:=(hx r hmem).1;have hper:=(hx r hmem).2;have hlt1:b<wr.heap.size:=χ
   have hz:Ln.bV M true 0 0 xs=if Ln.right M r true=0 then(if M<d+Ln.eM M r true then some ((k:Int),93)else Ln.bV M true (k+1) (d+Ln.eM M r true) (xs.drop (k+1)))else some ((k:Int),Ln.right M r true):=by
    obtain⟨h1,h2⟩:=ο.1 hrk;rw[←hdem.out,List.drop_eq_getElem_cons h1,h2];rfl
   have HZ:=ν hz;clear hrk hcs c2 c3 hz
   go_wp2_with fail
   refine(qU _ r _ _ χ hbud hper).mono ?_;rintro e w1 ⟨rfl,hb1⟩;have hz1:=hb1.size;simp at hz1;obtain⟨hc1,hf1⟩:=Cr hb1;have hbw1:Below W.heap.size W w1:=(hbw.alloc hbw.size _).trans (hb1.mono η);clear hb1
   by_cases hr:Ln.right M r true=0
   ·have hr':(Ln.right M r true !=0)=false:=by simp[hr]
    have hw:=Ln.rp hr;obtain⟨o1,o2,o3⟩:=Ln.gz hr;have Hr:=ν hr;have hpn:true=true→r.QS≤r.per∧1≤r.per∧r.per≤M:=fun h=>by obtain⟨_,b,c,d,_⟩:=o3 h;exact⟨b,c,d⟩
    clear hr o3
    go_wp2_with fail
    refine(qJ _ r true _ hM2 o2 (fun _=>hpn trivial)).mono ?_;rintro e w2 ⟨rfl,hb2⟩;have hbw2:Below W.heap.size W w2:=hbw1.trans (hb2.mono χ);clear hb2 hc1 hf1
    by_cases ho:M<d+Ln.eM M r true
    ·go_wp2
     go_ret3
     rw[HR.out,Ln.eX,HZ.out,if_pos Hr.out,if_pos ho];exact bu.nil (hB.trans (hbw2.mono (by simp[HS.out])))
    ·go_wp2
     go_roundw
     case rel =>
      exact⟨k+1,d+Ln.eM M r true,χ,by go_num,χ,by go_num,by rw[HZ.out,if_pos Hr.out,if_neg χ],hbw2⟩
     case measure=>simp[intOf];omega
   ·have hr':(Ln.right M r true !=0)=true:=by simp[hr]
    go_wp2
    go_ret3
    rw[HR.out,Ln.eX,HZ.out,if_neg hr];exact bu.nil (hB.trans (hbw1.mono (by simp[HS.out])))
  ·have hk':k=xs.length:=χ
   have hnone:Ln.bV M true 0 0 xs=none:=by rw[←hdem.out,hk',List.drop_length];rfl
   have hok:=Ln.AH hnone;have hfin:R=Ln.eZ (Ln.edf xs M):=by rw[HR.out,Ln.eX,hnone]
   have hB1:Below w.heap.size w wr:=hB.trans (hbw.mono (by simp[HS.out]));have hR1:eJ wr A xs:=hR.below hbw χ;have HF:=ν hfin;have HB1:=ν hB1;have HOk:=ν hok;have HR1:=ν hR1;clear hnone hok hfin hB1 hR1 hk' hR hbw hsz hB c2 c3 hdem HR HW hr
   go_wp2_with fail
   obtain⟨p,hp⟩:∃p,p=wr.heap.size:=⟨_,rfl⟩;obtain⟨wo,hwo⟩:∃wo,wo=wr.alloc (.cells #[.slice none 0 0] 252):=⟨_,rfl⟩;have hv0:Var wo p 252 (.slice none 0 0):=by subst hwo hp;exact heap_alloc_new _ _
   have hBo:Below w.heap.size w wo:=by subst hwo;exact HB1.out.alloc HB1.out.size _
   have hR2:eJ wo A xs:=by subst hwo;exact HR1.out.below ((Below.refl _ _).alloc (Γ _) _) (Γ _)
   have hwp:w.heap.size≤p:=by rw[hp];exact HB1.out.size
   rw[←hwo,←hp];have HBo:=ν hBo;have hvlt:=hv0.lt;clear hwo hp hBo c2' c3';refine(rV M A c xs wo hM hM2 HOk.out.len (fun r hr=>by obtain⟨a,b,c,d,e,f⟩:=HOk.out.each r hr;exact⟨a,χ,d,χ⟩) (HOk.out.fits χ) hR2).mono ?_;rintro e w1 ⟨v,rfl,hown,hb1⟩;have hl2:=Ln.CR xs M;have he:=Ln.CS xs M;obtain⟨rows,hrows⟩:∃x,x=Ln.edf xs M:=⟨_,rfl⟩;rw[←hrows]at hown hl2 he HF;have hv1:Var w1 p 252 (.slice none 0 0):=(hb1.block p hvlt).trans hv0;have hBw1:Below w.heap.size w w1:=HBo.out.trans (hb1.mono HBo.out.size);have hf1:=hv1.frozen;have hc1:=hv1.cell;have hp1:=hv1.lt;have hsl:∃A cc,v=.slice A rows.length cc:=by
    rcases hown.2 with⟨h,h2⟩|⟨g,cap,cur,h,_⟩
    ·exact⟨none,0,by rw[h,h2]⟩
    ·exact⟨_,_,h⟩
   obtain⟨A2,cc,rfl⟩:=hsl;have hvs:=hv1.set_ (.slice A2 rows.length cc);have hown2:(w1.setCell ⟨p,0,none⟩ (.slice A2 rows.length cc)).ownsRow wo.heap.size 278 3 (.slice A2 rows.length cc) rows.length (aT rows):=ownsRow_setCell_below (a:=⟨p,0,none⟩) hown (by exact hvlt) _;have hB2:Below w.heap.size w (w1.setCell ⟨p,0,none⟩ (.slice A2 rows.length cc)):=hBw1.setCell (by exact hwp) _;have HB2:=ν hB2;have HE:=ν he;have hsz2:w.heap.size≤wo.heap.size:=HBo.out.size;clear hrows he hb1 hBw1 hown hv1 hv0 hB2;obtain⟨w2,hw2⟩:∃w2,w2=w1.setCell ⟨p,0,none⟩ (.slice A2 rows.length cc):=⟨_,rfl⟩;rw[←hw2]at hvs hown2 HB2;have hvc2:=hvs.cell;have hl3:rows.length≤1000000000:=χ
   go_upto_region 22 with fail
   rw[←hw2];clear hw2 hc1 hf1 hp1
   go_wp2_with fail
   refine(wu w2 wo.heap.size _ rows hl3 hown2).mono ?_;rw[HE.out];rintro e w3 ⟨rfl,rfl⟩
   by_cases hcap:4096<rows.length
   ·go_wp2
    go_ret3
    rw[HF.out,Ln.eZ,if_pos hcap];exact bu.nil HB2.out
   ·go_wp2
    go_ret3
    rw[HF.out,Ln.eZ,if_neg hcap];exact⟨_,rfl,jS hown2 hsz2,HB2.out⟩
namespace Ln
def names(M:Nat)(nd:Bool)(xs:List Run):List ByteArray:=if nd then Edf.QV xs.length (nP xs) (nB xs) (nS xs) M else oI M xs
def dE(M:Nat)(nd:Bool)(xs:List Run):List aw×Int×Int:=
 if M<1∨65536<M then([], -1,92)else match bV M nd 0 0 xs with
 | some (i,e)=>([],i,e)
 | none=>eZ (bv [] (names M nd xs))
theorem pw{M:Nat}{xs:List Run}(h:¬ (M<1∨65536<M)):dE M true xs=eX M xs:=by
 unfold dE eX;rw[if_neg h];rfl
theorem rS{M:Nat}{xs:List Run}(h:¬ (M<1∨65536<M)):dE M false xs=flatRuns M xs:=by
 unfold dE flatRuns;rw[if_neg h]
 rcases hq:bV M false 0 0 xs with _|⟨i,e⟩
 ·simp only
  rw[zS (fun r d=>(gz ((ic hq).1 r d)).1)];rfl
 ·rfl
end Ln
theorem tX(M:Nat)(g:Bool)(A:Option Addr)(c:Nat)(xs:List Run)(d:Int)(QN:Nat)(w:World)(u:M<18446744073709551616)
 (q:∀r∈xs,r.QS<18446744073709551616∧r.per<18446744073709551616)(j:xs.length≤140737488351232)(l:eJ w A xs):
 Calls Tryz.prog 120 #[.int .u64 M,.agg #[.int .i64 d,.int .u64 QN,.bool g,.slice A xs.length c]] w (bu w (Ln.dE M g xs)):=by
 by_cases h:M<1∨65536<M
 ·rw[Ln.dE,if_pos h]
  exact Ak M w h u d QN g _ rfl
 ·cases g
  ·rw[Ln.rS h]
   exact yW M A c xs d QN w χ χ q j l
  ·rw[Ln.pw h]
   exact vV M A c xs d QN w χ χ q j l
open Ck
variable {c0:Nat}
theorem wN{B:Nat}{w:World}{A:Option Addr}{c:Nat}{xs:List Run}(h:aM B 4 nG w (.slice A xs.length c) xs)(u:B≤w.heap.size):eJ w A xs:=by
 obtain⟨_,_,e,_,_,j⟩:=h
 cases e
 intro l;obtain⟨b,off,d,v,g⟩:=j l;refine⟨b,off,d,χ,fun i r q=>?_⟩;have:=(g i r q).1;exact⟨(this 0 _ rfl),this 1 _ rfl,this 2 _ rfl,this 3 _ rfl⟩
theorem wM{B:Nat}{w:World}{A:Option Addr}{c:Nat}{xs:List Run}(h:aM B 4 nG w (.slice A xs.length c) xs):∀r∈xs,r.QS<18446744073709551616∧r.per<18446744073709551616:=by
 intro r g;obtain⟨A,c,_,_,_,j⟩:=h;obtain⟨l,off,_,_,d⟩:=j (List.length_pos_of_mem g);obtain⟨k,hk⟩:=List.getElem?_of_mem g;have:=(d k r hk).2;exact⟨this.2.1,this.2.2.1⟩
def aa(M:Nat)(y:cK):Nat×Int×Int:=((Ln.dE M y.needs y.runs).1.length,(Ln.dE M y.needs y.runs).2.1,(Ln.dE M y.needs y.runs).2.2)
def gD(ls:List cK)(c0:Nat):Int:=match ls.findIdx? (fun y=>decide (y.QN=c0))with|some i=>i|none =>-1
theorem tJ{ls:List cK}(h:∀y∈ls,y.QN≠c0):gD ls c0 = -1:=by
 unfold gD;rw[List.findIdx?_eq_none_iff.2 (fun y d=>by simpa using h y d)]
theorem Ae{ls:List cK}{k:Nat}{x:cK}(l:ls[k]?=some x)(g:x.QN=c0)(h:∀y∈ls.take k,y.QN≠c0):gD ls c0=k:=by
 unfold gD;obtain⟨hk,d⟩:=ο.1 l;rw[List.findIdx?_eq_some_iff_getElem.2 ⟨hk,by rw[d];simpa using g,fun j q=>by
  have:=h (ls[j]' χ) (List.mem_take_iff_getElem.2 ⟨j,χ,rfl⟩)
  simpa using this⟩]
theorem sd(t:Nat)(h:t<2 ^ 64):t &&& (2 ^ 64-(7+1))=t / 8*8:=by
 apply Nat.eq_of_testBit_eq
 intro i;have g:t / 8*8=(t >>> 3) <<< 3:=by rw[Nat.shiftRight_eq_div_pow,Nat.shiftLeft_eq]
 have l:(7:Nat)=2 ^ 3-1:=rfl;rw[g,Nat.testBit_and,Nat.testBit_two_pow_sub_succ ψ,l,Nat.testBit_two_pow_sub_one,Nat.testBit_shiftLeft,Nat.testBit_shiftRight]
 by_cases h3:i<3
 ·have d:¬ 3≤i:=χ
  simp[h3,d]
 ·have d:3≤i:=χ
  have j:3+(i-3)=i:=χ
  rw[j]
  by_cases hi:i<64
  ·simp[h3,d,hi]
  ·have:t.testBit i=false:=Nat.testBit_lt_two_pow (Θ h (Nat.pow_le_pow_right χ χ))
   simp[this]
theorem Ce{t:Nat}(h:t<9223372036854775808):IntKind.i64.wrap ((BitVec.ofInt 64 (t:Int) &&& ~~~BitVec.ofInt 64 7).toNat:Int)=((t / 8*8:Nat):Int):=by
 show IntKind.i64.wrap ((BitVec.ofInt 64 (t:Int) &&& ~~~(7#64)).toNat:Int)=_;rw[BitVec.ofInt_natCast];have d:(BitVec.ofNat 64 t &&& ~~~7#64).toNat=t / 8*8:=by
  rw[BitVec.toNat_and,BitVec.toNat_not,BitVec.toNat_ofNat,Nat.mod_eq_of_lt χ];exact sd t χ
 rw[d];exact IntWalk.i64_in _ χ
theorem wj(M:Nat)(y:cK):(aa M y).1≤4096:=by
 unfold aa Ln.dE;simp only;split
 ·simp
 ·split
  ·simp
  ·unfold Ln.eZ
   split
   ·simp
   ·simp;omega
theorem zQ(x:jp)(c:Nat):cH aa x c≤4096:=by
 unfold cH;split
 ·exact wj _ _
 ·omega
def eD(x:jp):Nat→Nat
 | 0=>0
 | j+1=>eD x j+(8+8*cH aa x j)
theorem lk(x:jp):∀j,eD x j≤j*32776
 | 0=>Γ _
 | j+1=>by have:=lk x j;have:=zQ x j;simp only[eD];omega
theorem mn(x:jp):eD x 4=32+8*(cH aa x 0+cH aa x 1+cH aa x 2+cH aa x 3):=by simp only[eD];omega
def kS(l:List Ck.Region):Nat:=(l.map fun x=>24+(x.text.size+7) / 8*8).sum
def gS(l:List jp):Nat:=(l.map fun x=>32+8*(cH aa x 0+cH aa x 1+cH aa x 2+cH aa x 3)).sum
theorem xm(l:List Ck.Region)(x:Ck.Region):kS (l++[x])=kS l+(24+(x.text.size+7) / 8*8):=by simp[kS]
theorem ug(l:List jp)(x:jp):gS (l++[x])=gS l+eD x 4:=by rw[mn];simp[gS]
theorem nT:∀(l:List Ck.Region),(∀x∈l,x.text.size≤2097152)→kS l≤l.length*2097192
 | [],_=>Γ _
 | x::t,h=>by
  have g:=nT t fun y d=>h y (List.mem_cons_of_mem _ d)
  have j:=h x List.mem_cons_self;have e:kS (x::t)=(24+(x.text.size+7) / 8*8)+kS t:=by simp[kS]
  rw[e,List.length_cons];omega
theorem oL:∀(l:List jp),gS l≤l.length*131104
 | []=>Γ _
 | x::t=>by
  have d:=oL t;have g:=lk x 4;have e:gS (x::t)=eD x 4+gS t:=by rw[mn];simp[gS]
  rw[e,List.length_cons];omega
theorem Af{ls:List cK}:(gD ls c0 = -1∧ls.find? (fun y=>decide (y.QN=c0))=none)∨∃(k:Nat) (y:cK),gD ls c0=k∧ls[k]?=some y∧ls.find? (fun y=>decide (y.QN=c0))=some y:=by
 by_cases h:∀y∈ls,y.QN≠c0
 ·exact .inl ⟨tJ h,List.find?_eq_none.2 fun y g=>by simpa using h y g⟩
 ·right
  simp only[Classical.not_forall]at h;obtain⟨y,g,d⟩:=h;have d:y.QN=c0:=Classical.not_not.1 d;obtain⟨k,hk⟩:∃k,ls.findIdx? (fun y=>decide (y.QN=c0))=some k:=by
   rw[←Option.isSome_iff_exists,List.findIdx?_isSome,List.any_eq_true];exact⟨y,g,by simpa using d⟩
  obtain⟨l,q,u⟩:=List.findIdx?_eq_some_iff_getElem.1 hk;refine⟨k,ls[k],?_,θ l,?_⟩
  ·unfold gD;rw[hk]
  ·rw[List.find?_eq_some_iff_getElem]
   exact⟨q,k,l,rfl,fun j v=>by simpa using u j v⟩
