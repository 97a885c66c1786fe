/- Texts joined (KK64). -/
import Derived.Test.YtpaihpeoiliioaaGreatKK61
set_option linter.all false
set_option maxRecDepth 20000
set_option maxHeartbeats 40000000
namespace Go.Proofs.YtpaihpeoiliioaaGreat
open Go.RowKit Old
theorem and_15b(n:Int):bits .and .i64 n 15=n%16:=Ahf n 4 (by decide)
structure Onc(z t:Zst):Prop where
 e:emtZ z=t
 e2:emtZ t=t
 l2:emtL t = []
 st:t.sent=true
 la:t.last=t.s.cmd
 s:t.s=z.s
 rq:t.reqs=z.reqs
 rt:t.rets=z.rets
theorem onc_of(z:Zst):∃t,Onc z t:=by
 by_cases h:z.sent=true/\z.last=z.s.cmd
 .have e:emtZ z=z:=by unfold emtZ;rw[if_pos h]
  exact⟨z,e,e,by unfold emtL;rw[if_pos h],h.1,h.2,rfl,rfl,rfl⟩
 .have e:emtZ z = {z with sent:=true,last:=z.s.cmd}:=by unfold emtZ;rw[if_neg h]
  refine⟨_,e,?_,?_,rfl,rfl,rfl,rfl,rfl⟩
  .unfold emtZ;rw[if_pos ⟨rfl,rfl⟩]
  .unfold emtL;rw[if_pos ⟨rfl,rfl⟩]
structure Onc2(t q v:Zst)(cm:Cm)(r:Rt):Prop where
 qe:q = {t with last:=⟨t.last.head,t.last.safe,r⟩}
 c:q.s.cmd=cm
 e:emtZ q=v
 l:emtL q = [cm]
 la:v.last=cm
 s:q.s=t.s
theorem onc2_of{z t:Zst}(h:Onc z t){r:Rt}(hr:t.s.fin.r≠r):∃q v cm,Onc2 t q v cm r:=by
 have hn:¬(({t with last:=⟨t.last.head,t.last.safe,r⟩}:Zst).sent=true/\({t with last:=⟨t.last.head,t.last.safe,r⟩}:Zst).last=({t with last:=⟨t.last.head,t.last.safe,r⟩}:Zst).s.cmd):=fun hh=>by
  have e:r=t.s.cmd.fin:=congrArg Cm.fin hh.2
  exact hr e.symm
 refine⟨_,_,t.s.cmd,rfl,rfl,rfl,?_,?_,rfl⟩
 .unfold emtL;rw[if_neg hn]
 .unfold emtZ;rw[if_neg hn]
theorem fin_ok{k:Nat}{s:Sto}(h:SI k s){n:Int}(hn:n / 256%256=11):s.fin.r≠rtB n:=fun e=>by
 obtain⟨h0,hf⟩:=h.fin
 have h1:=h.rtn _ (List.getElem_mem h0)
 rw[hf,e]at h1
 refine h1 ?_
 show(rtNum n).getD 1 0=11
 rw[<-hn]
 simp[rtNum,List.getD]
theorem commandsOnce_walk(a0:Option Addr)(n0 c0:Nat)(l0:List Int)(a1:Int)(w:World)(_:Fit .i64 l0)(_:l0.length=n0)(hr0:Row w w.heap.size 1 a0 n0 (ints .i64 l0))(hnc0:n0<=c0)(hcm0:c0<=maxLen)(_:(Lit.int .i64 a1).wf=true) :
  Calls Tryz.prog 6 #[.slice a0 n0 c0,.int .i64 a1] w fun e w'=>e=.returned (.bool true)/\Below w.heap.size w w':=by
 have M:=bx (MM.start (AiD w))
 have ST:=bx (Agf g0 a0 n0 c0 l0 w (AiD w) hr0 (Nat.le_trans hnc0 hcm0))
 clear hr0 hnc0 hcm0
 go_enter Tryz.func6,Tryz.ntmps6
 (go_wp2_with (first|go_skip|((first|refine zBXd ?_|refine zALd (ztZs) ?_);clear M;intro w' g M)|fail|refine zLAd ?_))
 refine ST.o.mono ?_
 rintro e1 w1 ⟨x,z,Γ1,rfl,hz,hg,hx⟩
 replace M:=bx (M.o.call hx)
 obtain⟨t,ht⟩:=onc_of z
 have HT:=bx ht
 have HZ:=bx hz
 have HG:=bx hg
 clear hx hz hg ST ht
 have SZ:Bx (SzK z.s):=⟨HZ.o.s.szk (by decide)⟩
 have RQ:Bx (z.reqs.length<=4096/\z.rets.length<=4096):=⟨by have:=HZ.o.nreq;have:=HZ.o.nret;omega⟩
 go_upto_region 2 with(first|go_skip|((refine zALd (ztZs) ?_;clear M;intro w' g M);(obtain⟨g5,hg0⟩:∃y,y=g:=⟨_,rfl⟩);subst hg0)|(refine zSSd M 0 (zsP z x) (zsP z x) (AaH _ _) (AaP _ _) ?_;clear M;intro w' M)|refine zLAd ?_)
 (go_wp2_with (first|go_skip|((first|refine zBXd ?_|refine zALd (ztZs) ?_);clear M;intro w' g M)|fail|refine zLAd ?_))
 refine(Aqz Γ1 z x 24 ⟨HZ.o.s,by decide,HG.o.s⟩ SZ.o RQ.o.1 RQ.o.2 _ M.ok HG.o).mono ?_
 rintro e1 w1 ⟨y1,A1,c1,Γ2,rfl,_,_,hy,hx⟩
 replace M:=bx (M.o.call hx)
 rw[HT.o.e]
 have GT:Bx (ZsG Γ2 y1 t):=⟨⟨by rw[HT.o.s];exact hy.s,by rw[HT.o.rq];exact hy.reqs,by rw[HT.o.rt];exact hy.rets⟩⟩
 have KT:Bx (SI 24 t.s/\SzK t.s/\t.reqs.length<=4096/\t.rets.length<=4096):=⟨by rw[HT.o.s,HT.o.rq,HT.o.rt];exact⟨HZ.o.s,SZ.o,RQ.o⟩⟩
 clear hx hy HZ HG SZ RQ
 generalize(emtL z).length=nz at *
 go_upto_region 3 with(first|go_skip|((refine zALd (ztZs) ?_;clear M;intro w' g M);(obtain⟨g6,hg0⟩:∃y,y=g:=⟨_,rfl⟩);subst hg0)|(refine zSSd M 0 (zsP t y1) (zsP t y1) (AaH _ _) (AaP _ _) ?_;clear M;intro w' M)|refine zLAd ?_)
 (go_wp2_with (first|go_skip|((first|refine zBXd ?_|refine zALd (ztZs) ?_);clear M;intro w' g M)|fail|refine zLAd ?_))
 refine(Aqz Γ2 t y1 24 ⟨KT.o.1,by decide,GT.o.s⟩ KT.o.2.1 KT.o.2.2.1 KT.o.2.2.2 _ M.ok GT.o).mono ?_
 rintro e1 w1 ⟨y2,A2,c2,Γ3,rfl,_,_,hy,hx⟩
 replace M:=bx (M.o.call hx)
 rw[HT.o.e2,HT.o.l2,List.length_nil]
 have G3:=bx (GT.o.mono hx.le)
 have Y3:=bx hy
 clear hx hy GT
 have SM:=bx (fun w ok=>sameZs_any Γ3 t y1 y2 KT.o.2.1 KT.o.2.2.1 KT.o.2.2.2 w ok G3.o Y3.o)
 have HS:Bx (Value.bool t.sent=.bool true):=⟨by rw[HT.o.st]⟩
 go_upto_region 4 with(first|go_skip|((refine zALd (ztZs) ?_;clear M;intro w' g M);(obtain⟨g8,hg0⟩:∃y,y=g:=⟨_,rfl⟩);subst hg0)|(refine zSSd M 0 (zsP t y2) (zsP t y2) (AaH _ _) (AaP _ _) ?_;clear M;intro w' M)|refine zLAd ?_)
 (go_wp2_with (first|go_skip|((first|refine zBXd ?_|refine zALd (ztZs) ?_);clear M;intro w' g M)|refine zLHd HS ?_|refine zLAd ?_))
 refine zCA M (SM.o _ M.ok) ?_;clear M;intro w1 M
 have ha:=and_15b a1
 obtain⟨m,hm,hm2⟩:∃m:Nat,a1%16=(m:Int)/\m<16:=⟨(a1%16).toNat,by omega,by omega⟩
 have hmi:(m:Int)<16:=by omega
 have hm0:(0:Int)<=(m:Int):=by omega
 rw[hm]at ha
 obtain⟨q,v,cm,h2⟩:=onc2_of HT.o (r:=rtB (3000+(m:Int))) (fin_ok KT.o.1 (by omega))
 have H2:=bx h2
 clear hm h2 SM Y3
 (go_wp2_with (first|go_skip|((first|refine zBXd ?_|refine zALd (ztZs) ?_);clear M;intro w' g M)|refine zLHd HS ?_|refine zLAd ?_))
 refine zCB M (AbQ _ _) ?_;clear M;intro w1 M
 clear ha
 generalize rtB (3000+(m:Int))=r at *
 go_upto_region 7 with(first|go_skip|(refine zSSd M 1 [rc r] (zsP {t with last:=⟨t.last.head,t.last.safe,r⟩} y1) (lenR _) (Aac _) ?_;clear M;intro w' M)|refine zLAd ?_)
 rw[<-H2.o.qe]at M
 have GQ:Bx (ZsG Γ3 y1 q):=⟨by rw[H2.o.qe];exact⟨G3.o.s,G3.o.reqs,G3.o.rets⟩⟩
 have KQ:Bx (SI 24 q.s/\SzK q.s/\q.reqs.length<=4096/\q.rets.length<=4096):=⟨by rw[H2.o.qe];exact KT.o⟩
 clear G3 KT HS HT
 (go_wp2_with (first|go_skip|((first|refine zBXd ?_|refine zALd (ztZs) ?_);clear M;intro w' g M)|fail|refine zLAd ?_))
 refine(Aqz Γ3 q y1 24 ⟨KQ.o.1,by decide,GQ.o.s⟩ KQ.o.2.1 KQ.o.2.2.1 KQ.o.2.2.2 _ M.ok GQ.o).mono ?_
 rintro e1 w1 ⟨y4,A4,c4,Γ4,rfl,_,hs4,_,hx⟩
 replace M:=bx (M.o.call hx)
 rw[H2.o.l]at hs4
 rw[H2.o.e,H2.o.l]
 obtain⟨g7,post,hA,hg⟩:=hs4 Nat.zero_lt_one
 obtain⟨b,hb⟩:∃b:Nat,0=b:=⟨_,rfl⟩
 rw[hb]at hA
 subst hA
 have F0:Bx (Fz Γ4 g7 b (cmP cm) [32,32,32]):=⟨⟨_,hg,fun j u hu=>by
  rw[<-hb,Nat.zero_add]
  rw[List.getElem?_append_left]
  .simpa using hu
  .have:=(List.getElem?_eq_some_iff.1 hu).1;simpa using this⟩,Aai _⟩
 have CC:Bx (∀w,Ok Γ4 w->Calls Tryz.prog 19 #[.agg (fl (stP q.s y1.s)).toArray] w fun e w'=>e=.returned (.agg (fl (cmP cm)).toArray)/\Ext Γ4 w Γ4 w'):=⟨fun w ok=>by
  have:=Ail Γ4 q.s y1.s 24 ⟨KQ.o.1,by decide,GQ.o.s.mono hx.le⟩ w ok
  rwa [H2.o.c]at this⟩
 have hq1:=Apy cm
 have hq3:=AjZ v.last cm
 rw[decide_eq_true H2.o.la]at hq3
 clear hx H2 GQ KQ hg hb hs4
 go_upto_region 8 with(first|go_skip|((refine zALd (ztZs) ?_;clear M;intro w' g M);(obtain⟨g10,hg0⟩:∃y,y=g:=⟨_,rfl⟩);subst hg0)|(refine zSSd M 0 (zsP v y4) (zsP v y4) (AaH _ _) (AaP _ _) ?_;clear M;intro w' M)|refine zLAd ?_)
 have C0:=bx (clsE M.o fun w' ok'=>CC.o w' ok')
 (go_wp2_with (first|go_skip|((first|refine zBXd ?_|refine zALd (ztZs) ?_);clear M;intro w' g M)|fail|refine zLAd ?_))
 refine zRG ?_;(repeat(first|go_big_quiet_skip|(go_big_quiet_want;first|((first|refine zQFd F0 ?_|refine zQC (AaJ C0.o) Tryz.func19 ?_|refine zQC (AfY (fun w1 _=>awake29_any w1)) Tryz.func23 ?_|refine zQAd ?_);go_big_quiet_on;refine zNM ?_)|(refine zQO ?_;go_big_quiet_on))));(refine zQN ?_;clear M;intro w4 M)
 (go_wp2_with (first|go_skip|((first|refine zBXd ?_|refine zALd (ztZs) ?_);clear M;intro w' g M)|fail|refine zLAd ?_))
 go_ret
 exact⟨rfl,M.bel⟩
end Go.Proofs.YtpaihpeoiliioaaGreat
