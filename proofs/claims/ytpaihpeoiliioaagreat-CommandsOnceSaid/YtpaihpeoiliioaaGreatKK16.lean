/- Texts joined: what the walks of this claim stand on (part 16). -/
import Derived.Test.YtpaihpeoiliioaaGreatKK8
set_option linter.all false
set_option maxRecDepth 20000
set_option maxHeartbeats 40000000
namespace Go.Proofs.YtpaihpeoiliioaaGreat
open Go.RowKit Old
theorem Aq2(Γ:Gam)(s:Sto)(v:Sls)(j f:Cp)(hs:SpeOk s)(hk:Lk (upsN s.nodes))(hb:s.nodes.length<=4096)(ht:s.tabs.length<=65535)(w:World)(ok:Ok Γ w)(h:StG Γ v s)(ca cb:Cp)(hca:laterC s.just j=ca)(hcb:laterC s.fin f=cb)(n1:fndI s.nodes ca.r = -1) :
  Calls Tryz.prog 186 #[.agg (fl (stP s v)).toArray,.agg (fl (cpP j)).toArray,.agg (fl (cpP f)).toArray] w fun e w'=>e=.returned (.tuple #[.agg (fl (cpP cp0)).toArray,.agg (fl (cpP cp0)).toArray,.bool false])/\Ext Γ w Γ w':=by
 have M:=bx (MM.start ok)
 have HG:=bx h
 have LN:=bx h.nodes.n
 have hsp:0<s.c.spe.n:=hs.1
 have FI:=bx (fun r w ok=>Aag Γ v.nodes s.nodes r w ok h.nodes)
 have EA:=bx (fun k e (hk:k<s.nodes.length) w ok=>Afs Γ s v k e hs hk w ok h)
 have AN:=bx (fun a b w ok=>AeT Γ v.nodes s.nodes a b w ok h.nodes hk hb)
 have EP:=bx (fun w ok=>AbZ Γ s v s.now hsp w ok)
 have FT:Bx (∀a w,Ok Γ w->Calls Tryz.prog 106 #[v.tabs.v,.agg (fl (cpP a)).toArray] w fun e w'=>e=.returned (.int .i64 (idxI (fun t=>decide (t.c=a)) s.tabs))/\Ext Γ w Γ w'):=⟨fun a w ok=>Abq Γ v.tabs.A v.tabs.n v.tabs.c s.tabs a (by rw[<-h.tabs.2.1];exact ht) w ok h.tabs.2⟩
 have A1:Bx (s.just.e.n<j.e.n->ca=j):=⟨fun h=>by rw[<-hca];exact if_pos h⟩
 have A2:Bx (¬s.just.e.n<j.e.n->ca=s.just):=⟨fun h=>by rw[<-hca];exact if_neg h⟩
 have B1:Bx (s.fin.e.n<f.e.n->cb=f):=⟨fun h=>by rw[<-hcb];exact if_pos h⟩
 have B2:Bx (¬s.fin.e.n<f.e.n->cb=s.fin):=⟨fun h=>by rw[<-hcb];exact if_neg h⟩
 clear ok h hk hb ht hs hsp hca hcb
 go_enter Tryz.func186,Tryz.ntmps186
 go_upto_region 1 with(first|((first|refine zBXo ?_|refine zALo (ztCp) ?_);clear M;intro w' g M))
 rename_i gs _ gj _ gf _ g6 _ _
 go_cut [9,10]from 13 (fun s9 s10 wx=>∃ga gb,s9=.pointer (some ⟨ga,0,none⟩)/\s10=.pointer (some ⟨gb,0,none⟩)/\MM Γ w Γ wx [⟨gb,cpP s.fin,[1,32]⟩,⟨ga,cpP s.just,[1,32]⟩,⟨g,cpP cp0,[1,32]⟩,⟨g6,cpP cp0,[1,32]⟩,⟨gf,cpP f,[1,32]⟩,⟨gj,cpP j,[1,32]⟩,⟨gs,stP s v,stL⟩] [])
 case first=>
  go_wp2_with fail
  refine AaF (fun w'=>HL w' gs (stP s v) stL) (.steps [(1,0),(1,1),(0,2),(1,3),(1,4),(0,5)] (.fork 6 (.steps [(2,7),(3,8),(3,9)] .leaf) 7 (.steps [(2,6),(3,8),(3,9)] .leaf))) (by kernel_rfl) (by kernel_rfl) M.o.drew.at4 ?_;(simp only[MixT7,MT.steps,stepI,List.getD_cons_zero,List.getD_cons_succ]);replace M:=bx (M.o.drew)
  (repeat(first|refine zM0 ?_|(go_big_quiet_want;first|(refine zQL (fun _ h=>h) (AaD s v) ?_;go_big_quiet_on;refine zNM ?_)|(refine zQO ?_;go_big_quiet_on))))
  refine⟨?_,?_⟩
  .refine AaA (AaR rfl ztCp) rfl ?_;replace M:=bx (M.o.alloc (P:=(cpP cp0)) (ls:=[1,32]) (AaC _) rfl 37);refine zNM ?_
   refine⟨M.o.at5,?_⟩
   refine AaA (AaR rfl ztCp) rfl ?_;replace M:=bx (M.o.alloc (P:=(cpP cp0)) (ls:=[1,32]) (AaC _) rfl 37);refine zNM ?_
   refine⟨M.o.at6,?_⟩
   refine zXS M 1 (cpP s.just) (cpP s.just) (AaC _) (AaO _) ?_;clear M;intro w7 M
   refine⟨M.o.at6,?_⟩
   refine zXS M 0 (cpP s.fin) (cpP s.fin) (AaC _) (AaO _) ?_;clear M;intro w7 M
   refine⟨M.o.at6,?_⟩
   refine zMR7 ?_
   refine NoPanic.normal ?_
   go_wp2_with fail
   go_meet
   case rel=>exact⟨_,_,rfl,rfl,M.o⟩
  .refine AaA (AaR rfl ztCp) rfl ?_;replace M:=bx (M.o.alloc (P:=(cpP cp0)) (ls:=[1,32]) (AaC _) rfl 37);refine zNM ?_
   refine⟨M.o.at5,?_⟩
   refine AaA (AaR rfl ztCp) rfl ?_;replace M:=bx (M.o.alloc (P:=(cpP cp0)) (ls:=[1,32]) (AaC _) rfl 37);refine zNM ?_
   refine⟨M.o.at6,?_⟩
   refine zXS M 0 (cpP s.just) (cpP s.just) (AaC _) (AaO _) ?_;clear M;intro w7 M
   refine⟨M.o.at6,?_⟩
   refine zXS M 1 (cpP s.fin) (cpP s.fin) (AaC _) (AaO _) ?_;clear M;intro w7 M
   refine⟨M.o.at6,?_⟩
   refine zMR7 ?_
   refine NoPanic.normal ?_
   go_wp2_with fail
   go_meet
   case rel=>exact⟨_,_,rfl,rfl,M.o.lswap⟩
 case rest=>
  obtain⟨ga,gb,rfl,rfl,hM⟩:=hcut
  clear M
  have M:=bx hM
  clear hM
  go_upto_if 23 with(refine zLAo ?_)
  go_cut []from 13 (fun wx=>MM Γ w Γ wx [⟨gb,cpP s.fin,[1,32]⟩,⟨ga,cpP ca,[1,32]⟩,⟨g,cpP cp0,[1,32]⟩,⟨g6,cpP cp0,[1,32]⟩,⟨gf,cpP f,[1,32]⟩,⟨gj,cpP j,[1,32]⟩,⟨gs,stP s v,stL⟩] [])
  case first=>
   by_cases hj:s.just.e.n<j.e.n
   .have hj':(s.just.e.n:Int)<(j.e.n:Int):=by omega
    have E:=A1.o hj
    clear A1 A2
    (go_wp2_with (first|refine zLAo ?_|(refine zSSo M 1 (cpP j) (cpP j) (AaC _) (AaO _) ?_;clear M;intro w' M)))
    go_meet
    case rel=>rw[E];exact M.o
   .have hj':¬(s.just.e.n:Int)<(j.e.n:Int):=by omega
    have E:=A2.o hj
    clear A1 A2
    (go_wp2_with (fail))
    go_meet
    case rel=>rw[E];exact M.o
  case rest=>
   clear M A1 A2
   have M:=bx hcut
   clear hcut
   go_upto_if 29 with(refine zLAo ?_)
   go_cut []from 13 (fun wx=>MM Γ w Γ wx [⟨gb,cpP cb,[1,32]⟩,⟨ga,cpP ca,[1,32]⟩,⟨g,cpP cp0,[1,32]⟩,⟨g6,cpP cp0,[1,32]⟩,⟨gf,cpP f,[1,32]⟩,⟨gj,cpP j,[1,32]⟩,⟨gs,stP s v,stL⟩] [])
   case first=>
    by_cases hj:s.fin.e.n<f.e.n
    .have hj':(s.fin.e.n:Int)<(f.e.n:Int):=by omega
     have E:=B1.o hj
     clear B1 B2
     (go_wp2_with (first|refine zLAo ?_|(refine zSSo M 0 (cpP f) (cpP f) (AaC _) (AaO _) ?_;clear M;intro w' M)))
     go_meet
     case rel=>rw[E];exact M.o
    .have hj':¬(s.fin.e.n:Int)<(f.e.n:Int):=by omega
     have E:=B2.o hj
     clear B1 B2
     (go_wp2_with (fail))
     go_meet
     case rel=>rw[E];exact M.o
   case rest=>
    clear M B1 B2
    have M:=bx hcut
    clear hcut
    go_wp2_with fail
    have EF1:=bx (FI.o ca.r)
    rw[n1]at EF1
    replace EF1:=bx (clsE M.o EF1.o)
    have EF2:=bx (clsE M.o (FI.o cb.r))
    clear FI FT EA AN EP n1
    generalize fndI s.nodes cb.r=z at *
    refine zRG ?_;(repeat((go_big_quiet_want;first|((with_reducible refine AbD ?_);first|((first|refine zQC (AaJ EF1.o) Tryz.func24 ?_|refine zQC (AaJ EF2.o) Tryz.func24 ?_);go_big_quiet_on;refine zNM ?_))|(refine zQAo ?_;go_big_quiet_on;refine zNM ?_)|(refine zQO ?_;go_big_quiet_on))));(refine zQN ?_;clear M;intro w4 M);clear EF1 EF2;(go_wp2_with fail);(refine zRG ?_);(try simp only[List.append_eq,List.cons_append,List.nil_append]);(repeat(first|go_big_quiet_skip|(go_big_quiet_want;(refine zQO ?_;go_big_quiet_on))));(refine zQN ?_;clear M;intro w4 M);(go_wp2_with (first|refine zLAo ?_|refine zBDo 37 [] (fl (cpP cp0)) (by kernel_rfl) ?_|((first|refine zSSo M 3 (cpP cp0) (cpP cp0) (AaC _) (AaO _) ?_|refine zSSo M 2 (cpP cp0) (cpP cp0) (AaC _) (AaO _) ?_);clear M;intro w' M)));(try refine zsm ?_);refine bodyPost_ret (Aas (by rfl) _ M.o.at3 M.o.at2 (by rfl) (by rfl) rtCk rtCk rfl rfl) rfl ?_;exact⟨rfl,M.o.ext⟩
theorem Aq1(Γ:Gam)(s:Sto)(v:Sls)(j f:Cp)(hs:SpeOk s)(hk:Lk (upsN s.nodes))(hb:s.nodes.length<=4096)(ht:s.tabs.length<=65535)(w:World)(ok:Ok Γ w)(h:StG Γ v s)(ca cb:Cp)(hca:laterC s.just j=ca)(hcb:laterC s.fin f=cb)(i:Nat)(n1:fndI s.nodes ca.r=(i:Int))(n2:fndI s.nodes cb.r = -1) :
  Calls Tryz.prog 186 #[.agg (fl (stP s v)).toArray,.agg (fl (cpP j)).toArray,.agg (fl (cpP f)).toArray] w fun e w'=>e=.returned (.tuple #[.agg (fl (cpP cp0)).toArray,.agg (fl (cpP cp0)).toArray,.bool false])/\Ext Γ w Γ w':=by
 have M:=bx (MM.start ok)
 have HG:=bx h
 have LN:=bx h.nodes.n
 have hsp:0<s.c.spe.n:=hs.1
 have FI:=bx (fun r w ok=>Aag Γ v.nodes s.nodes r w ok h.nodes)
 have EA:=bx (fun k e (hk:k<s.nodes.length) w ok=>Afs Γ s v k e hs hk w ok h)
 have AN:=bx (fun a b w ok=>AeT Γ v.nodes s.nodes a b w ok h.nodes hk hb)
 have EP:=bx (fun w ok=>AbZ Γ s v s.now hsp w ok)
 have FT:Bx (∀a w,Ok Γ w->Calls Tryz.prog 106 #[v.tabs.v,.agg (fl (cpP a)).toArray] w fun e w'=>e=.returned (.int .i64 (idxI (fun t=>decide (t.c=a)) s.tabs))/\Ext Γ w Γ w'):=⟨fun a w ok=>Abq Γ v.tabs.A v.tabs.n v.tabs.c s.tabs a (by rw[<-h.tabs.2.1];exact ht) w ok h.tabs.2⟩
 have A1:Bx (s.just.e.n<j.e.n->ca=j):=⟨fun h=>by rw[<-hca];exact if_pos h⟩
 have A2:Bx (¬s.just.e.n<j.e.n->ca=s.just):=⟨fun h=>by rw[<-hca];exact if_neg h⟩
 have B1:Bx (s.fin.e.n<f.e.n->cb=f):=⟨fun h=>by rw[<-hcb];exact if_pos h⟩
 have B2:Bx (¬s.fin.e.n<f.e.n->cb=s.fin):=⟨fun h=>by rw[<-hcb];exact if_neg h⟩
 clear ok h hk hb ht hs hsp hca hcb
 go_enter Tryz.func186,Tryz.ntmps186
 go_upto_region 1 with(first|((first|refine zBXo ?_|refine zALo (ztCp) ?_);clear M;intro w' g M))
 rename_i gs _ gj _ gf _ g6 _ _
 go_cut [9,10]from 13 (fun s9 s10 wx=>∃ga gb,s9=.pointer (some ⟨ga,0,none⟩)/\s10=.pointer (some ⟨gb,0,none⟩)/\MM Γ w Γ wx [⟨gb,cpP s.fin,[1,32]⟩,⟨ga,cpP s.just,[1,32]⟩,⟨g,cpP cp0,[1,32]⟩,⟨g6,cpP cp0,[1,32]⟩,⟨gf,cpP f,[1,32]⟩,⟨gj,cpP j,[1,32]⟩,⟨gs,stP s v,stL⟩] [])
 case first=>
  go_wp2_with fail
  refine AaF (fun w'=>HL w' gs (stP s v) stL) (.steps [(1,0),(1,1),(0,2),(1,3),(1,4),(0,5)] (.fork 6 (.steps [(2,7),(3,8),(3,9)] .leaf) 7 (.steps [(2,6),(3,8),(3,9)] .leaf))) (by kernel_rfl) (by kernel_rfl) M.o.drew.at4 ?_;(simp only[MixT7,MT.steps,stepI,List.getD_cons_zero,List.getD_cons_succ]);replace M:=bx (M.o.drew)
  (repeat(first|refine zM0 ?_|(go_big_quiet_want;first|(refine zQL (fun _ h=>h) (AaD s v) ?_;go_big_quiet_on;refine zNM ?_)|(refine zQO ?_;go_big_quiet_on))))
  refine⟨?_,?_⟩
  .refine AaA (AaR rfl ztCp) rfl ?_;replace M:=bx (M.o.alloc (P:=(cpP cp0)) (ls:=[1,32]) (AaC _) rfl 37);refine zNM ?_
   refine⟨M.o.at5,?_⟩
   refine AaA (AaR rfl ztCp) rfl ?_;replace M:=bx (M.o.alloc (P:=(cpP cp0)) (ls:=[1,32]) (AaC _) rfl 37);refine zNM ?_
   refine⟨M.o.at6,?_⟩
   refine zXS M 1 (cpP s.just) (cpP s.just) (AaC _) (AaO _) ?_;clear M;intro w7 M
   refine⟨M.o.at6,?_⟩
   refine zXS M 0 (cpP s.fin) (cpP s.fin) (AaC _) (AaO _) ?_;clear M;intro w7 M
   refine⟨M.o.at6,?_⟩
   refine zMR7 ?_
   refine NoPanic.normal ?_
   go_wp2_with fail
   go_meet
   case rel=>exact⟨_,_,rfl,rfl,M.o⟩
  .refine AaA (AaR rfl ztCp) rfl ?_;replace M:=bx (M.o.alloc (P:=(cpP cp0)) (ls:=[1,32]) (AaC _) rfl 37);refine zNM ?_
   refine⟨M.o.at5,?_⟩
   refine AaA (AaR rfl ztCp) rfl ?_;replace M:=bx (M.o.alloc (P:=(cpP cp0)) (ls:=[1,32]) (AaC _) rfl 37);refine zNM ?_
   refine⟨M.o.at6,?_⟩
   refine zXS M 0 (cpP s.just) (cpP s.just) (AaC _) (AaO _) ?_;clear M;intro w7 M
   refine⟨M.o.at6,?_⟩
   refine zXS M 1 (cpP s.fin) (cpP s.fin) (AaC _) (AaO _) ?_;clear M;intro w7 M
   refine⟨M.o.at6,?_⟩
   refine zMR7 ?_
   refine NoPanic.normal ?_
   go_wp2_with fail
   go_meet
   case rel=>exact⟨_,_,rfl,rfl,M.o.lswap⟩
 case rest=>
  obtain⟨ga,gb,rfl,rfl,hM⟩:=hcut
  clear M
  have M:=bx hM
  clear hM
  go_upto_if 23 with(refine zLAo ?_)
  go_cut []from 13 (fun wx=>MM Γ w Γ wx [⟨gb,cpP s.fin,[1,32]⟩,⟨ga,cpP ca,[1,32]⟩,⟨g,cpP cp0,[1,32]⟩,⟨g6,cpP cp0,[1,32]⟩,⟨gf,cpP f,[1,32]⟩,⟨gj,cpP j,[1,32]⟩,⟨gs,stP s v,stL⟩] [])
  case first=>
   by_cases hj:s.just.e.n<j.e.n
   .have hj':(s.just.e.n:Int)<(j.e.n:Int):=by omega
    have E:=A1.o hj
    clear A1 A2
    (go_wp2_with (first|refine zLAo ?_|(refine zSSo M 1 (cpP j) (cpP j) (AaC _) (AaO _) ?_;clear M;intro w' M)))
    go_meet
    case rel=>rw[E];exact M.o
   .have hj':¬(s.just.e.n:Int)<(j.e.n:Int):=by omega
    have E:=A2.o hj
    clear A1 A2
    (go_wp2_with (fail))
    go_meet
    case rel=>rw[E];exact M.o
  case rest=>
   clear M A1 A2
   have M:=bx hcut
   clear hcut
   go_upto_if 29 with(refine zLAo ?_)
   go_cut []from 13 (fun wx=>MM Γ w Γ wx [⟨gb,cpP cb,[1,32]⟩,⟨ga,cpP ca,[1,32]⟩,⟨g,cpP cp0,[1,32]⟩,⟨g6,cpP cp0,[1,32]⟩,⟨gf,cpP f,[1,32]⟩,⟨gj,cpP j,[1,32]⟩,⟨gs,stP s v,stL⟩] [])
   case first=>
    by_cases hj:s.fin.e.n<f.e.n
    .have hj':(s.fin.e.n:Int)<(f.e.n:Int):=by omega
     have E:=B1.o hj
     clear B1 B2
     (go_wp2_with (first|refine zLAo ?_|(refine zSSo M 0 (cpP f) (cpP f) (AaC _) (AaO _) ?_;clear M;intro w' M)))
     go_meet
     case rel=>rw[E];exact M.o
    .have hj':¬(s.fin.e.n:Int)<(f.e.n:Int):=by omega
     have E:=B2.o hj
     clear B1 B2
     (go_wp2_with (fail))
     go_meet
     case rel=>rw[E];exact M.o
   case rest=>
    clear M B1 B2
    have M:=bx hcut
    clear hcut
    go_wp2_with fail
    have EF1:=bx (FI.o ca.r)
    rw[n1]at EF1
    have EF2:=bx (FI.o cb.r)
    rw[n2]at EF2
    replace EF1:=bx (clsE M.o EF1.o)
    replace EF2:=bx (clsE M.o EF2.o)
    have i0:0<=(i:Int):=by omega
    have i0':decide ((i:Int)<0)=false:=decide_eq_false (by omega)
    clear FI FT EA AN EP n1 n2
    refine zRG ?_;(repeat((go_big_quiet_want;first|((with_reducible refine AbD ?_);first|((first|refine zQC (AaJ EF1.o) Tryz.func24 ?_|refine zQC (AaJ EF2.o) Tryz.func24 ?_);go_big_quiet_on;refine zNM ?_))|(refine zQAo ?_;go_big_quiet_on;refine zNM ?_)|(refine zQO ?_;go_big_quiet_on))));(refine zQN ?_;clear M;intro w4 M);clear EF1 EF2;(go_wp2_with fail);(refine zRG ?_);(try simp only[List.append_eq,List.cons_append,List.nil_append]);(repeat(first|go_big_quiet_skip|(go_big_quiet_want;(refine zQO ?_;go_big_quiet_on))));(refine zQN ?_;clear M;intro w4 M);(go_wp2_with (first|refine zLAo ?_|refine zBDo 37 [] (fl (cpP cp0)) (by kernel_rfl) ?_|((first|refine zSSo M 3 (cpP cp0) (cpP cp0) (AaC _) (AaO _) ?_|refine zSSo M 2 (cpP cp0) (cpP cp0) (AaC _) (AaO _) ?_);clear M;intro w' M)));(try refine zsm ?_);refine bodyPost_ret (Aas (by rfl) _ M.o.at3 M.o.at2 (by rfl) (by rfl) rtCk rtCk rfl rfl) rfl ?_;exact⟨rfl,M.o.ext⟩
end Go.Proofs.YtpaihpeoiliioaaGreat
