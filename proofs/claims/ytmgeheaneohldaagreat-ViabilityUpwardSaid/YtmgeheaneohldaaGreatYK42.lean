/- Texts joined: what the walks of this claim stand on (part 42 of 43). -/
import Derived.Test.YtmgeheaneohldaaGreatYK41
set_option linter.all false
set_option maxRecDepth 20000
set_option maxHeartbeats 40000000
namespace Go.Proofs.YtmgeheaneohldaaGreat
open Go.RowKit Go.Proofs.YtmgeheaneohldaaGreat.Old
theorem viabilityUpward_walk(a0:Option Addr)(n0 c0:Nat)(l0:List Int)(w:World)(_:Fit .i64 l0)(_:l0.length=n0)(hr0:Row w w.heap.size 1 a0 n0 (ints .i64 l0))(hnc0:n0<=c0)(hcm0:c0<=maxLen) :
  Calls Tryz.prog 4 #[.slice a0 n0 c0] w fun e w'=>e=.returned (.bool true)/\Below w.heap.size w w':=by
 have M:=bx (MM.start (AeE w))
 have ST:=bx (Adr g0 a0 n0 c0 l0 w (AeE w) hr0 (Nat.le_trans hnc0 hcm0))
 clear hr0 hnc0 hcm0
 go_enter Tryz.func4,Tryz.ntmps4
 (go_wp2_with (first|go_skip|(refine zBXd ?_;clear M;intro w' g M)|(refine zALd (ztSt) ?_;clear M;intro w' g M)|fail|refine zLAd ?_))
 refine ST.out.mono ?_
 rintro e1 w1 ⟨x,z,Γ1,rfl,hz,hg,hx⟩
 replace M:=bx (M.out.call hx)
 have HI:=bx hz.s
 have HG:=bx hg.s
 have HN0:x.s.nodes.n=z.s.nodes.length:=hg.s.nodes.n
 clear hx hz hg ST
 go_upto_region 2 with(first|go_skip|((with_reducible apply Adn AmE);rfl;rfl;rfl;exact AaL _ _;exact zrts;rfl;refine zCT ?_)|((refine zALd (ztSt) ?_;clear M;intro w' g M);(obtain⟨g5,hg0⟩:∃y,y=g:=⟨_,rfl⟩);subst hg0)|(refine zSSd M 0 (stP z.s x.s) (stP z.s x.s) (AaD _ _) (Aac _ _) ?_;clear M;intro w' M)|refine zLAd ?_)
 generalize z.s=s at *
 generalize x.s=v at *
 have LV:=bx (fun w ok=>Ado Γ1 s v HI.out.spe (Abu HI.out.t.lk) (Aln HI.out.t.lk) HI.out.t.pos (by have:=HI.out.nl;omega) w ok HG.out)
 have LL:Bx (s.lives.length=s.nodes.length):=⟨by simp[Sto.lives]⟩
 have LG:Bx (∀i (h:i<s.lives.length),s.lives[i]=s.lv i):=⟨fun i h=>AjQ h⟩
 obtain⟨N,hN⟩:∃N,v.nodes.n=N:=⟨_,rfl⟩
 have HV:Bx (v.nodes.v=.slice v.nodes.A N v.nodes.c):=⟨by rw[<-hN]⟩
 rw[hN]at HN0
 have HLN:=bx HN0
 clear HN0 hN
 generalize s.lives=lv at *
 (go_wp2_with (first|go_skip|(refine zBXd ?_;clear M;intro w' g M)|(refine zALd (ztSt) ?_;clear M;intro w' g M)|fail|refine zLAd ?_))
 refine(LV.out _ M.ok).mono ?_
 rintro e1 w1 ⟨A,c,Γ2,rfl,hcap,hsl,hx⟩
 replace M:=bx (M.out.call hx)
 have HL:=bx hsl
 have HG2:=bx (HG.out.mono hx.le)
 clear hx hcap hsl LV HG
 have hnN:lv.length=N:=by rw[LL.out,HLN.out]
 have LG2:Bx (∀i (h:i<lv.length),lv[i]=s.lv i):=LG
 have HLL:=bx hnN
 rw[hnN]at HL |-
 clear LG LL hnN
 have hN96:N<=4096:=by have h1:=HI.out.nl;have h2:=HLN.out;omega
 (go_wp2_with (first|go_skip|(refine zBXd ?_;clear M;intro w' g M)|(refine zALd (ztSt) ?_;clear M;intro w' g M)|refine zLHd HV ?_|refine zLAd ?_))
 go_loopw [5,6,7,8] (fun i s6 s7 s8 wr=>∃(j:Nat) (Γi:Gam),j<=N/\i=.int .i64 (j:Int)/\Le Γ2 Γi/\MM g0 w Γi wr [⟨g5,stP s v,stL⟩] []) (fun i _ _ _ _=>N-(intOf i).toNat)
 case atStart=>exact⟨0,Γ2,Nat.zero_le _,rfl,Le.refl _,M.out⟩
 case round=>
  obtain⟨j,Γi,hj,rfl,hle,hM⟩:=hrel
  clear M
  have M:=bx hM
  have HGi:=bx (HG2.out.mono hle)
  have HLi:=bx (HL.out.mono hle)
  have HLE:=bx hle
  clear hM hle
  by_cases hjN:j<N
  .have hji:(j:Int)<(N:Int):=by omega
   have hj0:(0:Int)<=(j:Int):=by omega
   have hjl:j<s.nodes.length:=by rw[<-HLN.out];exact hjN
   obtain⟨gb,hAb,hcb⟩:=Ady (by rw[HLL.out];exact HLi.out) j (by rw[HLL.out];exact hjN)
   subst hAb
   have hjv:j<lv.length:=by rw[HLL.out];exact hjN
   have F1:Bx (Fz Γi gb j [[.bool lv[j]]] [1]):=⟨⟨hcb,rfl⟩⟩
   obtain⟨gn,hA,hf⟩:=HGi.out.nodeAt j hjl
   have HA:Bx (v.nodes.v=.slice (some ⟨gn,0,none⟩) N v.nodes.c):=⟨by rw[hA];have:=HV.out;simp only[Value.slice.injEq]at this;rw[this.2.1]⟩
   have F2:=bx hf
   have hLj:lv[j]=s.lv j:=LG2.out j _
   have hDE:=Al9 HI.out.t.lk hjl
   have hST:s.lv j=true->s.nodes[j].st≠2:=fun hl h2=>by rw[Alb HI.out.t s.nodes.length j hjl (by omega) h2]at hl;cases hl
   have hUP:s.lv j=true->0<j->∃u:Nat,∃hu:u<lv.length,s.nodes[j].up=(u:Int)/\lv[u]=true:=fun hl h0=>by
    rcases AdE HI.out.t.lk hjl with⟨e,_⟩|⟨u,hu,e⟩
    .omega
    .have hul:u<lv.length:=by rw[HLL.out];omega
     exact⟨u,hul,e,by rw[LG2.out u hul];exact Amv HI.out.t.lk hjl e hl⟩
   rw[hLj]at F1
   clear hLj
   have DE:=bx (fun w' ok'=>Agd Γi v.nodes s.nodes j w' ok' HGi.out.nodes HI.out.t.lk (by have:=HI.out.nl;omega))
   have PD:Bx (∀k∈descI s.nodes j,k<s.nodes.length):=⟨fun k hk=>(Afm.1 hk).1⟩
   have hel:(descI s.nodes j).length<=4096:=Nat.le_trans (Agp _ _) (by have:=HI.out.nl;omega)
   have VQ:=bx (fun(Γ':Gam) i w' (hl:Le Γi Γ') (ok':Ok Γ' w')=>AbK Γ' s v i HI.out.spe w' ok' (HGi.out.mono hl))
   generalize descI s.nodes j=E at *
   have HDE:=bx hDE
   clear hDE HI hA hf hcb
   generalize s.nodes[j]=y at *
   cases hb:s.lv j with
   |true=>
    have hst:(y.st==2)=false:=beq_eq_false_iff_ne.2 (hST hb)
    rw[hb]at F1
    have HDT:Bx (E.any (fun k=>s.qual (k:Int))=true):=⟨by rw[HDE.out,hb]⟩
    clear HDE
    rcases Nat.eq_zero_or_pos j with h0|h0
    .have hjp:¬(0:Int)<(j:Int):=by omega
     have hjd:decide ((0:Int)<(j:Int))=false:=decide_eq_false hjp
     have hjd2:decide (0<j)=false:=decide_eq_false (by omega)
     clear hST hUP hb h0
     go_upto_region 10 with(first|go_skip|go_guarded|refine zRFd F1 ?_|refine zLAd ?_)
     (go_wp2_with (first|go_skip|(refine zBXd ?_;clear M;intro w' g M)|(refine zALd (ztSt) ?_;clear M;intro w' g M)|refine zLHd HA ?_|refine zRFd F1 ?_|refine zRFd F2 ?_|refine zLAd ?_))
     (refine(DE.out _ M.ok).mono ?_)
     rintro e1 w1 ⟨A2,c2,Γk,rfl,hcap,hsl,hx⟩
     replace M:=bx (M.out.call hx)
     have HS:=bx hsl
     have LX:=bx hx.le
     have F1k:=bx (F1.out.mono hx.le)
     clear hcap hsl hx DE F1
     (go_wp2_with (first|go_skip|(refine zBXd ?_;clear M;intro w' g M)|(refine zALd (ztSt) ?_;clear M;intro w' g M)|fail|refine zLAd ?_))
     go_loopw [6,8] (fun s6 i8 wr=>∃k:Nat,k<=E.length/\i8=.int .i64 (k:Int)/\s6=.bool ((E.take k).any fun k=>s.qual (k:Int))/\MM g0 w Γk wr [⟨g5,stP s v,stL⟩] []) (fun _ i8 _=>E.length-(intOf i8).toNat)
     case atStart=>exact⟨0,Nat.zero_le _,rfl,rfl,M.out⟩
     case round=>
      obtain⟨k,hk,rfl,rfl,hM⟩:=hrel
      clear M
      have M:=bx hM
      clear hM
      by_cases hkE:k<E.length
      .have hkE':(k:Int)<(E.length:Int):=by omega
       have hk0:(0:Int)<=(k:Int):=by omega
       obtain⟨g4,hA4,hc4⟩:=Acr HS.out k hkE
       subst hA4
       have F4:Bx (Fz Γk g4 k [[.int .i64 (E[k]:Int)]] [1]):=⟨⟨hc4,rfl⟩⟩
       have NX:Bx ((E.take (k+1)).any (fun k=>s.qual (k:Int))=((E.take k).any (fun k=>s.qual (k:Int))||s.qual (E[k]:Int))):=⟨by rw[List.take_succ_eq_append_getElem hkE,List.any_append];simp⟩
       have C0:=bx (clsE M.out fun w' ok'=>VQ.out Γk (E[k]:Int) w' LX.out ok')
       clear hc4
       generalize E[k]=d at *
       generalize(E.take k).any (fun k=>s.qual (k:Int))=cur at *
       cases cur with
       |true=>
        (go_wp2_with (first|go_skip|(refine zBXd ?_;clear M;intro w' g M)|(refine zALd (ztSt) ?_;clear M;intro w' g M)|fail|refine zLAd ?_))
        (refine zQXd ?_;clear M;intro w4 M)
        (go_wp2_with (first|go_skip|(refine zBXd ?_;clear M;intro w' g M)|(refine zALd (ztSt) ?_;clear M;intro w' g M)|fail|refine zLAd ?_))
        go_roundw
        case rel=>exact⟨k+1,by omega,by go_num,by rw[NX.out];rfl,M.out⟩
        case measure=>simp[intOf];omega
       |false=>
        generalize s.qual (d:Int)=qd at *
        (go_wp2_with (first|go_skip|(refine zBXd ?_;clear M;intro w' g M)|(refine zALd (ztSt) ?_;clear M;intro w' g M)|fail|refine zLAd ?_))
        refine zRG ?_;(repeat(first|go_big_quiet_skip|(go_big_quiet_want;first|(refine zQC (AaI C0.out) Tryz.func18 ?_;go_big_quiet_on;refine zNM ?_)|(refine zQFd F4 ?_;go_big_quiet_on;refine zNM ?_)|(refine zQAd ?_;go_big_quiet_on;refine zNM ?_)|(refine zQO ?_;go_big_quiet_on))));(refine zQN ?_;clear M;intro w4 M)
        (go_wp2_with (first|go_skip|(refine zBXd ?_;clear M;intro w' g M)|(refine zALd (ztSt) ?_;clear M;intro w' g M)|fail|refine zLAd ?_))
        go_roundw
        case rel=>exact⟨k+1,by omega,by go_num,by rw[NX.out];rfl,M.out⟩
        case measure=>simp[intOf];omega
      .obtain rfl:k=E.length:=by omega
       rw[List.take_length,HDT.out]
       (go_wp2_with (first|go_skip|(refine zBXd ?_;clear M;intro w' g M)|(refine zALd (ztSt) ?_;clear M;intro w' g M)|refine zRFd F1k ?_|refine zLAd ?_))
       go_roundw
       case rel=>exact⟨j+1,Γk,by omega,by go_num,HLE.out.trans LX.out,M.out⟩
       case measure=>simp[intOf];omega
    .obtain⟨u,hu,hup,hlu⟩:=hUP hb h0
     obtain⟨g3,e3,hc3⟩:=Ady (by rw[HLL.out];exact HLi.out) u hu
     obtain rfl:gb=g3:=by simpa using e3
     rw[hlu]at hc3
     have F3:Bx (Fz Γi gb u [[.bool true]] [1]):=⟨⟨hc3,rfl⟩⟩
     have hui:(u:Int)<(N:Int):=by have:=HLL.out;omega
     have hu0:(0:Int)<=(u:Int):=by omega
     have hjp:(0:Int)<(j:Int):=by omega
     clear hST hUP hb e3 hc3 hu hlu h0
     (go_wp2_with (first|go_skip|(refine zBXd ?_;clear M;intro w' g M)|(refine zALd (ztSt) ?_;clear M;intro w' g M)|refine zLHd HA ?_|refine zRFd F1 ?_|refine zRFd F2 ?_|refine zRFd F3 ?_|refine zLAd ?_))
     (refine(DE.out _ M.ok).mono ?_)
     rintro e1 w1 ⟨A2,c2,Γk,rfl,hcap,hsl,hx⟩
     replace M:=bx (M.out.call hx)
     have HS:=bx hsl
     have LX:=bx hx.le
     have F1k:=bx (F1.out.mono hx.le)
     clear hcap hsl hx DE F1
     (go_wp2_with (first|go_skip|(refine zBXd ?_;clear M;intro w' g M)|(refine zALd (ztSt) ?_;clear M;intro w' g M)|fail|refine zLAd ?_))
     go_loopw [6,8] (fun s6 i8 wr=>∃k:Nat,k<=E.length/\i8=.int .i64 (k:Int)/\s6=.bool ((E.take k).any fun k=>s.qual (k:Int))/\MM g0 w Γk wr [⟨g5,stP s v,stL⟩] []) (fun _ i8 _=>E.length-(intOf i8).toNat)
     case atStart=>exact⟨0,Nat.zero_le _,rfl,rfl,M.out⟩
     case round=>
      obtain⟨k,hk,rfl,rfl,hM⟩:=hrel
      clear M
      have M:=bx hM
      clear hM
      by_cases hkE:k<E.length
      .have hkE':(k:Int)<(E.length:Int):=by omega
       have hk0:(0:Int)<=(k:Int):=by omega
       obtain⟨g4,hA4,hc4⟩:=Acr HS.out k hkE
       subst hA4
       have F4:Bx (Fz Γk g4 k [[.int .i64 (E[k]:Int)]] [1]):=⟨⟨hc4,rfl⟩⟩
       have NX:Bx ((E.take (k+1)).any (fun k=>s.qual (k:Int))=((E.take k).any (fun k=>s.qual (k:Int))||s.qual (E[k]:Int))):=⟨by rw[List.take_succ_eq_append_getElem hkE,List.any_append];simp⟩
       have C0:=bx (clsE M.out fun w' ok'=>VQ.out Γk (E[k]:Int) w' LX.out ok')
       clear hc4
       generalize E[k]=d at *
       generalize(E.take k).any (fun k=>s.qual (k:Int))=cur at *
       cases cur with
       |true=>
        (go_wp2_with (first|go_skip|(refine zBXd ?_;clear M;intro w' g M)|(refine zALd (ztSt) ?_;clear M;intro w' g M)|fail|refine zLAd ?_))
        (refine zQXd ?_;clear M;intro w4 M)
        (go_wp2_with (first|go_skip|(refine zBXd ?_;clear M;intro w' g M)|(refine zALd (ztSt) ?_;clear M;intro w' g M)|fail|refine zLAd ?_))
        go_roundw
        case rel=>exact⟨k+1,by omega,by go_num,by rw[NX.out];rfl,M.out⟩
        case measure=>simp[intOf];omega
       |false=>
        generalize s.qual (d:Int)=qd at *
        (go_wp2_with (first|go_skip|(refine zBXd ?_;clear M;intro w' g M)|(refine zALd (ztSt) ?_;clear M;intro w' g M)|fail|refine zLAd ?_))
        refine zRG ?_;(repeat(first|go_big_quiet_skip|(go_big_quiet_want;first|(refine zQC (AaI C0.out) Tryz.func18 ?_;go_big_quiet_on;refine zNM ?_)|(refine zQFd F4 ?_;go_big_quiet_on;refine zNM ?_)|(refine zQAd ?_;go_big_quiet_on;refine zNM ?_)|(refine zQO ?_;go_big_quiet_on))));(refine zQN ?_;clear M;intro w4 M)
        (go_wp2_with (first|go_skip|(refine zBXd ?_;clear M;intro w' g M)|(refine zALd (ztSt) ?_;clear M;intro w' g M)|fail|refine zLAd ?_))
        go_roundw
        case rel=>exact⟨k+1,by omega,by go_num,by rw[NX.out];rfl,M.out⟩
        case measure=>simp[intOf];omega
      .obtain rfl:k=E.length:=by omega
       rw[List.take_length,HDT.out]
       (go_wp2_with (first|go_skip|(refine zBXd ?_;clear M;intro w' g M)|(refine zALd (ztSt) ?_;clear M;intro w' g M)|refine zRFd F1k ?_|refine zLAd ?_))
       go_roundw
       case rel=>exact⟨j+1,Γk,by omega,by go_num,HLE.out.trans LX.out,M.out⟩
       case measure=>simp[intOf];omega
   |false=>
    rw[hb]at F1
    have HDT:Bx (E.any (fun k=>s.qual (k:Int))=false):=⟨by rw[HDE.out,hb]⟩
    clear HDE hST hUP hb F2
    (go_wp2_with (first|go_skip|go_guarded|refine zRFd F1 ?_|refine zLAd ?_))
    (refine(DE.out _ M.ok).mono ?_)
    rintro e1 w1 ⟨A2,c2,Γk,rfl,hcap,hsl,hx⟩
    replace M:=bx (M.out.call hx)
    have HS:=bx hsl
    have LX:=bx hx.le
    have F1k:=bx (F1.out.mono hx.le)
    clear hcap hsl hx DE F1
    (go_wp2_with (first|go_skip|(refine zBXd ?_;clear M;intro w' g M)|(refine zALd (ztSt) ?_;clear M;intro w' g M)|fail|refine zLAd ?_))
    go_loopw [6,8] (fun s6 i8 wr=>∃k:Nat,k<=E.length/\i8=.int .i64 (k:Int)/\s6=.bool ((E.take k).any fun k=>s.qual (k:Int))/\MM g0 w Γk wr [⟨g5,stP s v,stL⟩] []) (fun _ i8 _=>E.length-(intOf i8).toNat)
    case atStart=>exact⟨0,Nat.zero_le _,rfl,rfl,M.out⟩
    case round=>
     obtain⟨k,hk,rfl,rfl,hM⟩:=hrel
     clear M
     have M:=bx hM
     clear hM
     by_cases hkE:k<E.length
     .have hkE':(k:Int)<(E.length:Int):=by omega
      have hk0:(0:Int)<=(k:Int):=by omega
      obtain⟨g4,hA4,hc4⟩:=Acr HS.out k hkE
      subst hA4
      have F4:Bx (Fz Γk g4 k [[.int .i64 (E[k]:Int)]] [1]):=⟨⟨hc4,rfl⟩⟩
      have NX:Bx ((E.take (k+1)).any (fun k=>s.qual (k:Int))=((E.take k).any (fun k=>s.qual (k:Int))||s.qual (E[k]:Int))):=⟨by rw[List.take_succ_eq_append_getElem hkE,List.any_append];simp⟩
      have C0:=bx (clsE M.out fun w' ok'=>VQ.out Γk (E[k]:Int) w' LX.out ok')
      clear hc4
      generalize E[k]=d at *
      generalize(E.take k).any (fun k=>s.qual (k:Int))=cur at *
      cases cur with
      |true=>
       (go_wp2_with (first|go_skip|(refine zBXd ?_;clear M;intro w' g M)|(refine zALd (ztSt) ?_;clear M;intro w' g M)|fail|refine zLAd ?_))
       (refine zQXd ?_;clear M;intro w4 M)
       (go_wp2_with (first|go_skip|(refine zBXd ?_;clear M;intro w' g M)|(refine zALd (ztSt) ?_;clear M;intro w' g M)|fail|refine zLAd ?_))
       go_roundw
       case rel=>exact⟨k+1,by omega,by go_num,by rw[NX.out];rfl,M.out⟩
       case measure=>simp[intOf];omega
      |false=>
       generalize s.qual (d:Int)=qd at *
       (go_wp2_with (first|go_skip|(refine zBXd ?_;clear M;intro w' g M)|(refine zALd (ztSt) ?_;clear M;intro w' g M)|fail|refine zLAd ?_))
       refine zRG ?_;(repeat(first|go_big_quiet_skip|(go_big_quiet_want;first|(refine zQC (AaI C0.out) Tryz.func18 ?_;go_big_quiet_on;refine zNM ?_)|(refine zQFd F4 ?_;go_big_quiet_on;refine zNM ?_)|(refine zQAd ?_;go_big_quiet_on;refine zNM ?_)|(refine zQO ?_;go_big_quiet_on))));(refine zQN ?_;clear M;intro w4 M)
       (go_wp2_with (first|go_skip|(refine zBXd ?_;clear M;intro w' g M)|(refine zALd (ztSt) ?_;clear M;intro w' g M)|fail|refine zLAd ?_))
       go_roundw
       case rel=>exact⟨k+1,by omega,by go_num,by rw[NX.out];rfl,M.out⟩
       case measure=>simp[intOf];omega
     .obtain rfl:k=E.length:=by omega
      rw[List.take_length,HDT.out]
      (go_wp2_with (first|go_skip|(refine zBXd ?_;clear M;intro w' g M)|(refine zALd (ztSt) ?_;clear M;intro w' g M)|refine zRFd F1k ?_|refine zLAd ?_))
      go_roundw
      case rel=>exact⟨j+1,Γk,by omega,by go_num,HLE.out.trans LX.out,M.out⟩
      case measure=>simp[intOf];omega
  .obtain rfl:j=N:=by omega
   (go_wp2_with (first|go_skip|(refine zBXd ?_;clear M;intro w' g M)|(refine zALd (ztSt) ?_;clear M;intro w' g M)|fail|refine zLAd ?_))
   refine zCB M (Abd _) ?_;clear M;intro w1 M
   (go_wp2_with (first|go_skip|(refine zBXd ?_;clear M;intro w' g M)|(refine zALd (ztSt) ?_;clear M;intro w' g M)|fail|refine zLAd ?_))
   go_ret
   exact⟨rfl,M.bel⟩
end Go.Proofs.YtmgeheaneohldaaGreat
