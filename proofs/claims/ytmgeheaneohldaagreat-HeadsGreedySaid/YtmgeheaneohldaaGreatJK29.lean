/- Texts joined: what the walks of this claim stand on (part 29). -/
import Derived.Test.YtmgeheaneohldaaGreatShelf
import Derived.Test.YtmgeheaneohldaaGreatJK25
import Derived.Test.YtmgeheaneohldaaGreatJK28
set_option linter.all false
set_option maxRecDepth 20000
set_option maxHeartbeats 40000000
namespace Go.Proofs.YtmgeheaneohldaaGreat
open Go.RowKit Old
theorem An8(Γ:Gam)(x:Sl)(i:Int)(w:World)(ok:Ok Γ w) :
  Calls Tryz.prog 90 #[.agg [x.v].toArray,.int .i64 i] w fun e w'=>e=.returned (.bool (isI i x.n))/\Ext Γ w Γ w':=by
 have M:=bx (MM.start ok)
 clear ok
 have hl:([[x.v]]:List (List Value)).map List.length = [1]:=rfl
 change Calls Tryz.prog _ #[.agg (fl [[x.v]]).toArray,_] _ _
 by_cases h:0<=i
 .by_cases h2:i<(x.n:Int)
  .have HD:=bx (AbT h h2)
   go_enter Tryz.func90,Tryz.ntmps90
   go_wp2_with (first|(refine zBXd ?_;clear M;intro w' g M)|refine zLAd ?_)
   go_ret
   exact⟨by rw[HD.o];rfl,M.o.ext⟩
  .have HD:=bx (AhG (fun h=>h2 h.2))
   go_enter Tryz.func90,Tryz.ntmps90
   go_wp2_with (first|(refine zBXd ?_;clear M;intro w' g M)|refine zLAd ?_)
   go_ret
   exact⟨by rw[HD.o];rfl,M.o.ext⟩
 .have HD:=bx (AhG (n:=x.n) (fun h'=>h h'.1))
  go_enter Tryz.func90,Tryz.ntmps90
  go_wp2_with (refine zBXd ?_;clear M;intro w' g M)
  go_ret
  exact⟨by rw[HD.o];rfl,M.o.ext⟩
theorem AqC{N:List Nod}(ha:Ahead N){i:Int}(h0:0<=i):kids N i=kidsTo N i N.length:=by
 unfold kids
 cases hi:isI i N.length with
 |true=>rfl
 |false=>
  rw[if_neg (by simp)]
  unfold kidsTo
  refine(List.filter_eq_nil_iff.2 fun k hk=>?_).symm
  have hk':k<N.length:=List.mem_range.1 hk
  rw[nget hk',decide_eq_true_eq]
  have:=ha k hk'
  have:=of_decide_eq_false hi
  omega
theorem Ap9{Γ:Gam}{w w':World}(hx:Ext Γ w Γ w'):NisP Γ w [] (.returned (.slice none 0 0)) w':=
 ⟨none,0,Γ,rfl,⟨Nat.le_refl _,Nat.zero_le _,fun _=>rfl⟩,fun h=>absurd h (Nat.lt_irrefl _),hx⟩
theorem AhV(Γ:Gam)(x:Sl)(N:List Nod)(i:Int)(w:World)(ok:Ok Γ w)(h:NG Γ x N)(ha:Ahead N)(hb:N.length<=65535) :
  Calls Tryz.prog 86 #[.agg [x.v].toArray,.int .i64 i] w (NisP Γ w (kids N i)):=by
 have M:=bx (MM.start ok)
 have HN:=bx h
 have LN:=bx h.n
 have HB:=bx hb
 have hmx:=h.max
 by_cases hi0:i<0
 .have HK:Bx (kids N i = []):=⟨by unfold kids;rw[if_neg];intro h;have:=AbO h;omega⟩
  clear ok h hb ha
  change Calls Tryz.prog _ #[.agg (fl [[x.v]]).toArray,_] _ _
  go_enter Tryz.func86,Tryz.ntmps86
  (go_wp2_with (refine zBXd ?_;clear M;intro w' g M))
  go_ret
  rw[HK.o]
  exact Ap9 M.o.ext
 .have HK:=bx (AqC ha (show 0<=i by omega))
  rw[HK.o]
  obtain⟨A,n,c⟩:=x
  have hnn:n=N.length:=LN.o
  subst hnn
  simp only at hmx
  clear ok h hb ha HK
  change Calls Tryz.prog _ #[.agg (fl [[.slice A N.length c]]).toArray,_] _ _
  go_enter Tryz.func86,Tryz.ntmps86
  (go_wp2_with (first|(refine zBXd ?_;clear M;intro w' g M)|refine zLAd ?_))
  obtain⟨nn,hnn⟩:∃n,N.length=n:=⟨_,rfl⟩
  rw[hnn]at M |-
  have HNN:=bx hnn
  rw[hnn]at HN hmx
  clear hnn
  go_loopw [5,13] (fun l j wr=>∃(k:Nat) (A1:Option Addr) (c1:Nat),k<=nn/\j=.int .i64 k/\l=.slice A1 (kidsTo N i k).length c1/\(kidsTo N i k).length<=k/\MM Γ w Γ wr [⟨g,[[.slice A nn c]],[1]⟩] [⟨.slice A1 (kidsTo N i k).length c1,3,1,(kidsTo N i k).length,nis (kidsTo N i k)⟩]) (fun _ j _=>nn-(intOf j).toNat)
  case atStart=>exact⟨0,none,0,Nat.zero_le _,rfl,rfl,Nat.le_refl 0,M.o.row0 _ _⟩
  case round=>
   obtain⟨k,A1,c1,hk,rfl,rfl,hlen,hM⟩:=hrel
   clear M
   have M:=bx hM
   clear hM
   by_cases hkn:k<nn
   .have hkl:k<N.length:=by rw[HNN.o];exact hkn
    have hki:(k:Int)<(nn:Int):=by omega
    have hk0:0<=(k:Int):=by omega
    have HNn:=HN.o
    rw[<-HNN.o]at HNn
    obtain⟨gt,hA,hf⟩:=SlR.fz (f:=noP) (k:=240) HNn AaI rfl k hkl
    have hAA:A=some ⟨gt,0,none⟩:=by injection hA
    subst hAA
    have F1:=bx hf
    have YES:=bx (AhF (i:=i) hkl)
    have NO:=bx (Ai5 (i:=i) hkl)
    have HKN:=bx hkn
    have hx5:(kidsTo N i k).length+1<=65536:=by have:=HB.o;have:=HNN.o;omega
    clear hA hf HNn
    generalize N[k]=y at *
    generalize kidsTo N i k=K at *
    by_cases he:y.up=i
    .subst he
     have YES':=bx (YES.o rfl)
     clear YES NO
     (go_wp2_with (first|(refine zALd (ztNo) ?_;clear M;intro w' g M)|refine zRFd F1 ?_|(refine zSSd M 0 (noP y) (noP y) (AaI _) (Abu _) ?_;clear M;intro w' M)|((with_reducible apply Aaw M.o AbE);rfl;rfl;rfl;rfl;intro w' g M' hb';(replace M:=bx M';clear M');clear hb';refine zNM ?_)|(at_builtin;(with_reducible apply AaU M.o AbE);rfl;exact Abg _ _;(unfold maxLen;omega);omega;rfl;rfl;rfl;rfl;intro A' c' w' M';(replace M:=bx M';clear M'))|refine zLAd ?_))
     go_roundw
     case rel=>exact⟨k+1,A',c',by omega,by go_num,by rw[YES'.o,List.length_append];rfl,by rw[YES'.o,List.length_append];simp;omega,by rw[YES'.o,Ahr,List.length_append];exact M.o.tail⟩
     case measure=>have:=HKN.o;simp[intOf];omega
    .have NO':=bx (NO.o he)
     have he':(y.up==i)=false:=by simpa using he
     clear YES NO
     (go_wp2_with (first|(refine zALd (ztNo) ?_;clear M;intro w' g M)|refine zRFd F1 ?_|(refine zSSd M 0 (noP y) (noP y) (AaI _) (Abu _) ?_;clear M;intro w' M)|refine zLAd ?_))
     go_roundw
     case rel=>exact⟨k+1,A1,c1,by omega,by go_num,by rw[NO'.o],by rw[NO'.o];omega,by rw[NO'.o];exact M.o.tail⟩
     case measure=>have:=HKN.o;simp[intOf];omega
   .obtain rfl:k=nn:=by omega
    (go_wp2_with (fail))
    go_ret
    obtain⟨Γ',h1,h2,h3,h4⟩:=M.o.frz
    unfold NisP
    rw[HNN.o]
    exact⟨A1,c1,Γ',rfl,h1,h2,h4.ext⟩
theorem Alj{N:List Nod}(h:Lk (upsN N)){k:Nat}(hk:k<N.length):pathI N (k:Int)=pathI N N[k].up ++ [k]:=by
 rcases Adn h hk with⟨h0,e⟩|⟨v,hv,e⟩
 .subst h0
  rw[e]
  unfold pathI
  rw[AbT (by omega) (by omega),if_pos rfl,if_neg (by intro h;have:=AbO h;omega)]
  simp[Ae8]
 .rw[e]
  unfold pathI
  rw[AbT (by omega) (by omega),AbT (by omega) (by omega),if_pos rfl,if_pos rfl,Int.toNat_natCast,Int.toNat_natCast]
  exact(Ahm h hk e).2
theorem AiL{Γ0 Γ:Gam}{w0 w:World}{L:List Ent}{R:List RowE}(A:Option Addr)(c:Nat)(l:List Nat)(hn:l.length<=65535)(M:MM Γ0 w0 Γ w L (⟨.slice A l.length c,3,1,l.length,nis l⟩::R)) :
  Calls Tryz.prog 91 #[.slice A l.length c] w fun e w'=>e=.returned (.tuple #[])/\MM Γ0 w0 Γ w' L (⟨.slice A l.length c,3,1,l.length,nis l.reverse⟩::R):=by
 rcases Nat.eq_zero_or_pos l.length with h0|h0
 .have hl:l = []:=List.eq_nil_of_length_eq_zero h0
  subst hl
  refine(Tryz.slices_Reverse_int_empty A c w).mono ?_
  rintro e w' ⟨rfl,rfl⟩
  exact⟨rfl,M⟩
 .obtain⟨g,rfl,h1,h2⟩:=M.rowHd h0
  have hr:w.ownsRow w0.heap.size 3 1 (.slice (some ⟨g,0,none⟩) l.length c) l.length (nis l):=M.rows _ (List.mem_cons_self ..)
  have hz:(l.map fun(k:Nat)=>(k:Int)).length=l.length:=by simp
  have:=Tryz.slices_Reverse_int_cells g 0 l.length c (l.map fun(k:Nat)=>(k:Int)) w (by rw[hz];exact Nat.le_refl _) (by omega) (fun j hj=>by
   rw[hr.cellAt (0+j) (by rw[hz]at hj;omega),Nat.zero_add]
   unfold nis ints
   rw[List.getElem?_map,List.getElem?_eq_getElem hj]
   simp[List.getD,List.getElem?_eq_getElem (show j<l.length by rwa [hz]at hj)]) (fun j _=>hr.frozenAt (0+j))
  refine this.mono ?_
  rintro e w' ⟨rfl,q,rfl⟩
  refine⟨rfl,?_⟩
  have M1:=M.below (Acv (Below.refl w.heap.size w) q)
  have M2:MM Γ0 w0 Γ (w.drewN q) L (⟨.slice (some ⟨g,0,none⟩) l.length c,3,1,l.length,[]++nis l ++ []⟩::R):=by simpa using M1
  have M3:=(M2.rowPut (vs:=nis l.reverse) (by rw[Ajz,Ajz,List.length_reverse])).2
  have e1:((l.map fun(k:Nat)=>(k:Int)).take l.length).reverse.map (Value.int .i64)=nis l.reverse:=by
   rw[List.take_of_length_le (by rw[hz];exact Nat.le_refl _)]
   simp[nis,ints,List.map_reverse]
  rw[e1]
  simpa using M3
theorem Al8(Γ:Gam)(x:Sl)(N:List Nod)(i0:Int)(w:World)(ok:Ok Γ w)(h:NG Γ x N)(hk:Lk (upsN N))(hb:N.length<=4096) :
  Calls Tryz.prog 60 #[.agg [x.v].toArray,.int .i64 i0] w (NisP Γ w (pathI N i0)):=by
 have M:=bx (MM.start ok)
 have HN:=bx h
 have LN:=bx h.n
 have HK:=bx hk
 have HB:=bx hb
 have HAS:=bx (fun i w (ok:Ok Γ w)=>(show Calls Tryz.prog 90 #[.agg [x.v].toArray,.int .i64 i] w fun e w'=>e=.returned (.bool (isI i N.length))/\Ext Γ w Γ w' from by have:=An8 Γ x i w ok;rwa [LN.o]at this))
 clear ok h hk hb
 change Calls Tryz.prog _ #[.agg (fl [[x.v]]).toArray,_] _ _
 go_enter Tryz.func60,Tryz.ntmps60
 (go_wp2_with (refine zBXd ?_;clear M;intro w' g M))
 go_loopw [1,5] (fun s1 s5 wr=>∃(i:Int) (A:Option Addr) (c:Nat) (l:List Nat),s1=.int .i64 i/\s5=.slice A l.length c/\l.length<=4096/\(isI i N.length=true->l.length+i.toNat+1<=N.length)/\pathI N i0=pathI N i++l.reverse/\MM Γ w Γ wr [⟨g,[[x.v]],[1]⟩] [⟨.slice A l.length c,3,1,l.length,nis l⟩]) (fun s1 _ _=>(intOf s1+1).toNat)
 case atStart=>exact⟨i0,none,0,[],rfl,rfl,Nat.zero_le _,fun h=>by have:=AbO h;simp;omega,by simp,M.o.row0 _ _⟩
 case round=>
  obtain⟨i,A,c,l,rfl,rfl,hl,hli,hp,hM⟩:=hrel
  clear M
  have M:=bx hM
  have HP:=bx hp
  have HL:=bx hl
  have HLI:=bx hli
  clear hM hp hl hli
  cases hi:isI i N.length with
  |true=>
   have h1:=AbO hi
   obtain⟨k,rfl⟩:∃k:Nat,i=(k:Int):=⟨i.toNat,by omega⟩
   have hkl:k<N.length:=by omega
   have H0:Bx (∀w,Ok Γ w->Calls Tryz.prog 90 #[.agg [x.v].toArray,.int .i64 (k:Int)] w fun e w'=>e=.returned (.bool true)/\Ext Γ w Γ w'):=⟨fun w ok=>by have:=HAS.o (k:Int) w ok;rwa [hi]at this⟩
   obtain⟨gt,hA,hf⟩:=HN.o.fz (f:=noP) (k:=240) AaI rfl k hkl
   have HA:=bx hA
   have F1:=bx hf
   have ST:=bx (Alj HK.o hkl)
   have hki:(k:Int)<(x.n:Int):=by rw[LN.o];omega
   have hk0:0<=(k:Int):=by omega
   have hll:l.length+k+1<=N.length:=by have:=HLI.o hi;simpa using this
   have hl5:l.length+1<=65536:=by have:=HB.o;omega
   have HUP:Bx (N[k].up<(k:Int)/\(isI N[k].up N.length=true->l.length+1+N[k].up.toNat+1<=N.length)):=⟨by
    rcases Adn HK.o hkl with⟨_,e⟩|⟨v,hv,e⟩
    .rw[e];exact⟨by omega,fun h=>by have:=AbO h;omega⟩
    .rw[e];exact⟨by omega,fun _=>by omega⟩⟩
   have HLK:Bx (l.length+1<=4096):=⟨by have:=HB.o;omega⟩
   clear hA hf hi h1 hll HLI
   generalize N[k]=y at *
   (go_wp2_with (refine zLAd ?_))
   refine zCA M (H0.o _ M.ok) ?_;clear M;intro w1 M
   (go_wp2_with (first|refine zLHd HA ?_|refine zRFd F1 ?_|((with_reducible apply Aaw M.o AbE);rfl;rfl;rfl;rfl;intro w' g M' hb';(replace M:=bx M';clear M');clear hb';refine zNM ?_)|(at_builtin;(with_reducible apply AaU M.o AbE);rfl;exact Abg _ _;(unfold maxLen;omega);omega;rfl;rfl;rfl;rfl;intro A' c' w' M';(replace M:=bx M';clear M'))))
   go_roundw
   case rel=>exact⟨y.up,A',c',l ++ [k],rfl,by rw[List.length_append];rfl,by rw[List.length_append];exact HLK.o,by rw[List.length_append];exact HUP.o.2,by rw[HP.o,ST.o];simp,by rw[Ahr,List.length_append];exact M.o⟩
   case measure=>have:=HUP.o.1;simp[intOf];omega
  |false=>
   have H0:Bx (∀w,Ok Γ w->Calls Tryz.prog 90 #[.agg [x.v].toArray,.int .i64 i] w fun e w'=>e=.returned (.bool false)/\Ext Γ w Γ w'):=⟨fun w ok=>by have:=HAS.o i w ok;rwa [hi]at this⟩
   have HE:Bx (pathI N i0=l.reverse):=⟨by rw[HP.o];unfold pathI;rw[hi];rfl⟩
   clear HLI hi HP
   (go_wp2_with (refine zLAd ?_))
   refine zCA M (H0.o _ M.ok) ?_;clear M;intro w1 M
   (go_wp2_with (fail))
   refine(AiL A c l (by have:=HL.o;omega) M.o).mono ?_
   rintro e2 w2 ⟨rfl,hM⟩
   clear M
   have M:=bx hM
   clear hM
   (go_wp2_with (fail))
   go_ret
   obtain⟨Γ',h1,h2,h3,h4⟩:=M.o.frz
   have e:l.length=l.reverse.length:=by simp
   rw[e]at h1 h2 |-
   unfold NisP
   rw[HE.o]
   exact⟨A,c,Γ',rfl,h1,h2,h4.ext⟩
end Go.Proofs.YtmgeheaneohldaaGreat
