/- Texts joined: what the walks of this claim stand on (part 3 of 43). -/
import Derived.Test.YtmgeheaneohldaaGreatYK2
set_option linter.all false
set_option maxRecDepth 20000
set_option maxHeartbeats 40000000
namespace Go.Proofs.YtmgeheaneohldaaGreat
open Go.RowKit Go.Proofs.YtmgeheaneohldaaGreat.Old
def condN(N:List Nod)(i:Int):Int × List Nod:=if isI i N.length=true then stR (setF 2 1 N (descI N i.toNat))else(10,[])
theorem AhX(Γ:Gam)(x:Sl)(N:List Nod)(i:Int)(w:World)(ok:Ok Γ w)(h:NG Γ x N)(hk:Lk (upsN N))(h1:0<N.length)(hb:N.length<=4096) :
  Calls Tryz.prog 182 #[.agg [x.v].toArray,.int .i64 i] w (TrE Γ w (condN N i)):=by
 have M:=bx (MM.start ok)
 have ht:([[x.v]]:List (List Value)).map List.length = [1]:=rfl
 have IS:Bx (∀Γ w,Ok Γ w->Calls Tryz.prog 61 #[.agg [x.v].toArray,.int .i64 i] w fun e w'=>e=.returned (.bool (isI i N.length))/\Ext Γ w Γ w'):=⟨fun Γ w ok=>by have:=Ac9 Γ x i w ok;rwa [h.n]at this⟩
 have PA0:=bx (fun w ok=>Agd Γ x N i.toNat w ok h hk hb)
 have HG:=bx h
 clear ok
 change Calls Tryz.prog _ #[.agg (fl [[x.v]]).toArray,_] _ _
 cases hi:isI i N.length with
 |false=>
  have HR:Bx (condN N i=(10,[])):=⟨by unfold condN;rw[hi];rfl⟩
  rw[hi]at IS
  clear h hk h1 hb hi
  go_enter Tryz.func182,Tryz.ntmps182
  go_wp2_with (first|(refine zBYo (ht) ?_;clear M;intro w' g M)|(refine zALo (Aaj) ?_;clear M;intro w' g M)|refine zLDo (M.out.at1) ?_)
  refine zCA M (IS.out _ _ M.ok) ?_;clear M;intro w1 M
  go_wp2_with (first|refine zBDo 46 [] [.slice none 0 0] (by kernel_rfl) ?_|(refine zSSo M 0 [[.slice none 0 0]] [[.slice none 0 0]] (by rfl) (Aal _ _ _) ?_;clear M;intro w' M))
  (try refine zsm ?_);refine bodyPost_ret (AaR (by rfl) _ M.out.at0 (by rfl) Aav rfl) rfl ?_
  exact TrE.err HR.out M.out.ext
 |true=>
  have HR:Bx (condN N i=stR (setF 2 1 N (descI N i.toNat))):=⟨by unfold condN;rw[if_pos hi]⟩
  rw[hi]at IS
  have PA:Bx (∀w,Ok Γ w->Calls Tryz.prog 21 #[.agg [x.v].toArray,.int .i64 i] w (NisP Γ w (descI N i.toNat))):=⟨fun w ok=>by have e:((i.toNat:Nat):Int)=i:=(by have:=Ab5 hi;omega);have:=PA0.out w ok;rwa [e]at this⟩
  clear PA0
  have SE:=bx (fun Γ' A c w ok h hl=>Ah0 Γ' x N A c (descI N i.toNat) 2 1 w ok h h1 hb hl (fun k hm=>AiD hm) (Nat.le_trans (Agp N _) (by omega)))
  clear h hk h1 hb hi
  generalize setF 2 1 N (descI N i.toNat)=r at *
  generalize descI N i.toNat=K at *
  go_enter Tryz.func182,Tryz.ntmps182
  go_wp2_with (first|(refine zBYo (ht) ?_;clear M;intro w' g M)|(refine zALo (Aaj) ?_;clear M;intro w' g M)|refine zLDo (M.out.at1) ?_)
  refine zCA M (IS.out _ _ M.ok) ?_;clear M;intro w1 M
  go_wp2_with (fail)
  refine AaE [9] (.steps [(0,0),(0,1),(1,2)] (.fork 3 (.fork 4 (.steps [(1,5),(1,6),(1,7),(2,8),(3,9),(1,10)] .leaf) 8 (.steps [(2,4),(1,5),(1,6),(1,7),(3,9),(1,10)] .leaf)) 8 (.steps [(2,3),(2,4),(1,5),(1,6),(1,7),(3,9),(1,10)] .leaf))) (by kernel_rfl) (by kernel_rfl) ?_
  simp only[MixT6,MT.steps,stepAt,List.getD_cons_zero,List.getD_cons_succ]
  replace M:=bx (M.out.drew)
  have Q1:=bx M.out.at1.cls
  (repeat(first|(with_reducible refine wpQuiet_nil ?_)|((go_big_quiet_want;first|(refine zQL Q1.out ht ?_;go_big_quiet_on;refine zNM ?_)|(refine zQO ?_;go_big_quiet_on)))))
  clear Q1
  refine⟨?_,?_⟩
  .refine zMC (PA.out _ M.ok) Tryz.func21 ?_;rintro e2 w2 ⟨A2,c2,Γ2,rfl,hcap2,hsl2,hx2⟩;refine⟨_,rfl,hx2.bel,?_⟩;replace M:=bx (M.out.call hx2);have HS2:=bx hsl2;clear hcap2 hsl2 hx2;refine zNM ?_
   refine⟨?_,?_⟩
   .refine zMC (SE.out _ A2 c2 _ M.ok (HG.out.mono M.out.ext.le) HS2.out) Tryz.func191 ?_;rintro e3 w3 ⟨x3,Γ3,rfl,hn3,hx3⟩;refine⟨_,rfl,hx3.bel,?_⟩;replace M:=bx (M.out.call hx3);have HN3:=bx hn3;clear hn3 hx3;refine zNM ?_
    (repeat(first|(with_reducible refine wpQuiet_nil ?_)|((go_big_quiet_want;(refine zQO ?_;go_big_quiet_on)))))
    refine AaB (AaK rfl Aaj) rfl ?_;refine⟨ext_alloc _ _,?_⟩;replace M:=bx (M.out.alloc (P:=[[.slice none 0 0]]) (ls:=[1]) rfl rfl 46);refine zNM ?_
    refine AbE M.out 0 [[x3.v]] [[x3.v]] rfl rfl rfl rfl Aav rfl rfl (Aal _ _ _) rfl rfl ?_;intro w7 M';(simp only[List.set_cons_zero]at M');(replace M:=bx M';clear M');refine zNM ?_;(repeat(first|(with_reducible refine wpQuiet_nil ?_)|((go_big_quiet_want;(refine zQO ?_;go_big_quiet_on)))));refine NoPanic.normal ?_;cases r with|none=>((go_wp2_with (first|refine zBDo 46 [] [.slice none 0 0] (by kernel_rfl) ?_|(refine zSSo M 1 [[.slice none 0 0]] [[.slice none 0 0]] (by rfl) (Aal _ _ _) ?_;clear M;intro w' M)));(try refine zsm ?_);refine bodyPost_ret (AaR (by rfl) _ M.out.at1 (by rfl) Aav rfl) rfl ?_;exact TrE.err HR.out M.out.ext)|some N'=>((go_wp2_with (first|refine zLDo (M.out.at0) ?_|(refine zSSo M 1 [[x3.v]] [[x3.v]] (by rfl) (Aal _ _ _) ?_;clear M;intro w' M)));(try refine zsm ?_);refine bodyPost_ret (AaR (by rfl) _ M.out.at1 (by rfl) Aav rfl) rfl ?_;rw[HR.out];exact⟨x3,_,rfl,HN3.out,M.out.ext⟩)
   .refine AaB (AaK rfl Aaj) rfl ?_;refine⟨ext_alloc _ _,?_⟩;replace M:=bx (M.out.alloc (P:=[[.slice none 0 0]]) (ls:=[1]) rfl rfl 46);refine zNM ?_
    refine zMC (SE.out _ A2 c2 _ M.ok (HG.out.mono M.out.ext.le) HS2.out) Tryz.func191 ?_;rintro e3 w3 ⟨x3,Γ3,rfl,hn3,hx3⟩;refine⟨_,rfl,hx3.bel,?_⟩;replace M:=bx (M.out.call hx3);have HN3:=bx hn3;clear hn3 hx3;refine zNM ?_
    (repeat(first|(with_reducible refine wpQuiet_nil ?_)|((go_big_quiet_want;(refine zQO ?_;go_big_quiet_on)))))
    refine AbE M.out 0 [[x3.v]] [[x3.v]] rfl rfl rfl rfl Aav rfl rfl (Aal _ _ _) rfl rfl ?_;intro w7 M';(simp only[List.set_cons_zero]at M');(replace M:=bx M';clear M');refine zNM ?_;(repeat(first|(with_reducible refine wpQuiet_nil ?_)|((go_big_quiet_want;(refine zQO ?_;go_big_quiet_on)))));refine NoPanic.normal ?_;cases r with|none=>((go_wp2_with (first|refine zBDo 46 [] [.slice none 0 0] (by kernel_rfl) ?_|(refine zSSo M 1 [[.slice none 0 0]] [[.slice none 0 0]] (by rfl) (Aal _ _ _) ?_;clear M;intro w' M)));(try refine zsm ?_);refine bodyPost_ret (AaR (by rfl) _ M.out.at1 (by rfl) Aav rfl) rfl ?_;exact TrE.err HR.out M.out.ext)|some N'=>((go_wp2_with (first|refine zLDo (M.out.at0) ?_|(refine zSSo M 1 [[x3.v]] [[x3.v]] (by rfl) (Aal _ _ _) ?_;clear M;intro w' M)));(try refine zsm ?_);refine bodyPost_ret (AaR (by rfl) _ M.out.at1 (by rfl) Aav rfl) rfl ?_;rw[HR.out];exact⟨x3,_,rfl,HN3.out,M.out.ext⟩)
  .refine AaB (AaK rfl Aaj) rfl ?_;refine⟨ext_alloc _ _,?_⟩;replace M:=bx (M.out.alloc (P:=[[.slice none 0 0]]) (ls:=[1]) rfl rfl 46);refine zNM ?_
   refine zMC (PA.out _ M.ok) Tryz.func21 ?_;rintro e2 w2 ⟨A2,c2,Γ2,rfl,hcap2,hsl2,hx2⟩;refine⟨_,rfl,hx2.bel,?_⟩;replace M:=bx (M.out.call hx2);have HS2:=bx hsl2;clear hcap2 hsl2 hx2;refine zNM ?_
   refine zMC (SE.out _ A2 c2 _ M.ok (HG.out.mono M.out.ext.le) HS2.out) Tryz.func191 ?_;rintro e3 w3 ⟨x3,Γ3,rfl,hn3,hx3⟩;refine⟨_,rfl,hx3.bel,?_⟩;replace M:=bx (M.out.call hx3);have HN3:=bx hn3;clear hn3 hx3;refine zNM ?_
   (repeat(first|(with_reducible refine wpQuiet_nil ?_)|((go_big_quiet_want;(refine zQO ?_;go_big_quiet_on)))))
   refine AbE M.out 0 [[x3.v]] [[x3.v]] rfl rfl rfl rfl Aav rfl rfl (Aal _ _ _) rfl rfl ?_;intro w7 M';(simp only[List.set_cons_zero]at M');(replace M:=bx M';clear M');refine zNM ?_;(repeat(first|(with_reducible refine wpQuiet_nil ?_)|((go_big_quiet_want;(refine zQO ?_;go_big_quiet_on)))));refine NoPanic.normal ?_;cases r with|none=>((go_wp2_with (first|refine zBDo 46 [] [.slice none 0 0] (by kernel_rfl) ?_|(refine zSSo M 1 [[.slice none 0 0]] [[.slice none 0 0]] (by rfl) (Aal _ _ _) ?_;clear M;intro w' M)));(try refine zsm ?_);refine bodyPost_ret (AaR (by rfl) _ M.out.at1 (by rfl) Aav rfl) rfl ?_;exact TrE.err HR.out M.out.ext)|some N'=>((go_wp2_with (first|refine zLDo (M.out.at0) ?_|(refine zSSo M 1 [[x3.v]] [[x3.v]] (by rfl) (Aal _ _ _) ?_;clear M;intro w' M)));(try refine zsm ?_);refine bodyPost_ret (AaR (by rfl) _ M.out.at1 (by rfl) Aav rfl) rfl ?_;rw[HR.out];exact⟨x3,_,rfl,HN3.out,M.out.ext⟩)
def reach1(N:List Nod)(l:List Nat):Option (Int × Int):=(l.find? fun k=>decide ((N.getD k n0).b.payload≠r0)).map fun k=>((N.getD k n0).up,(k:Int))
def reach2(N:List Nod)(l:List Nat)(p:Rt):Nat->Option (Int × Int)
 |0=>none
 |m+1=>if(N.getD (l.getD m 0) n0).b.payload=p then some ((l.getD m 0:Int),(l.getD (m+1) 0:Int))else reach2 N l p m
def reachN(N:List Nod)(i:Int)(p:Rt):Int × Int:=
 if pathI N i = []then(-1,-1)else if p=r0 then(reach1 N (pathI N i)).getD (-1,i)else(reach2 N (pathI N i) p ((pathI N i).length-1)).getD (-1,i)
theorem Ah6{l:List Nat}{k:Nat}(h:k<l.length):l.getD k 0=l[k]:=by simp[List.getD,List.getElem?_eq_getElem h]
theorem AhD{N:List Nod}{l:List Nat}(h:∀j (hj:j<l.length),(N.getD l[j] n0).b.payload=r0):reach1 N l=none:=by
 unfold reach1
 rw[List.find?_eq_none.2 fun k hk=>by
  obtain⟨j,hj,rfl⟩:=List.getElem_of_mem hk
  simpa using h j hj]
 rfl
theorem AhC{N:List Nod}{l:List Nat}{k:Nat}(hk:k<l.length)(h:∀j (hj:j<k),(N.getD (l[j]'(by omega)) n0).b.payload=r0)(hp:(N.getD l[k] n0).b.payload≠r0):reach1 N l=some ((N.getD l[k] n0).up,(l[k]:Int)):=by
 unfold reach1
 have:l.find? (fun k=>decide ((N.getD k n0).b.payload≠r0))=some l[k]:=List.find?_eq_some_iff_getElem.2 ⟨by simpa using hp,k,hk,rfl,fun j hj=>by simpa using h j hj⟩
 rw[this];rfl
theorem Ai6(Γ:Gam)(x:Sl)(N:List Nod)(i:Int)(p:Rt)(w:World)(ok:Ok Γ w)(h:NG Γ x N)(hk:Lk (upsN N))(hb:N.length<=4096) :
  Calls Tryz.prog 181 #[.agg [x.v].toArray,.int .i64 i,.agg (rc p).toArray] w fun e w'=>e=.returned (.tuple #[.int .i64 (reachN N i p).1,.int .i64 (reachN N i p).2])/\Ext Γ w Γ w':=by
 have M:=bx (MM.start ok)
 have OK:=bx ok
 have ht:([[x.v]]:List (List Value)).map List.length = [1]:=rfl
 have hr:([rc p]:List (List Value)).map List.length = [32]:=by simp[Aax]
 have LN:=bx h.n
 have HG:=bx h
 have PA:=bx (fun w ok=>Acu Γ x N i w ok h hk hb)
 have PL:=bx (fun k (hm:k∈pathI N i)=>(Ace hk hm).1)
 have PN:=bx (Nat.le_trans (Adb hk i) hb)
 have RN:Bx (reachN N i p=if pathI N i = []then(-1,-1)else if p=r0 then(reach1 N (pathI N i)).getD (-1,i)else(reach2 N (pathI N i) p ((pathI N i).length-1)).getD (-1,i)):=⟨rfl⟩
 clear ok h hk hb
 generalize pathI N i=K at *
 generalize reachN N i p=r at *
 have hq:=AbC p r0
 change Calls Tryz.prog _ #[.agg (fl [[x.v]]).toArray,_,.agg (fl [rc p]).toArray] _ _
 go_enter Tryz.func181,Tryz.ntmps181
 go_wp2_with (first|(refine zBYo (ht) ?_;clear M;intro w' g M)|(refine zBYo (hr) ?_;clear M;intro w' g M)|refine zLDo (M.out.at1) ?_)
 rename_i gt _ _ _ _
 refine(PA.out _ M.ok).mono ?_
 rintro e1 w1 ⟨A,c,Γ',rfl,hcap,hsl,hx⟩
 replace M:=bx (M.out.call hx)
 have HG':Bx (NG Γ' x N):=⟨HG.out.mono hx.le⟩
 have HS:=bx hsl
 clear hcap hsl hx PA HG
 have hkl:K.length<=4096:=PN.out
 rcases Nat.eq_zero_or_pos K.length with h0|h0
 .have HR:Bx (r=(-1,-1)):=⟨by rw[RN.out,if_pos (List.eq_nil_of_length_eq_zero h0)]⟩
  clear RN
  rw[h0]
  go_wp2_with fail
  go_ret2
  rw[HR.out]
  exact⟨rfl,Ext.below OK.out M.bel⟩
 .have RN':=bx (RN.out.trans (if_neg (fun e=>by rw[e]at h0;exact absurd h0 (Nat.lt_irrefl _))))
  have hne:((K.length:Int)==0)=false:=beq_eq_false_iff_ne.2 (by omega)
  clear RN
  by_cases hp:p=r0
  .rw[decide_eq_true hp]at hq
   have RN:=bx (RN'.out.trans (if_pos hp))
   clear RN' hp
   go_wp2_with (first|refine zLDo (M.out.at0) ?_|refine zBDo 29 [] (rc r0) (by kernel_rfl) ?_)
   go_loopw [9] (fun j wr=>∃k:Nat,k<=K.length/\j=.int .i64 k/\(∀m (hm:m<K.length),m<k->(N.getD K[m] n0).b.payload=r0)/\MM Γ w Γ' wr [⟨g,[rc p],[32]⟩,⟨gt,[[x.v]],[1]⟩] []) (fun j _=>K.length-(intOf j).toNat)
   case atStart=>exact⟨0,Nat.zero_le _,rfl,fun j _ hj=>absurd hj (Nat.not_lt_zero _),M.out⟩
   case round=>
    obtain⟨k,hk,rfl,hno,hM⟩:=hrel
    clear M
    have M:=bx hM
    have HNO:=bx hno
    clear hM hno
    by_cases hkn:k<K.length
    .obtain⟨gk,rfl,hc⟩:=Acr HS.out k hkn
     have hyN:=PL.out _ (List.getElem_mem hkn)
     have SM:=bx (fun e=>AhC (N:=N) hkn (fun j hj=>HNO.out j (Nat.lt_trans hj hkn) hj) e)
     have NX:=bx (fun(e:(N.getD K[k] n0).b.payload=r0) m (hm:m<K.length) (hmk:m<k+1)=>(Nat.lt_or_eq_of_le (Nat.le_of_lt_succ hmk)).elim (HNO.out m hm) (fun h=>by subst h;exact e))
     generalize K[k]=y at *
     rw[nget hyN]at SM NX
     obtain⟨gn,hA,hcn⟩:=HG'.out.at (fun x _=>AbW x) y hyN
     have HA:=bx (AeB hA)
     have hq2:=AbC N[y].b.payload r0
     have hki:(k:Int)<(K.length:Int):=by omega
     have hk0:0<=(k:Int):=by omega
     have hyi:(y:Int)<(x.n:Int):=by rw[LN.out];omega
     have hy0:0<=(y:Int):=by omega
     have HKN:=bx hkn
     have HC:=bx hc
     have HCN:=bx hcn
     have Q1:=bx M.out.at1.cls
     have QC:=bx (CL.cls (ls:=[1]) hc rfl M.ok)
     have QN:=bx (CL.cls hcn (AaO _) M.ok)
     clear hc hcn hA
     generalize N[y]=z at *
     by_cases hz:z.b.payload=r0
     .rw[decide_eq_true hz]at hq2
      have NX':=bx (NX.out hz)
      clear NX SM hz
      go_wp2_with fail
      refine zRG ?_
      (repeat((go_big_quiet_want;first|(first|(refine zQE Q1.out (HA.out) ?_;go_big_quiet_on;refine zNM ?_)|(refine zQR QC.out rfl ?_;go_big_quiet_on;refine zNM ?_)|(refine zQR QN.out (AaO _) ?_;go_big_quiet_on;refine zNM ?_)|((with_reducible refine AaC 29 _ rfl [] (rc r0) ?_ (by kernel_rfl) ?_);rfl;go_big_quiet_on;refine zNM ?_))|(refine zQO ?_;go_big_quiet_on))))
      (refine zQN ?_;clear M;intro w4 M)
      clear Q1 QC QN
      go_wp2_with fail
      go_roundw
      case rel=>exact⟨k+1,by omega,by go_num,NX'.out,M.out⟩
      case measure=>have:=HKN.out;simp[intOf];omega
     .rw[decide_eq_false hz]at hq2
      have SM':=bx (SM.out hz)
      clear NX SM hz
      go_wp2_with fail
      refine zRG ?_
      (repeat((go_big_quiet_want;first|(first|(refine zQE Q1.out (HA.out) ?_;go_big_quiet_on;refine zNM ?_)|(refine zQR QC.out rfl ?_;go_big_quiet_on;refine zNM ?_)|(refine zQR QN.out (AaO _) ?_;go_big_quiet_on;refine zNM ?_)|((with_reducible refine AaC 29 _ rfl [] (rc r0) ?_ (by kernel_rfl) ?_);rfl;go_big_quiet_on;refine zNM ?_))|(refine zQO ?_;go_big_quiet_on))))
      (refine zQN ?_;clear M;intro w4 M)
      clear Q1 QC QN
      have Q1:=bx M.out.at1.cls
      have QC:=bx (CL.cls (ls:=[1]) HC.out rfl M.ok)
      have QN:=bx (CL.cls HCN.out (AaO _) M.ok)
      go_wp2_with fail
      refine zRG ?_
      (repeat((go_big_quiet_want;first|(first|(refine zQE Q1.out (HA.out) ?_;go_big_quiet_on;refine zNM ?_)|(refine zQR QC.out rfl ?_;go_big_quiet_on;refine zNM ?_)|(refine zQR QN.out (AaO _) ?_;go_big_quiet_on;refine zNM ?_))|(refine zQO ?_;go_big_quiet_on))))
      (refine zQN ?_;clear M;intro w4 M)
      clear Q1 QC QN
      go_wp2_with fail
      go_ret2
      rw[RN.out,SM'.out]
      exact⟨rfl,Ext.below OK.out M.bel⟩
    .obtain rfl:k=K.length:=by omega
     have HR:=bx (RN.out.trans (by rw[AhD (fun j hj=>HNO.out j hj hj)];rfl:_=((-1:Int),i)))
     go_wp2_with fail
     go_ret2
     rw[HR.out]
     exact⟨rfl,Ext.below OK.out M.bel⟩
  .rw[decide_eq_false hp]at hq
   have RN:=bx (RN'.out.trans (if_neg hp))
   clear RN' hp
   go_wp2_with (first|refine zLDo (M.out.at0) ?_|refine zBDo 29 [] (rc r0) (by kernel_rfl) ?_)
   have hi0:Bx ((K.length:Int)-2=((K.length-1:Nat):Int)-1):=⟨by omega⟩
   go_loopw [10] (fun j wr=>∃m:Nat,m<=K.length-1/\j=.int .i64 ((m:Int)-1)/\reach2 N K p m=reach2 N K p (K.length-1)/\MM Γ w Γ' wr [⟨g,[rc p],[32]⟩,⟨gt,[[x.v]],[1]⟩] []) (fun j _=>(intOf j+1).toNat)
   case atStart=>exact⟨K.length-1,Nat.le_refl _,by rw[hi0.out],rfl,M.out⟩
   case round=>
    obtain⟨m,hm,rfl,hre,hM⟩:=hrel
    clear M
    have M:=bx hM
    have RE:=bx hre
    clear hM hre
    rcases Nat.eq_zero_or_pos m with h0|hm0
    .subst h0
     have HR:=bx (RN.out.trans (by rw[<-RE.out];rfl:_=((-1:Int),i)))
     go_wp2_with fail
     go_ret2
     rw[HR.out]
     exact⟨rfl,Ext.below OK.out M.bel⟩
    .obtain⟨k,rfl⟩:∃k,m=k+1:=⟨m-1,by omega⟩
     have hki1:(((k+1:Nat):Int)-1)=(k:Int):=by omega
     rw[hki1]
     have hkn:k<K.length:=by omega
     have hkn1:k+1<K.length:=by omega
     obtain⟨gk,rfl,hc⟩:=Acr HS.out k hkn
     obtain⟨gk',e',hc1⟩:=Acr HS.out (k+1) hkn1
     injection e' with e'
     injection e' with e'
     subst e'
     have hyN:=PL.out _ (List.getElem_mem hkn)
     have R2:Bx (reach2 N K p (k+1)=if(N.getD K[k] n0).b.payload=p then some ((K[k]:Int),(K[k+1]:Int))else reach2 N K p k):=⟨by rw[reach2,Ah6 hkn,Ah6 hkn1]⟩
     generalize K[k]=y at *
     generalize K[k+1]=y1 at *
     rw[nget hyN]at R2
     obtain⟨gn,hA,hcn⟩:=HG'.out.at (fun x _=>AbW x) y hyN
     have HA:=bx (AeB hA)
     have hq2:=AbC N[y].b.payload p
     have hki:(k:Int)<(K.length:Int):=by omega
     have hk1i:(k:Int)+1<(K.length:Int):=by omega
     have hk0:0<=(k:Int):=by omega
     have hyi:(y:Int)<(x.n:Int):=by rw[LN.out];omega
     have hy0:0<=(y:Int):=by omega
     have F1:Bx (Fz _ _ _ _ _):=⟨hc,len1 _⟩
     have F2:Bx (Fz _ _ _ _ _):=⟨hc1,len1 _⟩
     have F3:Bx (Fz _ _ _ _ _):=⟨hcn,AaO _⟩
     clear hc hc1 hcn hA
     generalize N[y]=z at *
     by_cases hz:z.b.payload=p
     .rw[decide_eq_true hz]at hq2
      have HR:=bx (RN.out.trans (by rw[<-RE.out,R2.out,if_pos hz];rfl:_=((y:Int),(y1:Int))))
      clear R2 hz RE
      go_wp2_with fail
      refine zRG ?_;(repeat((go_big_quiet_want;first|(refine zQE M.out.at1.cls (HA.out) ?_;go_big_quiet_on;refine zNM ?_)|(refine zQFo F1 ?_;go_big_quiet_on;refine zNM ?_)|(refine zQFo F3 ?_;go_big_quiet_on;refine zNM ?_)|(refine zQAo ?_;go_big_quiet_on;refine zNM ?_)|(refine zQO ?_;go_big_quiet_on))));(refine zQN ?_;clear M;intro w4 M)
      go_wp2_with fail
      refine zRG ?_;(repeat((go_big_quiet_want;first|(refine zQFo F1 ?_;go_big_quiet_on;refine zNM ?_)|(refine zQFo F2 ?_;go_big_quiet_on;refine zNM ?_)|(refine zQO ?_;go_big_quiet_on))));(refine zQN ?_;clear M;intro w4 M)
      go_wp2_with fail
      go_ret2
      rw[HR.out]
      exact⟨rfl,Ext.below OK.out M.bel⟩
     .rw[decide_eq_false hz]at hq2
      have RE':Bx (reach2 N K p k=reach2 N K p (K.length-1)):=⟨by rw[<-RE.out,R2.out,if_neg hz]⟩
      clear R2 hz RE
      go_wp2_with fail
      refine zRG ?_;(repeat((go_big_quiet_want;first|(refine zQE M.out.at1.cls (HA.out) ?_;go_big_quiet_on;refine zNM ?_)|(refine zQFo F1 ?_;go_big_quiet_on;refine zNM ?_)|(refine zQFo F3 ?_;go_big_quiet_on;refine zNM ?_)|(refine zQAo ?_;go_big_quiet_on;refine zNM ?_)|(refine zQO ?_;go_big_quiet_on))));(refine zQN ?_;clear M;intro w4 M)
      go_wp2_with fail
      go_roundw
      case rel=>exact⟨k,by omega,by go_num,RE'.out,M.out⟩
      case measure=>simp[intOf]<;>omega
def VTo(l:List Int)(n:Int)(k:Nat):Prop:=∀j (hj:j<l.length),j<k->(0<=l[j]/\l[j]<n)/\∀(_:0<j),l[j-1]<l[j]
def VList(l:List Int)(n:Int):Prop:=l ≠ []/\VTo l n l.length
theorem VTo.zero(l:List Int)(n:Int):VTo l n 0:=fun _ _ h=>absurd h (Nat.not_lt_zero _)
theorem VTo.succ{l:List Int}{n:Int}{k:Nat}(h:VTo l n k)(hk:k<l.length)(h1:0<=l[k])(h2:l[k]<n)(h3:∀_:0<k,l[k-1]<l[k]):VTo l n (k+1):=fun j hj hjk=>by
 rcases Nat.lt_or_eq_of_le (Nat.le_of_lt_succ hjk)with h4|rfl
 .exact h j hj h4
 .exact⟨⟨h1,h2⟩,h3⟩
theorem Aef{Γ:Gam}{A:Option Addr}{l:List Int}(h:SlG Γ A l.length (ints .i64 l))(i:Nat)(hi:i<l.length):∃g,A=some ⟨g,0,none⟩/\Fz Γ g i [[.int .i64 l[i]]] [1]:=by
 have h':SlG Γ A l.length (l.flatMap fun x=>[Value.int .i64 x]):=by rw[<-List.map_eq_flatMap];exact h
 obtain⟨g,h1,h2⟩:=h'.at (k:=1) (fun x _=>rfl) rfl i hi
 exact⟨g,h1,by rw[Nat.mul_one]at h2;exact h2,rfl⟩
theorem AcO(Γ:Gam)(A:Option Addr)(c:Nat)(l:List Int)(n:Int)(w:World)(ok:Ok Γ w)(h:SlG Γ A l.length (ints .i64 l))(hb:l.length<=4611686018427387904) :
  Calls Tryz.prog 162 #[.slice A l.length c,.int .i64 n] w fun e w'=>∃er:Int,e=.returned (.int .i64 er)/\((er=0↔VList l n)/\er≠21)/\Ext Γ w Γ w':=by
 have M:=bx (MM.start ok)
 have HS:=bx h
 have HB:=bx hb
 have LN:Bx (l.length=0->¬VList l n):=⟨fun e h=>h.1 (List.eq_nil_of_length_eq_zero e)⟩
 clear ok h
 go_enter Tryz.func162,Tryz.ntmps162
 rcases Nat.eq_zero_or_pos l.length with h0|h0
 .have LN':=bx (LN.out h0)
  clear LN
  rw[h0]
  (go_wp2_with (fail))
  go_ret
  exact⟨2,rfl,⟨⟨fun e=>(by cases e),fun h=>absurd h LN'.out⟩,by decide⟩,M.out.ext⟩
 .have hne:((l.length:Int)==0)=false:=beq_eq_false_iff_ne.2 (by omega)
  have VL:Bx (VTo l n l.length->VList l n):=⟨fun h=>⟨fun e=>by rw[e]at h0;exact absurd h0 (Nat.lt_irrefl _),h⟩⟩
  clear LN
  (go_wp2_with (fail))
  go_loopw [5] (fun j wr=>∃k:Nat,k<=l.length/\j=.int .i64 k/\VTo l n k/\MM Γ w Γ wr [] []) (fun j _=>l.length-(intOf j).toNat)
  case atStart=>exact⟨0,Nat.zero_le _,rfl,VTo.zero _ _,M.out⟩
  case round=>
   obtain⟨k,hk,rfl,hv,hM⟩:=hrel
   clear M
   have M:=bx hM
   have HV:=bx hv
   clear hM hv
   by_cases hkn:k<l.length
   .obtain⟨gk,rfl,hc⟩:=Aef HS.out k hkn
    have F1:=bx hc
    have NX:=bx (HV.out.succ hkn)
    have NO1:Bx (¬(0<=l[k]/\l[k]<n)->¬VList l n):=⟨fun h h'=>h (h'.2 k hkn hkn).1⟩
    have NO2:Bx (∀_:0<k,¬l[k-1]<l[k]->¬VList l n):=⟨fun h0 h h'=>h ((h'.2 k hkn hkn).2 h0)⟩
    have hki:(k:Int)<(l.length:Int):=by omega
    have hk0:0<=(k:Int):=by omega
    clear hc
    by_cases h1:l[k]<0
    .have NO:=bx (NO1.out (by omega))
     generalize l[k]=y at *
     clear NX NO1 NO2 VL
     (go_wp2_with (refine zRFo F1 ?_))
     go_ret
     exact⟨3,rfl,⟨⟨fun e=>(by cases e),fun h=>absurd h NO.out⟩,by decide⟩,M.out.ext⟩
    by_cases h2:n<=l[k]
    .have NO:=bx (NO1.out (by omega))
     generalize l[k]=y at *
     clear NX NO1 NO2 VL
     (go_wp2_with (refine zRFo F1 ?_))
     go_ret
     exact⟨3,rfl,⟨⟨fun e=>(by cases e),fun h=>absurd h NO.out⟩,by decide⟩,M.out.ext⟩
    rcases Nat.eq_zero_or_pos k with hk00|hkp
    .subst hk00
     have NX':=bx (NX.out (by omega) (by omega) (fun h=>absurd h (Nat.lt_irrefl _)))
     generalize l[0]=y at *
     clear NX NO1 NO2
     (go_wp2_with (refine zRFo F1 ?_))
     refine zRG ?_;(repeat(first|go_big_quiet_skip|(go_big_quiet_want;(refine zQO ?_;go_big_quiet_on))));(refine zQN ?_;clear M;intro w4 M)
     (go_wp2_with (fail))
     go_roundw
     case rel=>exact⟨1,by omega,by go_num,NX'.out,M.out⟩
     case measure=>simp[intOf]<;>omega
    .obtain⟨k',rfl⟩:∃k',k=k'+1:=⟨k-1,by omega⟩
     obtain⟨gk',e',hc1⟩:=Aef HS.out k' (by omega)
     injection e' with e'
     injection e' with e'
     subst e'
     have F2:=bx hc1
     have hkk:((k'+1:Nat):Int)-1=(k':Int):=by omega
     have hkg:(0:Int)<((k'+1:Nat):Int):=by omega
     have NO2':Bx (¬l[k']<l[k'+1]->¬VList l n):=⟨fun b=>NO2.out hkp b⟩
     clear NO2
     by_cases h3:l[k']<l[k'+1]
     .have NX':=bx (NX.out (by omega) (by omega) (fun h=>h3))
      have h3':¬l[k'+1]<=l[k']:=by omega
      generalize l[k'+1]=y at *
      generalize l[k']=y1 at *
      clear NX NO1 NO2' hc1
      (go_wp2_with (refine zRFo F1 ?_))
      refine zRG ?_;(repeat((go_big_quiet_want;first|(refine zQFo F1 ?_;go_big_quiet_on;refine zNM ?_)|(refine zQFo F2 ?_;go_big_quiet_on;refine zNM ?_)|(refine zQO ?_;go_big_quiet_on))));(refine zQN ?_;clear M;intro w4 M)
      (go_wp2_with (fail))
      go_roundw
      case rel=>exact⟨k'+1+1,by omega,by go_num,NX'.out,M.out⟩
      case measure=>simp[intOf]<;>omega
     .have NO:=bx (NO2'.out h3)
      have h3':l[k'+1]<=l[k']:=by omega
      generalize l[k'+1]=y at *
      generalize l[k']=y1 at *
      clear NX NO1 NO2' hc1
      (go_wp2_with (refine zRFo F1 ?_))
      refine zRG ?_;(repeat((go_big_quiet_want;first|(refine zQFo F1 ?_;go_big_quiet_on;refine zNM ?_)|(refine zQFo F2 ?_;go_big_quiet_on;refine zNM ?_)|(refine zQO ?_;go_big_quiet_on))));(refine zQN ?_;clear M;intro w4 M)
      (go_wp2_with (fail))
      go_ret
      exact⟨8,rfl,⟨⟨fun e=>(by cases e),fun h=>absurd h NO.out⟩,by decide⟩,M.out.ext⟩
   .obtain rfl:k=l.length:=by omega
    have HR:=bx (VL.out HV.out)
    (go_wp2_with (fail))
    go_ret
    exact⟨0,rfl,⟨⟨fun _=>HR.out,fun _=>rfl⟩,by decide⟩,M.out.ext⟩
end Go.Proofs.YtmgeheaneohldaaGreat
namespace Go.Proofs.YtmgeheaneohldaaGreat
open Go.RowKit
theorem cells_root{l:List Int}(h:l.length=32):Tryz.prog.cellsOf 29=(ints .u8 l).length:=by rw[ints,List.length_map,h];kernel_rfl
abbrev Vt:=Bool × Int × List Int
def vc(v:Vt):List Value:=.bool v.1 :: .int .u64 v.2.1::ints .u8 v.2.2
def VL(vs:List Vt):Prop:=∀v∈vs,v.2.2.length=32
def zv:Vt:=(false,0,zroot)
theorem vc_len{v:Vt}(h:v.2.2.length=32):(vc v).length=34:=by simp[vc,ints,h]
end Go.Proofs.YtmgeheaneohldaaGreat
namespace Go.Proofs.YtmgeheaneohldaaGreat
open Go.RowKit Go.Maps
def Bt(r:List Int):Prop:=∀x∈r,0<=x/\x<256
abbrev Ck:=Int × List Int
def ckc(c:Ck):List Value:=.int .u64 c.1::ints .u8 c.2
structure CkOk(c:Ck):Prop where
 e0:0<=c.1
 e1:c.1<18446744073709551616
 r:c.2.length=32
 b:Bt c.2
theorem Ajx{c:Ck}(h:c.2.length=32):(ckc c).length=33:=by simp[ckc,ints,h]
def kc(c:Ck):Lit:=.string (keyBytes (.int .u64 c.1::c.2.map (Lit.int .u8)))
def heldR(v:Value):Option (DataW Value × List MemPlace):=some (.held v,[])
end Go.Proofs.YtmgeheaneohldaaGreat
namespace Go.Proofs.YtmgeheaneohldaaGreat
open Go.RowKit
def U64(l:List Int):Prop:=∀x∈l,0<=x/\x<18446744073709551616
def k_addV(a b:Int):Int:=if a+b<18446744073709551616 then a+b else 0
def k_addE(a b:Int):Int:=if a+b<18446744073709551616 then 0 else 4
theorem AjW(a b:Int)(ha:0<=a)(ha':a<18446744073709551616)(hb:0<=b)(hb':b<18446744073709551616)(w:World) :
  Calls Tryz.prog 63 #[.int .u64 a,.int .u64 b] w fun e w'=>e=.returned (.tuple #[.int .u64 (k_addV a b),.int .i64 (k_addE a b)])/\w=w':=by
 go_enter Tryz.func63,Tryz.ntmps63
 go_wp2
 .have h:18446744073709551615-b<a:=by assumption
  go_ret2
  unfold k_addV k_addE
  rw[if_neg (by omega),if_neg (by omega)]
  exact⟨rfl,rfl⟩
 .have h:a<=18446744073709551615-b:=by assumption
  go_ret2
  unfold k_addV k_addE
  rw[if_pos (by omega),if_pos (by omega)]
  exact⟨rfl,rfl⟩
def k_sumV(l:List Int):Int:=if l.sum<18446744073709551616 then l.sum else 0
def k_sumE(l:List Int):Int:=if l.sum<18446744073709551616 then 0 else 4
theorem Acs{l:List Int}(h:U64 l):0<=l.sum:=by
 induction l with
 |nil=>simp
 |cons a l ih=>
  have h1:=h a (by simp)
  have h2:=ih (fun x hx=>h x (by simp[hx]))
  simp only[List.sum_cons];omega
theorem Afo{l:List Int}(h:U64 l)(k:Nat):(l.take k).sum<=l.sum:=by
 have h1:(l.take k).sum+(l.drop k).sum=l.sum:=by rw[<-List.sum_append_int,List.take_append_drop]
 have h2:0<=(l.drop k).sum:=Acs fun x hx=>h x (List.mem_of_mem_drop hx)
 omega
theorem Aee{l:List Int}{k:Nat}(hk:k<l.length):(l.take (k+1)).sum=(l.take k).sum+l[k]:=by
 rw[List.take_succ_eq_append_getElem hk,List.sum_append_int];simp
theorem AjV(B:Nat)(A:Option Addr)(n c:Nat)(l:List Int)(w:World)(hr:Row w B 1 A n (ints .u64 l))(hl:U64 l)(hn:n<=9223372036854775807) :
  Calls Tryz.prog 37 #[.slice A n c] w fun e w'=>e=.returned (.tuple #[.int .u64 (k_sumV l),.int .i64 (k_sumE l)])/\w=w':=by
 have hlen:l.length=n:=by have:=hr.1;simpa [ints]using this
 go_enter Tryz.func37,Tryz.ntmps37
 go_wp2
 go_loop [4,5] (fun s i=>∃k:Nat,k<=n/\i=.int .i64 k/\s=.int .u64 (l.take k).sum/\(l.take k).sum<18446744073709551616) (fun _ i=>n-(intOf i).toNat)
 case atStart=>exact⟨0,Nat.zero_le _,rfl,by simp,by simp⟩
 case round=>
  obtain⟨k,hk,rfl,rfl,hlt⟩:=hrel
  have h0:0<=(l.take k).sum:=Acs fun x hx=>hl x (List.mem_of_mem_take hx)
  by_cases hkn:k<n
  .have hkl:k<l.length:=by omega
   have hu:(ints .u64 l)[k]? = some (.int .u64 l[k]):=by unfold ints;rw[List.getElem?_map,List.getElem?_eq_getElem hkl];rfl
   obtain⟨ad,rfl,hb,hc⟩:=hr.at_ hu
   have hx:=hl l[k] (List.getElem_mem hkl)
   have hs:Hid ((l.take (k+1)).sum=(l.take k).sum+l[k]):=Aee hkl
   have HC:=Lib.hid (fun w=>AjW (l.take k).sum l[k] h0 hlt hx.1 hx.2 w)
   have htot:Hid ((l.take (k+1)).sum<=l.sum):=Afo hl _
   have hlen':=Lib.hid hlen
   clear hlen hu
   generalize(l.take k).sum=s at *
   generalize l[k]=x at *
   by_cases hov:s+x<18446744073709551616
   .have hv:k_addV s x=s+x:=by unfold k_addV;rw[if_pos hov]
    have he:k_addE s x=0:=by unfold k_addE;rw[if_pos hov]
    rw[hv,he]at HC
    clear hv he
    go_wp2_with (go_at_call 63;refine(HC.out _).mono ?_;rintro e w' ⟨rfl,rfl⟩)
    go_round
    case rel=>exact⟨k+1,by omega,by go_num,by rw[hs.out],by rw[hs.out];exact hov⟩
    case measure=>simp[intOf];omega
   .have hv:k_addV s x=0:=by unfold k_addV;rw[if_neg hov]
    have he:k_addE s x=4:=by unfold k_addE;rw[if_neg hov]
    rw[hv,he]at HC
    clear hv he
    go_wp2_with (go_at_call 63;refine(HC.out _).mono ?_;rintro e w' ⟨rfl,rfl⟩)
    go_ret2
    have h1:=hs.out
    have h2:=htot.out
    unfold k_sumV k_sumE
    rw[if_neg (by omega),if_neg (by omega)]
    exact⟨rfl,rfl⟩
  .have hkk:k=n:=by omega
   subst hkk
   have hfull:l.take k=l:=List.take_of_length_le (by omega)
   rw[hfull]at hlt |-
   have hv:k_sumV l=l.sum:=by unfold k_sumV;rw[if_pos hlt]
   have he:k_sumE l=0:=by unfold k_sumE;rw[if_pos hlt]
   have HV:=Lib.hid hv
   have HE:=Lib.hid he
   clear hv he hlen hfull
   go_wp2
   go_ret2
   rw[HV.out,HE.out]
   exact⟨rfl,rfl⟩
def tbc(c:Ck)(s:Value):List Value:=ckc c ++ [s]
theorem Aix{c:Ck}(h:c.2.length=32)(s:Value):(tbc c s)[33]? = some s:=by
 unfold tbc
 rw[List.getElem?_append_right (by rw[Ajx h];exact Nat.le_refl _),Ajx h];rfl
def valE(l:List Int)(n v:Int):Int:=if n=v then(if l.sum<=4611686018427387904 then 0 else 4)else 2
theorem AeT(B:Nat)(c:Ck)(hc:c.2.length=32)(A:Option Addr)(n cap:Nat)(v:Int)(l:List Int)(w:World)(hB:B<=w.heap.size)(hr:Row w B 1 A n (ints .u64 l))(hl:U64 l)(hn:n<=9223372036854775807) :
  Calls Tryz.prog 74 #[.agg (tbc c (.slice A n cap)).toArray,.int .i64 v] w fun e w'=>e=.returned (.int .i64 (valE l n v))/\Below w.heap.size w w':=by
 have XB:=bx (Has.new w (tbc c (.slice A n cap)) 107)
 have hcs:(w.alloc (.cells (tbc c (.slice A n cap)).toArray 107)).cell? ⟨w.heap.size,33,none⟩=some (.slice A n cap):=(XB.out.cell 33).trans (Aix hc _)
 have EB:=bx (ext_alloc w (.cells (tbc c (.slice A n cap)).toArray 107))
 have SU:=bx (AjV B A n cap l _ (hr.below (EB.out.mono hB)) hl hn)
 have S0:=bx (Acs hl)
 clear hr hl
 by_cases hnv:(n:Int)=v
 .subst hnv
  go_enter Tryz.func74,Tryz.ntmps74
  go_wp2_with fail
  refine SU.out.mono ?_;rintro e w' ⟨rfl,rfl⟩
  have hs0:=S0.out
  by_cases h1:l.sum<18446744073709551616
  .have HV:Bx (k_sumV l=l.sum/\k_sumE l=0):=⟨by unfold k_sumV k_sumE;rw[if_pos h1,if_pos h1];exact⟨rfl,rfl⟩⟩
   rw[HV.out.1,HV.out.2]
   by_cases h2:l.sum<=4611686018427387904
   .have HE:Bx (valE l n n=0):=⟨by unfold valE;rw[if_pos rfl,if_pos h2]⟩
    clear HV
    generalize l.sum=s at *
    have hng:¬4611686018427387904<s:=by omega
    go_wp2_with fail
    go_ret
    exact⟨by rw[HE.out];rfl,EB.out⟩
   .have HE:Bx (valE l n n=4):=⟨by unfold valE;rw[if_pos rfl,if_neg h2]⟩
    clear HV
    generalize l.sum=s at *
    have hg:4611686018427387904<s:=by omega
    go_wp2_with fail
    go_ret
    exact⟨by rw[HE.out];rfl,EB.out⟩
  .have HV:Bx (k_sumE l=4):=⟨by unfold k_sumE;rw[if_neg h1]⟩
   have HE:Bx (valE l n n=4):=⟨by unfold valE;rw[if_pos rfl,if_neg (by omega)]⟩
   rw[HV.out]
   clear HV
   generalize k_sumV l=s at *
   go_wp2_with fail
   go_ret
   exact⟨by rw[HE.out];rfl,EB.out⟩
 .have hne:((n:Int) != v)=true:=by rw[bne_iff_ne];exact hnv
  have HV:Bx (valE l n v=2):=⟨by unfold valE;rw[if_neg hnv]⟩
  rw[HV.out]
  clear hnv HV
  go_enter Tryz.func74,Tryz.ntmps74
  go_wp2_with fail
  go_ret
  exact⟨rfl,EB.out⟩
end Go.Proofs.YtmgeheaneohldaaGreat
namespace Go.Proofs.YtmgeheaneohldaaGreat
open Go.RowKit Go.Maps
def URow(w:World)(A:Option Addr)(n:Nat)(xs:List Int):Prop:=xs.length=n/\(0<n->∃g post,A=some ⟨g,0,none⟩/\Has w g (ints .u64 xs++post))
theorem URow.below{w w':World}{A:Option Addr}{n:Nat}{xs:List Int}(h:URow w A n xs)(hb:Below w.heap.size w w'):URow w' A n xs:=
 ⟨h.1,fun hn=>by obtain⟨g,post,e,hg⟩:=h.2 hn;exact⟨g,post,e,hg.below hb hg.lt⟩⟩
theorem URow.row{w:World}{A:Option Addr}{n:Nat}{xs:List Int}(h:URow w A n xs):Row w w.heap.size 1 A n (ints .u64 xs):=by
 refine⟨by rw[ints_len,h.1,Nat.mul_one],fun j u hu=>?_⟩
 have hj:j<xs.length:=by have:=(List.getElem?_eq_some_iff.1 hu).1;rwa [ints_len]at this
 obtain⟨g,post,rfl,hg⟩:=h.2 (by have:=h.1;omega)
 refine⟨_,rfl,hg.lt,?_⟩
 rw[Ad9,hg.cell,Nat.zero_add,List.getElem?_append_left (by rw[ints_len];exact hj)]
 exact hu
theorem URow.cell{w:World}{g:Nat}{xs:List Int}{post:List Value}(h:Has w g (ints .u64 xs++post)){k:Nat}(hk:k<xs.length):w.cell? ⟨g,k,none⟩=some (.int .u64 (xs.getD k 0)):=by
 rw[h.cell,List.getElem?_append_left (by rw[ints_len];exact hk),ints,List.getElem?_map,List.getElem?_eq_getElem hk,getD_at hk];rfl
theorem URow.own{w:World}{base:Nat}{e:TypeId}{A:Option Addr}{n c:Nat}{xs:List Int}(hl:xs.length=n)(h:w.ownsRow base e 1 (.slice A n c) n (ints .u64 xs)):URow w A n xs:=
 ⟨hl,fun hn=>by
  obtain⟨g,c',post,e,_,hg⟩:=own_block h hn
  injection e with e1 _ _
  exact⟨g,post,e1,hg⟩⟩
theorem U64.at{l:List Int}(h:U64 l){k:Nat}(hk:k<l.length):0<=l.getD k 0/\l.getD k 0<18446744073709551616:=by
 rw[getD_at hk];exact h _ (List.getElem_mem hk)
abbrev Tb:=Ck × List Int
structure TOk(T:List Tb):Prop where
 ok:∀t∈T,CkOk t.1
 u:∀t∈T,U64 t.2
 nd:T.Pairwise fun s t=>s.1≠t.1
def look(T:List Tb)(c:Ck):Option (List Int):=(T.find? fun t=>decide (t.1=c)).map (·.2)
def zt:List Value:=tbc (0,zroot) (.slice none 0 0)
structure BkMap(P:Nat->Prop)(w:World)(M:Nat)(T:List Tb):Prop where
 ok:TOk T
 ex:∃D,w.ownsMap (H:=Value) Tryz.prog 37 heldR M T.length D/\Tidy D/\Maps.size D=T.length/\(∀kl,has D kl=true↔∃t∈T,kl=kc t.1) /\
  ∀t∈T,∃A cap,(∀z,D.atKey (kc t.1) z=.held (.agg (tbc t.1 (.slice A t.2.length cap)).toArray))/\URow w A t.2.length t.2/\(A=none->cap=0)/\∀ad,A=some ad->P ad.block
def bal(T:List Tb)(c:Ck):List Int:=(look T c).getD []
structure Bk(P:Nat->Prop)(w:World)(B M:Nat)(v lim:Int)(T:List Tb):Prop where
 b:Has w B [.int .i64 v,.int .i64 lim,.map (some M)]
 m:BkMap P w M T
theorem quiet_cell{P:Program}{C:World->Prop}{o:Oper}{a:Act}{K:Act->Prop}(ty:TypeId)(x:Operand)(ho:o.op=.load ty x)(p:Addr)(v:Value)
  (hx:a.eval x=.pointer (some p)) (hr:∀w,C w->(Instr.loadAt ty (.pointer (some p))).run P w=.ok v w) (hk:K (a.put o.dst v)):o.quiet P a C K:=by
 refine⟨_,fun w hw=>?_,hk⟩
 unfold Oper.quietAt execOp
 simp only[ho,hx,hr w hw,Sem.run_bind,Sem.run_pure,Result.andThen_ok]
 exact⟨rfl,rfl⟩
theorem info_u64:(Tryz.prog.info? 23).map (fun i=>(i.zero,i.size,i.bytes))=some (some (.int .u64 0),1,8):=by kernel_rfl
def UP(n:Nat)(xs:List Int)(w:World)(e:Ending)(w':World):Prop:=
 ∃(A:Option Addr) (c:Nat),e=.returned (.slice A n c)/\w'.ownsRow w.heap.size 23 1 (.slice A n c) n (ints .u64 xs)/\Below w.heap.size w w'
end Go.Proofs.YtmgeheaneohldaaGreat
namespace Go.Proofs.YtmgeheaneohldaaGreat
open Go.RowKit
theorem Agk:ElT Tryz.prog 30 23 1 8:=AcX Tryz.underlying30 (by kernel_rfl) (by decide) (by decide)
theorem elTb:ElT Tryz.prog 47 107 34 64:=AcX Tryz.underlying47 (by kernel_rfl) (by decide) (by decide)
theorem ztTb:ZeroT Tryz.prog 107 (tbP cp0 (.slice none 0 0)) [1,32,1]:=⟨fun w=>by kernel_rfl,Aaf _ _⟩
theorem Amb(l:List U):One (us l):=fun u hu=>by
 obtain⟨x,_,rfl⟩:=List.mem_map.1 hu
 rfl
def CTb(Γ:Gam)(w:World)(t:Tbl)(e:Ending)(w':World):Prop:=∃s Γ',e=.returned (.agg (fl (tbP t.c s)).toArray)/\TbG Γ' (t.c,s) t/\Ext Γ w Γ' w'
theorem AcA(Γ:Gam)(c:Cp)(b:List U)(hb:b.length<=65535)(A:Option Addr)(k:Nat)(w:World)(ok:Ok Γ w)(h:Row w w.heap.size 1 A b.length (us b))(hA:A=none->k=0) :
  Calls Tryz.prog 76 #[.agg (fl (tbP c (.slice A b.length k))).toArray] w (CTb Γ w ⟨c,b⟩):=by
 have M:=bx (MM.start ok)
 have HR:=bx h
 have HA:=bx hA
 clear h ok hA
 go_enter Tryz.func76,Tryz.ntmps76
 go_wp2_with (first|(refine zBYo (Aaf _ _) ?_;clear M;intro w' g M)|(refine zALo (ztTb) ?_;clear M;intro w' g M)|refine zLDo (M.out.at1) ?_|(at_builtin;(with_reducible apply Aa8 (M.out.row0 23 1) Agk (HR.out.below M.bel |>.more M.bel.size) HA.out);exact Amb _;(unfold maxLen;omega);omega;rfl;rfl;rfl;rfl;intro A' c' w' M';(simp only[Nat.zero_add,List.nil_append]at M');(replace M:=bx M';clear M'))|(refine zS1o M 1 (.slice A' b.length c') (tbP c (.slice A' b.length c')) ?_;clear M;intro w' M)|(refine zSSo M 0 (tbP c (.slice A' b.length c')) (tbP c (.slice A' b.length c')) (Aaf _ _) (AfF _ _ _ _) ?_;clear M;intro w' M))
 obtain⟨Γ',h1,h2,h3,h4⟩:=M.out.frz
 exact zRb h4.at0 ⟨_,Γ',rfl,⟨rfl,_,_,rfl,h1,h2⟩,h4.ext⟩
theorem row_len{w:World}{B:Nat}{A:Option Addr}{n:Nat}{k:IntKind}{l:List Int}(h:Row w B 1 A n (ints k l)):l.length=n:=by have:=h.1;simpa [ints]using this
theorem ints_at{k:IntKind}{l:List Int}{i:Nat}(h:i<l.length):(ints k l)[i]? = some (.int k (l.getD i 0)):=by
 unfold ints
 rw[List.getElem?_map,List.getElem?_eq_getElem h,getD_at h]
 rfl
theorem take_more{a b:List Int}{k:Nat}(ha:k<a.length)(hb:k<b.length)(h:a.take k=b.take k)(he:a.getD k 0=b.getD k 0):a.take (k+1)=b.take (k+1):=by
 rw[List.take_succ_eq_append_getElem ha,List.take_succ_eq_append_getElem hb,h,<-getD_at ha,<-getD_at hb,he]
theorem sameNumbers_any(B:Nat)(A A':Option Addr)(n n' c c':Nat)(a b:List Int)(w:World)(hB:B<=w.heap.size)(ha:Row w B 1 A n (ints .u64 a))(hb:Row w B 1 A' n' (ints .u64 b))(hn:n<=9223372036854775807)(hn':n'<=9223372036854775807) :
  Calls Tryz.prog 22 #[.slice A n c,.slice A' n' c'] w fun e w'=>e=.returned (.bool (decide (a=b)))/\Below w.heap.size w w':=by
 have la:=row_len ha
 have lb:=row_len hb
 have HA:=bx ha
 have HB:=bx hb
 have HBB:=bx hB
 clear ha hb hB
 by_cases hnn:n=n'
 .subst hnn
  have LA:=bx la
  have LB:=bx lb
  clear la lb
  go_enter Tryz.func22,Tryz.ntmps22
  go_wp2_with fail
  go_loopw [5] (fun i wr=>∃k:Nat,k<=n/\i=.int .i64 k/\a.take k=b.take k/\Below w.heap.size w wr) (fun i _=>n-(intOf i).toNat)
  case atStart=>exact⟨0,Nat.zero_le _,rfl,rfl,Below.refl _ _⟩
  case round=>
   obtain⟨k,hk,rfl,htk,hbel⟩:=hrel
   have HTK:=bx htk
   have HBEL:=bx hbel
   clear htk hbel
   by_cases hkn:k<n
   .have hka:k<a.length:=by rw[LA.out];exact hkn
    have hkb:k<b.length:=by rw[LB.out];exact hkn
    obtain⟨ad,rfl,hb1,hc1⟩:=(HA.out.below (HBEL.out.mono HBB.out)).at_ (ints_at hka)
    obtain⟨ad',rfl,hb2,hc2⟩:=(HB.out.below (HBEL.out.mono HBB.out)).at_ (ints_at hkb)
    have hki:(k:Int)<(n:Int):=by omega
    have hk0:0<=(k:Int):=by omega
    have HTM:=bx (take_more hka hkb HTK.out)
    have HNE:Bx (a.getD k 0≠b.getD k 0->a≠b):=⟨fun hne he=>hne (by rw[he])⟩
    generalize a.getD k 0=x at *
    generalize b.getD k 0=y at *
    by_cases hxy:x=y
    .subst hxy
     go_wp2_with fail
     go_quiet (fail)
     go_wp2_with fail
     go_roundw
     case rel=>exact⟨k+1,by omega,by go_num,HTM.out (by first|rfl|trivial),AdC HBEL.out _⟩
     case measure=>simp[intOf];omega
    .have hne:(x==y)=false:=by simpa using hxy
     have hne':(x != y)=true:=by simpa using hxy
     have HD:Bx (decide (a=b)=false):=⟨decide_eq_false (HNE.out hxy)⟩
     go_wp2_with fail
     go_quiet (fail)
     go_wp2_with fail
     go_ret
     exact⟨by rw[HD.out];rfl,AdC HBEL.out _⟩
   .have hkk:k=n:=by omega
    subst hkk
    have he:a=b:=by
     have h1:a.take k=a:=List.take_of_length_le (by rw[LA.out];exact Nat.le_refl _)
     have h2:b.take k=b:=List.take_of_length_le (by rw[LB.out];exact Nat.le_refl _)
     rw[<-h1,<-h2];exact HTK.out
    have HD:Bx (decide (a=b)=true):=⟨decide_eq_true he⟩
    clear he
    go_wp2_with fail
    go_ret
    exact⟨by rw[HD.out];rfl,HBEL.out⟩
 .have hne:¬(n:Int)=(n':Int):=by omega
  have HD:Bx (decide (a=b)=false):=⟨decide_eq_false (fun h=>hnn (by rw[<-la,<-lb,h]))⟩
  have hne':((n:Int) != (n':Int))=true:=by simp;omega
  clear la lb
  go_enter Tryz.func22,Tryz.ntmps22
  go_wp2_with fail
  go_ret
  exact⟨by rw[HD.out];rfl,Below.refl _ _⟩
abbrev tbx(x:Cp × Value):List Value:=fl (tbP x.1 x.2)
def TsP(Γ:Gam)(w:World)(T:List Tbl)(e:Ending)(w':World):Prop:=∃(A:Option Addr) (c:Nat) (Γ':Gam),e=.returned (.slice A T.length c)/\CapOk A T.length c/\TsG Γ' A T.length T/\Ext Γ w Γ' w'
theorem AfX{Γ:Gam}{x:Cp × Value}{t:Tbl}(h:TbG Γ x t):One (tbx x):=by
 obtain⟨A,k,e,_⟩:=h.s
 unfold tbx
 rw[e];exact AfF _ _ _ _
theorem Ajf{α β:Type}(X:List α)(x:α)(f:α->List β):(X ++ [x]).flatMap f=X.flatMap f++f x:=by simp
def dropT(T:List Tbl)(e:Nat):List Tbl:=T.filter fun t=>decide (e<=t.c.e.n)
theorem Ajo{T:List Tbl}{e k:Nat}(hk:k<T.length)(h:e<=T[k].c.e.n):dropT (T.take (k+1)) e=dropT (T.take k) e ++ [T[k]]:=by
 unfold dropT
 rw[List.take_succ_eq_append_getElem hk,List.filter_append]
 simp[h]
theorem Ak3{T:List Tbl}{e k:Nat}(hk:k<T.length)(h:¬e<=T[k].c.e.n):dropT (T.take (k+1)) e=dropT (T.take k) e:=by
 unfold dropT
 rw[List.take_succ_eq_append_getElem hk,List.filter_append]
 simp[h]
theorem AdM(Γ:Gam)(A:Option Addr)(n c:Nat)(T:List Tbl)(e:Nat)(hn:n<=65535)(w:World)(ok:Ok Γ w)(h:TsG Γ A n T) :
  Calls Tryz.prog 167 #[.slice A n c,.int .u64 e] w (TsP Γ w (dropT T e)):=by
 have M:=bx (MM.start ok)
 have HT:=bx h
 clear h ok
 go_enter Tryz.func167,Tryz.ntmps167
 go_wp2_with fail
 go_loopw [5,6] (fun s i wr=>∃(k:Nat) (X:List (Cp × Value)) (A1:Option Addr) (c1:Nat),k<=n/\i=.int .i64 k/\s=.slice A1 X.length c1/\X.length<=k/\All2 (TbG Γ) X (dropT (T.take k) e)/\MM Γ w Γ wr [] [⟨.slice A1 X.length c1,107,34,X.length,X.flatMap tbx⟩]) (fun _ i _=>n-(intOf i).toNat)
 case atStart=>exact⟨0,[],none,0,Nat.zero_le _,rfl,rfl,Nat.le_refl _,All2.nil,M.out.row0 _ _⟩
 case round=>
  obtain⟨k,X,A1,c1,hk,rfl,rfl,hXk,hX,hM⟩:=hrel
  clear M
  have M:=bx hM
  have HX:=bx hX
  clear hM hX
  by_cases hkn:k<n
  .have hkl:k<T.length:=by rw[HT.out.1];exact hkn
   obtain⟨g,s,rfl,hst,hc⟩:=HT.out.at k hkn
   have HC:=bx hc
   have ST:=bx hst
   have hki:(k:Int)<(n:Int):=by omega
   have hk0:0<=(k:Int):=by omega
   have YES:=bx (Ajo (e:=e) hkl)
   have NO:=bx (Ak3 (e:=e) hkl)
   have HKN:=bx hkn
   have hX5:X.length+1<=65536:=by omega
   clear hst hc
   generalize T[k]=t at *
   by_cases he:e<=t.c.e.n
   .have hei:(e:Int)<=(t.c.e.n:Int):=by omega
    have YES':=bx (YES.out he)
    clear YES NO
    go_wp2_with (first|refine zRD (CL.of HC.out (Aaf _ _) M.ok) ?_|((with_reducible apply Abk M.out elTb);rfl;rfl;rfl;rfl;exact Aaf _ _;rfl;intro w' g M' hb';(replace M:=bx M';clear M');clear hb')|(at_builtin;(with_reducible apply AaW M.out elTb);rfl;exact AfX ST.out;(unfold maxLen;omega);omega;rfl;rfl;rfl;rfl;intro A' c' w' M';(replace M:=bx M';clear M')))
    go_roundw
    case rel=>exact⟨k+1,X ++ [(t.c,s)],A',c',by omega,by go_num,by simp,by simp;omega,by rw[YES'.out];exact HX.out.app (All2.one ST.out),by rw[Ajf,List.length_append];exact M.out⟩
    case measure=>have:=HKN.out;simp[intOf];omega
   .have hei:(t.c.e.n:Int)<(e:Int):=by omega
    have NO':=bx (NO.out he)
    clear YES NO
    go_wp2_with (refine zRD (CL.of HC.out (Aaf _ _) M.ok) ?_)
    go_roundw
    case rel=>exact⟨k+1,X,A1,c1,by omega,by go_num,rfl,by omega,by rw[NO'.out];exact HX.out,M.out⟩
    case measure=>have:=HKN.out;simp[intOf];omega
  .obtain rfl:k=n:=by omega
   have hT:T.take k=T:=List.take_of_length_le (by rw[HT.out.1];exact Nat.le_refl _)
   rw[hT]at HX
   clear hT
   go_wp2_with fail
   go_ret
   obtain⟨Γ',h1,h2,h3,h4⟩:=M.out.frz
   have hl:=HX.out.1
   exact⟨A1,c1,Γ',by rw[hl];rfl,hl▸h1,⟨rfl,X,HX.out.imp (fun _ _ h=>h.mono h3),by rw[<-hl];exact h2⟩,h4.ext⟩
end Go.Proofs.YtmgeheaneohldaaGreat
namespace Go.Proofs.YtmgeheaneohldaaGreat
open Go.RowKit Go.Sort
def cmpI:List Int->List Int->Int
 |a::xs,b::ys=>if a<b then -1 else if b<a then 1 else cmpI xs ys
 |_,_=>0
end Go.Proofs.YtmgeheaneohldaaGreat
namespace Go.Proofs.YtmgeheaneohldaaGreat
open Go.RowKit
theorem AeK(l:List Int)(k:Nat)(h:k<l.length):l.getD k 0=l[k]:=by simp[List.getD_eq_getElem?_getD,List.getElem?_eq_getElem h]
theorem Aju:∀(k:Nat) (a b:List Int),k<a.length->a.length=b.length->a.take k=b.take k->a.getD k 0<b.getD k 0->cmpI a b = -1
 |0,[],_,h,_,_,_=>by simp at h
 |0,a::xs,b::ys,_,_,_,h=>by simp at h;simp[cmpI,h]
 |0,_::_,[],_,h,_,_=>by simp at h
 |k+1,[],_,h,_,_,_=>by simp at h
 |k+1,_::_,[],_,h,_,_=>by simp at h
 |k+1,a::xs,b::ys,h1,h2,h3,h4=>by
  simp only[List.take_succ_cons,List.cons.injEq]at h3
  obtain⟨rfl,h3⟩:=h3
  have:=Aju k xs ys (by simpa using h1) (by simpa using h2) h3 (by simpa using h4)
  simp[cmpI,this]
theorem Ajv:∀(k:Nat) (a b:List Int),k<a.length->a.length=b.length->a.take k=b.take k->b.getD k 0<a.getD k 0->cmpI a b=1
 |0,[],_,h,_,_,_=>by simp at h
 |0,a::xs,b::ys,_,_,_,h=>by simp at h;simp[cmpI,h];omega
 |0,_::_,[],_,h,_,_=>by simp at h
 |k+1,[],_,h,_,_,_=>by simp at h
 |k+1,_::_,[],_,h,_,_=>by simp at h
 |k+1,a::xs,b::ys,h1,h2,h3,h4=>by
  simp only[List.take_succ_cons,List.cons.injEq]at h3
  obtain⟨rfl,h3⟩:=h3
  have:=Ajv k xs ys (by simpa using h1) (by simpa using h2) h3 (by simpa using h4)
  simp[cmpI,this]
theorem Adv:∀(a b:List Int),a.length=b.length->(cmpI a b=0↔a=b)
 |[],[],_=>by simp[cmpI]
 |[],_::_,h=>by simp at h
 |_::_,[],h=>by simp at h
 |a::xs,b::ys,h=>by
  have ih:=Adv xs ys (by simpa using h)
  unfold cmpI
  by_cases h1:a<b
  .simp[h1];intro e;omega
  .by_cases h2:b<a
   .simp[h1,h2];intro e;omega
   .have:a=b:=by omega
    subst this
    simp[h1,ih]
theorem AeD{a b:List Int}(ha:Fit .u8 a)(hb:Fit .u8 b)(la:a.length=32)(lb:b.length=32)(w:World) :
  Calls Tryz.prog 36 #[.agg (ints .u8 a).toArray,.agg (ints .u8 b).toArray] w fun e w'=>e=.returned (.int .i64 (cmpI a b))/\Below w.heap.size w w':=by
 obtain⟨W,hW⟩:∃W,W=(w.alloc (.cells (ints .u8 a).toArray 29)).alloc (.cells (ints .u8 b).toArray 29):=⟨_,rfl⟩
 have hx:∀n k:Nat,∀hk:k<a.length,(W.drewN n).cell? ⟨w.heap.size,k,none⟩=some (.int .u8 a[k]):=by
  intro n k hk
  subst hW
  have h1:=Add w (ints .u8 a) 29 k (.int .u8 a[k]) (by rw[ints,List.getElem?_map,List.getElem?_eq_getElem hk];rfl)
  have hadd:(⟨w.heap.size,0,none⟩:Addr).add k=⟨w.heap.size,k,none⟩:=by unfold Addr.add;split<;>simp_all
  rw[hadd]at h1
  exact(World.cell?_alloc_lt _ _ _ (by simp)).trans h1
 have hy:∀n k:Nat,∀hk:k<b.length,(W.drewN n).cell? ⟨w.heap.size+1,k,none⟩=some (.int .u8 b[k]):=by
  intro n k hk
  subst hW
  have h1:=Add (w.alloc (.cells (ints .u8 a).toArray 29)) (ints .u8 b) 29 k (.int .u8 b[k]) (by rw[ints,List.getElem?_map,List.getElem?_eq_getElem hk];rfl)
  have hadd:(⟨w.heap.size+1,0,none⟩:Addr).add k=⟨w.heap.size+1,k,none⟩:=by unfold Addr.add;split<;>simp_all
  simp only[World.size_alloc,hadd]at h1
  exact h1
 have HX:=Lib.hid hx
 have HY:=Lib.hid hy
 have HW:=Lib.hid hW
 have hbel:Hid (∀n,Below w.heap.size w (W.drewN n)):=fun n=>AdC (by subst hW;exact((Below.refl _ _).alloc (Nat.le_refl _) _).alloc (by simp) _) n
 clear hx hy
 go_enter Tryz.func36,Tryz.ntmps36
 go_wp2
 go_loopw [5] (fun i wr=>∃k m:Nat,k<=32/\i=.int .i64 k/\wr=W.drewN m/\a.take k=b.take k) (fun i _=>32-(intOf i).toNat)
 case atStart=>exact⟨0,0,by omega,rfl,by rw[HW.out];rfl,rfl⟩
 case round=>
  obtain⟨k,m,hk,rfl,rfl,hkk⟩:=hrel
  have HK:=Lib.hid hkk
  clear hkk
  by_cases hlt:k<32
  .have h1:∀n,(W.drewN n).cell? ⟨w.heap.size,k,none⟩=some (.int .u8 (a.getD k 0)):=fun n=>by rw[AeK a k (by omega)];exact HX.out n k (by omega)
   have h2:∀n,(W.drewN n).cell? ⟨w.heap.size+1,k,none⟩=some (.int .u8 (b.getD k 0)):=fun n=>by rw[AeK b k (by omega)];exact HY.out n k (by omega)
   have g1:Hid (a.getD k 0<b.getD k 0->cmpI a b = -1):=fun h=>Aju k a b (by omega) (by omega) HK.out h
   have g2:Hid (b.getD k 0<a.getD k 0->cmpI a b=1):=fun h=>Ajv k a b (by omega) (by omega) HK.out h
   have g3:Hid (a.getD k 0=b.getD k 0->a.take (k+1)=b.take (k+1)):=fun h=>by
    rw[List.take_succ_eq_append_getElem (by omega),List.take_succ_eq_append_getElem (by omega),HK.out,<-AeK a k (by omega),<-AeK b k (by omega),h]
   clear hW la lb
   generalize a.getD k 0=x at *
   generalize b.getD k 0=y at *
   by_cases c1:x<y
   .go_wp2
    go_quiet (fail)
    go_wp2
    go_ret
    exact⟨by rw[g1.out c1];rfl,by repeat(first|exact hbel.out _|apply AdC)⟩
   .by_cases c2:y<x
    .go_wp2
     go_quiet (fail)
     go_wp2
     go_quiet (fail)
     go_wp2
     go_ret
     exact⟨by rw[g2.out c2];rfl,by repeat(first|exact hbel.out _|apply AdC)⟩
    .have c3:=g3.out (by omega)
     have H3:=Lib.hid c3
     clear c3
     go_wp2
     go_quiet (fail)
     go_wp2
     go_quiet (fail)
     go_wp2
     go_roundw
     case rel=>exact⟨k+1,_,by omega,by go_num,by first|rfl|(simp only[World.drewN_drewN];rfl),H3.out⟩
     case measure=>simp[intOf];omega
  .have hkk:k=32:=by omega
   subst hkk
   have e:a=b:=by have:=HK.out;rwa [List.take_of_length_le (by omega),List.take_of_length_le (by omega)]at this
   have h0:=Lib.hid ((Adv a b (by omega)).2 e)
   clear e hW la lb
   go_wp2
   go_ret
   exact⟨by rw[h0.out];rfl,hbel.out _⟩
theorem AlX(r:Rt):Fit .u8 r.l:=fun x hx=>by
 have h:=r.bt x hx
 simp only[Lit.wf,Bool.and_eq_true,decide_eq_true_eq]
 exact⟨h.1,Int.le_of_lt_add_one h.2⟩
def cmpRt(a b:Rt):Int:=cmpI a.l b.l
theorem AcJ(a b:Rt)(w:World):Calls Tryz.prog 36 #[.agg (rc a).toArray,.agg (rc b).toArray] w fun e w'=>e=.returned (.int .i64 (cmpRt a b))/\Below w.heap.size w w':=AeD (AlX a) (AlX b) a.len b.len w
def cmpCp(a b:Cp):Int:=if a.e.n<b.e.n then -1 else if b.e.n<a.e.n then 1 else cmpRt a.r b.r
theorem AgF(a b:Cp)(w:World):Calls Tryz.prog 190 #[.agg (fl (cpP a)).toArray,.agg (fl (cpP b)).toArray] w fun e w'=>e=.returned (.int .i64 (cmpCp a b))/\Below w.heap.size w w':=by
 have M:=bx (MM.start (AeE w))
 have C1:=bx (fun h:a.e.n<b.e.n=>show cmpCp a b = -1 by unfold cmpCp;rw[if_pos h])
 have C2:=bx (fun(h:¬a.e.n<b.e.n) (h':b.e.n<a.e.n)=>show cmpCp a b=1 by unfold cmpCp;rw[if_neg h,if_pos h'])
 have C3:=bx (fun(h:¬a.e.n<b.e.n) (h':¬b.e.n<a.e.n)=>show cmpCp a b=cmpRt a.r b.r by unfold cmpCp;rw[if_neg h,if_neg h'])
 by_cases h1:a.e.n<b.e.n
 .have D1:=bx (C1.out h1)
  have hi:(a.e.n:Int)<(b.e.n:Int):=by omega
  clear C1 C2 C3 h1
  go_enter Tryz.func190,Tryz.ntmps190
  go_wp2_with (first|(refine zBYo (AaA _) ?_;clear M;intro w' g M)|refine zLDo (M.out.at0) ?_|refine zLDo (M.out.at1) ?_)
  all_goals
   go_ret
   exact⟨by rw[D1.out];rfl,M.bel⟩
 .by_cases h2:b.e.n<a.e.n
  .have D1:=bx (C2.out h1 h2)
   have hi:¬(a.e.n:Int)<(b.e.n:Int):=by omega
   have hne:((a.e.n:Int) != (b.e.n:Int))=true:=by rw[bne_iff_ne];omega
   clear C1 C2 C3 h1 h2
   go_enter Tryz.func190,Tryz.ntmps190
   go_wp2_with (first|(refine zBYo (AaA _) ?_;clear M;intro w' g M)|refine zLDo (M.out.at0) ?_|refine zLDo (M.out.at1) ?_)
   go_ret
   exact⟨by rw[D1.out];rfl,M.bel⟩
  .have D1:=bx (C3.out h1 h2)
   have hne:((a.e.n:Int) != (b.e.n:Int))=false:=by rw[bne_eq_false_iff_eq];omega
   clear C1 C2 C3 h1 h2
   go_enter Tryz.func190,Tryz.ntmps190
   go_wp2_with (first|(refine zBYo (AaA _) ?_;clear M;intro w' g M)|refine zLDo (M.out.at0) ?_|refine zLDo (M.out.at1) ?_)
   refine(AcJ a.r b.r _).mono ?_;rintro e w1 ⟨rfl,hb⟩
   replace M:=bx (M.out.below hb)
   clear hb
   go_wp2_with fail
   go_ret
   exact⟨by rw[D1.out];rfl,M.bel⟩
def addT(T:List Tbl)(t:Tbl):List Tbl:=T.takeWhile (fun x=>decide (cmpCp x.c t.c<0))++t::T.dropWhile (fun x=>decide (cmpCp x.c t.c<0))
theorem AfU{α:Type}{p:α->Bool}:∀{T:List α} {k:Nat},k<=T.length->(∀j (hj:j<T.length),j<k->p T[j]=true)->(∀h:k<T.length,p T[k]=false)->T.takeWhile p=T.take k/\T.dropWhile p=T.drop k
 |[],k,hk,_,_=>by simp
 |x::T,0,_,_,h=>by
  have:=h (Nat.succ_pos _)
  simp only[List.getElem_cons_zero]at this
  simp[List.takeWhile_cons,List.dropWhile_cons,this]
 |x::T,k+1,hk,h1,h2=>by
  have h0:=h1 0 (Nat.succ_pos _) (Nat.succ_pos _)
  simp only[List.getElem_cons_zero]at h0
  obtain⟨e1,e2⟩:=AfU (T:=T) (k:=k) (by simpa using hk) (fun j hj hjk=>h1 (j+1) (Nat.succ_lt_succ hj) (Nat.succ_lt_succ hjk)) (fun h=>h2 (Nat.succ_lt_succ h))
  simp[List.takeWhile_cons,List.dropWhile_cons,h0,e1,e2]
theorem AkG{T:List Tbl}{t:Tbl}{k:Nat}(hk:k<=T.length)(h1:∀j (hj:j<T.length),j<k->cmpCp T[j].c t.c<0)(h2:∀h:k<T.length,¬cmpCp T[k].c t.c<0):addT T t=T.take k++t::T.drop k:=by
 obtain⟨e1,e2⟩:=AfU (p:=fun x=>decide (cmpCp x.c t.c<0)) hk (fun j hj hjk=>decide_eq_true (h1 j hj hjk)) (fun h=>decide_eq_false (h2 h))
 unfold addT
 rw[e1,e2]
theorem Adf{α:Type}{f:α->List Value}{k:Nat}(X:List α)(h:∀x∈X,(f x).length=k)(i:Nat):(X.flatMap f).take (i*k)=(X.take i).flatMap f:=by
 rcases Nat.lt_or_ge i X.length with hi|hi
 .rw[Abr X i hi,List.append_assoc,<-Acg X i hi h,List.take_left]
 .rw[List.take_of_length_le hi,List.take_of_length_le]
  rw[Aap X h];exact Nat.mul_le_mul_right _ hi
theorem Ael{α:Type}{f:α->List Value}{k:Nat}(X:List α)(h:∀x∈X,(f x).length=k)(i:Nat):(X.flatMap f).drop (i*k)=(X.drop i).flatMap f:=by
 have h1:=List.take_append_drop (i*k) (X.flatMap f)
 rw[Adf X h i]at h1
 have h2:X.flatMap f=(X.take i).flatMap f++(X.drop i).flatMap f:=by rw[<-List.flatMap_append,List.take_append_drop]
 exact List.append_cancel_left (h1.trans h2)
theorem flat_one{α:Type}{f:α->List Value}{X:List α}(h:∀x∈X,One (f x)):One (X.flatMap f):=fun u hu=>by
 obtain⟨x,hx,hu⟩:=List.mem_flatMap.1 hu
 exact h x hx u hu
theorem All2.left{α β:Type}{r:α->β->Prop}{X:List α}{T:List β}(h:All2 r X T){p:α->Prop}(hp:∀a b,r a b->p a):∀x∈X,p x:=fun x hx=>by
 obtain⟨i,hi,rfl⟩:=List.getElem_of_mem hx
 exact hp _ _ (h.2 i hi (h.1▸hi))
theorem AkF{Γ Γ1 Γ':Gam}{w w':World}{X:List (Cp × Value)}{T:List Tbl}{t:Tbl}{s1:Value}{k n:Nat}{A6:Option Addr}{c6:Nat}(hX:All2 (TbG Γ) X T)(hs:TbG Γ1 (t.c,s1) t)(l1:Le Γ Γ1)(l2:Le Γ1 Γ')(he:addT T t=T.take k++t::T.drop k)(hn:T.length=n)(hk:k<=n)
  (h1:CapOk A6 (k+1+(n-k)) c6) (h2:SlG Γ' A6 (k+1+(n-k)) ((X.flatMap tbx).take (k*34)++fl (tbP t.c s1)++(X.flatMap tbx).drop (k*34))) (h4:Ext Γ w Γ' w') :
  TsP Γ w (addT T t) (.returned (.slice A6 (k+1+(n-k)) c6)) w':=by
 have hl:(addT T t).length=k+1+(n-k):=by rw[he];simp[hn];omega
 refine⟨A6,c6,Γ',by rw[hl],by rw[hl];exact h1,⟨rfl,X.take k ++ [(t.c,s1)]++X.drop k,?_,?_⟩,h4⟩
 .have e:addT T t=(T.take k ++ [t])++T.drop k:=by rw[he];simp
  rw[e]
  exact(((hX.take k).imp fun _ _ h=>h.mono (l1.trans l2)).app (All2.one (hs.mono l2))).app ((hX.drop k).imp fun _ _ h=>h.mono (l1.trans l2))
 .rw[hl]
  rw[Adf X (fun x _=>AdJ _ _),Ael X (fun x _=>AdJ _ _)]at h2
  simpa using h2
theorem Ag1(Γ:Gam)(A:Option Addr)(n c:Nat)(T:List Tbl)(t:Tbl)(s:Value)(hn:n<=65535)(hb:t.b.length<=65535)(w:World)(ok:Ok Γ w)(h:TsG Γ A n T)(hcap:CapOk A n c)(ht:TbG Γ (t.c,s) t) :
  Calls Tryz.prog 178 #[.slice A n c,.agg (fl (tbP t.c s)).toArray] w (TsP Γ w (addT T t)):=by
 have M:=bx (MM.start ok)
 have HT:=bx h
 have HC:=bx hcap
 have HB:=bx hb
 obtain⟨As,ks,hs,hsc,hsr⟩:=ht.s
 simp only at hs
 subst hs
 have HTC:=bx hsc
 have HTR:=bx (fun(Γ':Gam) (w':World) (hl:Le Γ Γ') (o:Ok Γ' w')=>(hsr.mono hl).row (size:=1) (by rw[AdH,Nat.mul_one]) o)
 obtain⟨X,hX,hS⟩:=h.2
 have HX:=bx hX
 have HTb:=bx ht
 have LN:=bx h.1
 have HL:Bx ((X.flatMap tbx).length=n*34):=⟨by rw[Aap X (fun x _=>AdJ _ _),hX.1,LN.out]⟩
 have HOX:Bx (∀x∈X,One (tbx x)):=⟨hX.left fun _ _ h=>AfX h⟩
 have HO:Bx (∀k,One ((X.flatMap tbx).take (k*34))):=⟨fun k u hu=>flat_one HOX.out u (List.mem_of_mem_take hu)⟩
 have HO2:Bx (∀k,One ((X.flatMap tbx).drop (k*34))):=⟨fun k u hu=>flat_one HOX.out u (List.mem_of_mem_drop hu)⟩
 clear h hcap hb ht hsc hsr hX ok
 go_enter Tryz.func178,Tryz.ntmps178
 go_wp2_with (refine zBYo (Aaf _ _) ?_;clear M;intro w' g M)
 go_loopw [5] (fun i wr=>∃k:Nat,k<=n/\i=.int .i64 k/\(∀j (hj:j<T.length),j<k->cmpCp T[j].c t.c<0)/\MM Γ w Γ wr [⟨g,tbP t.c (.slice As t.b.length ks),[1,32,1]⟩] []) (fun i _=>n-(intOf i).toNat)
 case atStart=>exact⟨0,Nat.zero_le _,rfl,fun j _ hj=>absurd hj (Nat.not_lt_zero _),M.out⟩
 case round=>
  obtain⟨k,hk,rfl,hlow,hM⟩:=hrel
  clear M
  have M:=bx hM
  have HLOW:=bx hlow
  clear hM hlow
  have hTk:∀h:k<T.length,k<n:=fun h=>by rw[LN.out]at h;exact h
  by_cases hkn:k<n
  .have hkl:k<T.length:=by rw[LN.out];exact hkn
   obtain⟨g1,s1,rfl,hst,hc1⟩:=HT.out.at k hkn
   have QM:=bx M.out.at0.cls
   have Q1:=bx (CL.cls hc1 (Aaf _ _) M.ok)
   have CC:=bx (fun w1 (_:Cls wr.heap.size wr w1)=>AgF T[k].c t.c w1)
   have NX:=bx (fun(e:cmpCp T[k].c t.c<0) j (hj:j<T.length) (hjk:j<k+1)=>(Nat.lt_or_eq_of_le (Nat.le_of_lt_succ hjk)).elim (HLOW.out j hj) (fun h=>by subst h;exact e))
   have AT:=bx (fun(e:¬cmpCp T[k].c t.c<0)=>AkG (Nat.le_of_lt hkl) HLOW.out (fun _=>e))
   have hki:(k:Int)<(n:Int):=by omega
   have hk0:0<=(k:Int):=by omega
   clear hst hc1
   generalize T[k].c=tc at *
   generalize cmpCp tc t.c=v at *
   by_cases hv:v<0
   .go_wp2_with fail
    refine AbD wr.heap.size (by kernel_rfl) (by kernel_rfl) ?_
    repeat((go_big_quiet_want;first|(first|(refine zQL QM.out (Aaf _ _) ?_;go_big_quiet_on;refine zNM ?_)|(refine zQR Q1.out (Aaf _ _) ?_;go_big_quiet_on;refine zNM ?_)|(refine zQC (AdL CC.out) Tryz.func190 ?_;go_big_quiet_on;refine zNM ?_))|(refine zQO ?_;go_big_quiet_on)))
    (refine zQN ?_;clear M;intro w4 M)
    go_wp2_with fail
    go_roundw
    case rel=>exact⟨k+1,by omega,by go_num,NX.out (by assumption),M.out⟩
    case measure=>simp[intOf];omega
   .have AT':=bx (AT.out hv)
    have hkle:k<=n:=hk
    clear AT NX
    go_wp2_with fail
    refine AbD wr.heap.size (by kernel_rfl) (by kernel_rfl) ?_
    repeat((go_big_quiet_want;first|(first|(refine zQL QM.out (Aaf _ _) ?_;go_big_quiet_on;refine zNM ?_)|(refine zQR Q1.out (Aaf _ _) ?_;go_big_quiet_on;refine zNM ?_)|(refine zQC (AdL CC.out) Tryz.func190 ?_;go_big_quiet_on;refine zNM ?_))|(refine zQO ?_;go_big_quiet_on)))
    (refine zQN ?_;clear M;intro w4 M)
    clear Q1 QM CC
    ((go_wp2_with fail);refine AaE [7,11] (.steps [(1,0),(1,1),(1,2),(0,4),(1,8),(1,9),(1,10),(2,3),(2,5),(2,6),(3,7),(3,11),(1,12)] .leaf) (by kernel_rfl) (by kernel_rfl) ?_;simp only[MixT6,MT.steps,stepAt,List.getD_cons_zero,List.getD_cons_succ];replace M:=bx (M.out.drew);have QM:=bx M.out.at0.cls;(repeat(first|(with_reducible refine wpQuiet_nil ?_)|((go_big_quiet_want;first|(first|(refine zQL QM.out (Aaf _ _) ?_;go_big_quiet_on;refine zNM ?_)|((refine AcR elTb rfl rfl rfl ?_ ?_);(have:=HC.out.le;omega);go_big_quiet_on;refine zNM ?_)|((refine AcQ elTb rfl rfl rfl ?_ ?_);omega;go_big_quiet_on;refine zNM ?_))|(refine zQO ?_;go_big_quiet_on)))));clear QM;obtain⟨A1,c1,w1,hr,hM,hb⟩:=Aam elTb M.out 47 (some ⟨g1,0,none⟩) k c _ (((hS.mono M.out.ext.le).row HL.out M.ok).take (size:=34) hk) HC.out.nil (HO.out _) (by unfold maxLen;omega) (by omega);refine AaB (AaG rfl rfl rfl hr) rfl ?_;refine⟨hb,?_⟩;clear M;have M:=bx hM;clear hM hr hb;refine zNM ?_;refine zMC (AcA _ t.c t.b HB.out _ _ _ M.ok (HTR.out _ _ M.out.ext.le M.ok) HTC.out.nil) Tryz.func76 ?_;rintro e w2 ⟨s1,Γ1,rfl,hs1,hx⟩;refine⟨_,rfl,hx.bel,?_⟩;replace M:=bx (M.out.call hx);have HS1:=bx hs1;clear hs1 hx;refine zNM ?_;refine AaB (Aa3 elTb rfl rfl (v:=.agg (fl (tbP t.c s1)).toArray) (cs:=fl (tbP t.c s1)) rfl (AdJ _ _)) rfl ?_;refine⟨ext_alloc _ _,?_⟩;replace M:=bx (M.out.alloc (Aaf t.c s1) rfl 107);refine zNM ?_;obtain⟨v5,w5,hr,hM⟩:=AaU elTb M.out 47 _ 1 1 _ (Aae M.out.at0 (m:=1) (size:=34) rfl) (fun h=>by cases h) (AfX HS1.out) (by unfold maxLen;omega) (by omega);refine AaB (AaG rfl rfl rfl hr) rfl ?_;replace M:=bx (hM.tail);clear hr hM;refine zNM ?_;obtain⟨v6,w6,hr,hM⟩:=AaU elTb M.out 47 (cutA (some ⟨g1,0,none⟩) c k 34) (n-k) (c-k) _ (((hS.mono M.out.ext.le).row HL.out M.ok).cut (size:=34) hk HC.out.le) (Ab3 HC.out) (HO2.out _) (by unfold maxLen;omega) (by omega);refine AaB (AaG rfl rfl rfl hr) rfl ?_;replace M:=bx (hM);clear hr hM;refine zNM ?_;(repeat(first|((go_big_quiet_want;(refine zQO ?_;go_big_quiet_on)))|(with_reducible refine wpQuiet_nil ?_)));refine NoPanic.normal ?_;(go_wp2_with fail);go_ret;(obtain⟨A6,c6,e6⟩:=own_slice (M.out.rows _ (List.mem_cons_self ..));simp only at e6;subst e6;obtain⟨Γ',h1,h2,h3,h4⟩:=M.out.frz;exact AkF HX.out HS1.out M.out.ext.le h3 AT'.out LN.out (by omega) h1 h2 h4.ext))
  .obtain rfl:k=n:=by omega
   have AT':=bx (AkG (T:=T) (t:=t) (k:=k) (by rw[LN.out];exact hk) HLOW.out (fun h=>absurd (hTk h) hkn))
   have QM:=bx M.out.at0.cls
   go_wp2_with fail
   refine AbD wr.heap.size (by kernel_rfl) (by kernel_rfl) ?_
   repeat(first|go_big_quiet_skip|(go_big_quiet_want;(refine zQO ?_;go_big_quiet_on)))
   (refine zQN ?_;clear M;intro w4 M)
   clear QM
   ((go_wp2_with fail);refine AaE [7,11] (.steps [(1,0),(1,1),(1,2),(0,4),(1,8),(1,9),(1,10),(2,3),(2,5),(2,6),(3,7),(3,11),(1,12)] .leaf) (by kernel_rfl) (by kernel_rfl) ?_;simp only[MixT6,MT.steps,stepAt,List.getD_cons_zero,List.getD_cons_succ];replace M:=bx (M.out.drew);have QM:=bx M.out.at0.cls;(repeat(first|(with_reducible refine wpQuiet_nil ?_)|((go_big_quiet_want;first|(first|(refine zQL QM.out (Aaf _ _) ?_;go_big_quiet_on;refine zNM ?_)|((refine AcR elTb rfl rfl rfl ?_ ?_);(have:=HC.out.le;omega);go_big_quiet_on;refine zNM ?_)|((refine AcQ elTb rfl rfl rfl ?_ ?_);omega;go_big_quiet_on;refine zNM ?_))|(refine zQO ?_;go_big_quiet_on)))));clear QM;obtain⟨A1,c1,w1,hr,hM,hb⟩:=Aam elTb M.out 47 A k c _ (((hS.mono M.out.ext.le).row HL.out M.ok).take (size:=34) hk) HC.out.nil (HO.out _) (by unfold maxLen;omega) (by omega);refine AaB (AaG rfl rfl rfl hr) rfl ?_;refine⟨hb,?_⟩;clear M;have M:=bx hM;clear hM hr hb;refine zNM ?_;refine zMC (AcA _ t.c t.b HB.out _ _ _ M.ok (HTR.out _ _ M.out.ext.le M.ok) HTC.out.nil) Tryz.func76 ?_;rintro e w2 ⟨s1,Γ1,rfl,hs1,hx⟩;refine⟨_,rfl,hx.bel,?_⟩;replace M:=bx (M.out.call hx);have HS1:=bx hs1;clear hs1 hx;refine zNM ?_;refine AaB (Aa3 elTb rfl rfl (v:=.agg (fl (tbP t.c s1)).toArray) (cs:=fl (tbP t.c s1)) rfl (AdJ _ _)) rfl ?_;refine⟨ext_alloc _ _,?_⟩;replace M:=bx (M.out.alloc (Aaf t.c s1) rfl 107);refine zNM ?_;obtain⟨v5,w5,hr,hM⟩:=AaU elTb M.out 47 _ 1 1 _ (Aae M.out.at0 (m:=1) (size:=34) rfl) (fun h=>by cases h) (AfX HS1.out) (by unfold maxLen;omega) (by omega);refine AaB (AaG rfl rfl rfl hr) rfl ?_;replace M:=bx (hM.tail);clear hr hM;refine zNM ?_;obtain⟨v6,w6,hr,hM⟩:=AaU elTb M.out 47 (cutA A c k 34) (k-k) (c-k) _ (((hS.mono M.out.ext.le).row HL.out M.ok).cut (size:=34) hk HC.out.le) (Ab3 HC.out) (HO2.out _) (by unfold maxLen;omega) (by omega);refine AaB (AaG rfl rfl rfl hr) rfl ?_;replace M:=bx (hM);clear hr hM;refine zNM ?_;(repeat(first|((go_big_quiet_want;(refine zQO ?_;go_big_quiet_on)))|(with_reducible refine wpQuiet_nil ?_)));refine NoPanic.normal ?_;(go_wp2_with fail);go_ret;(obtain⟨A6,c6,e6⟩:=own_slice (M.out.rows _ (List.mem_cons_self ..));simp only at e6;subst e6;obtain⟨Γ',h1,h2,h3,h4⟩:=M.out.frz;exact AkF HX.out HS1.out M.out.ext.le h3 AT'.out LN.out (by omega) h1 h2 h4.ext))
end Go.Proofs.YtmgeheaneohldaaGreat
namespace Go.Proofs.YtmgeheaneohldaaGreat
open Go.RowKit Go.Proofs.YtmgeheaneohldaaGreat.Old
theorem Akv(Γ:Gam)(A:Option Addr)(c:Nat)(l:List Int)(x:Int)(w:World)(ok:Ok Γ w)(h:SlG Γ A l.length (ints .i64 l))(hb:l.length<=9223372036854775807) :
  Calls Tryz.prog 62 #[.slice A l.length c,.int .i64 x] w fun e w'=>e=.returned (.bool (decide (x∈l)))/\Ext Γ w Γ w':=by
 have hr:=h.row (size:=1) (by rw[ints_len,Nat.mul_one]) ok
 refine(Afr w.heap.size A l.length c l x w hr hb).mono ?_
 rintro e w' ⟨he,rfl⟩
 exact⟨he,Ext.refl ok⟩
def IntsP(Γ:Gam)(w:World)(l:List Int)(e:Ending)(w':World):Prop:=∃(A:Option Addr) (c:Nat) (Γ':Gam),e=.returned (.slice A l.length c)/\CapOk A l.length c/\SlG Γ' A l.length (ints .i64 l)/\Ext Γ w Γ' w'
def insI(l:List Int)(n:Int):List Int:=if(l.dropWhile fun x=>decide (x<n)).head? = some n then l else l.takeWhile (fun x=>decide (x<n))++n::l.dropWhile (fun x=>decide (x<n))
theorem Ajb{l:List Int}{n:Int}{k:Nat}(hk:k<=l.length)(h1:∀j (hj:j<l.length),j<k->l[j]<n)(h2:∀h:k<l.length,¬l[k]<n):insI l n=if l[k]? = some n then l else l.take k++n::l.drop k:=by
 obtain⟨e1,e2⟩:=AfU (p:=fun x=>decide (x<n)) hk (fun j hj hjk=>decide_eq_true (h1 j hj hjk)) (fun h=>decide_eq_false (h2 h))
 unfold insI
 rw[e1,e2,List.head?_drop]
theorem Ah2(l:List Int)(n:Int):(insI l n).length<=l.length+1:=by
 unfold insI
 split
 .omega
 .have:=congrArg List.length (List.takeWhile_append_dropWhile (p:=fun x=>decide (x<n)) (l:=l))
  simp only[List.length_append,List.length_cons]at this |-
  omega
theorem AeJ{Γ Γ':Gam}{w w':World}{l:List Int}{n:Int}{k:Nat}{A6:Option Addr}{c6:Nat}(hk:k<=l.length)(he:insI l n=l.take k++n::l.drop k)
  (h1:CapOk A6 (k+1+(l.length-k)) c6) (h2:SlG Γ' A6 (k+1+(l.length-k)) ((ints .i64 l).take (k*1)++fl [[.int .i64 n]]++(ints .i64 l).drop (k*1))) (h4:Ext Γ w Γ' w') :
  IntsP Γ w (insI l n) (.returned (.slice A6 (k+1+(l.length-k)) c6)) w':=by
 have hl:(insI l n).length=k+1+(l.length-k):=by rw[he];simp;omega
 refine⟨A6,c6,Γ',by rw[hl],by rw[hl];exact h1,?_,h4⟩
 rw[hl,he]
 simpa [ints,fl]using h2
theorem Aeg(Γ:Gam)(A:Option Addr)(c:Nat)(l:List Int)(n:Int)(w:World)(ok:Ok Γ w)(h:SlG Γ A l.length (ints .i64 l))(hc:CapOk A l.length c)(hb:l.length<=65535) :
  Calls Tryz.prog 177 #[.slice A l.length c,.int .i64 n] w (IntsP Γ w (insI l n)):=by
 have M:=bx (MM.start ok)
 have HS:=bx h
 have HC:=bx hc
 have HL:Bx ((ints .i64 l).length=l.length*1):=⟨by rw[ints_len,Nat.mul_one]⟩
 have HO:Bx (∀k,One ((ints .i64 l).take (k*1))):=⟨fun k u hu=>One.ints _ _ u (List.mem_of_mem_take hu)⟩
 have HO2:Bx (∀k,One ((ints .i64 l).drop (k*1))):=⟨fun k u hu=>One.ints _ _ u (List.mem_of_mem_drop hu)⟩
 clear ok h hc
 go_enter Tryz.func177,Tryz.ntmps177
 (go_wp2_with (fail))
 go_loopw [5] (fun j wr=>∃k:Nat,k<=l.length/\j=.int .i64 k/\(∀j (hj:j<l.length),j<k->l[j]<n)/\MM Γ w Γ wr [] []) (fun j _=>l.length-(intOf j).toNat)
 case atStart=>exact⟨0,Nat.zero_le _,rfl,fun j _ hj=>absurd hj (Nat.not_lt_zero _),M.out⟩
 case round=>
  obtain⟨k,hk,rfl,hv,hM⟩:=hrel
  clear M
  have M:=bx hM
  have HV:=bx hv
  clear hM hv
  by_cases hkn:k<l.length
  .obtain⟨gk,rfl,hc⟩:=Aef HS.out k hkn
   have F1:=bx hc
   have NX:=bx (fun(e:l[k]<n) j (hj:j<l.length) (hjk:j<k+1)=>(Nat.lt_or_eq_of_le (Nat.le_of_lt_succ hjk)).elim (HV.out j hj) (fun h=>by subst h;exact e))
   have AT:=bx (fun(e:¬l[k]<n)=>Ajb (Nat.le_of_lt hkn) HV.out (fun _=>e))
   have hki:(k:Int)<(l.length:Int):=by omega
   have hk0:0<=(k:Int):=by omega
   have EQ:Bx (l[k]? = some l[k]):=⟨List.getElem?_eq_getElem hkn⟩
   clear hc
   generalize l[k]=y at *
   by_cases h1:y<n
   .have NX':=bx (NX.out h1)
    clear NX AT
    (go_wp2_with (refine zRFo F1 ?_))
    go_roundw
    case rel=>exact⟨k+1,by omega,by go_num,NX'.out,M.out⟩
    case measure=>simp[intOf]<;>omega
   .have AT:=bx (AT.out h1)
    clear NX
    by_cases h2:y=n
    .have AT':=bx (AT.out.trans (if_pos (by rw[EQ.out,h2])))
     have h2b:(y==n)=true:=beq_iff_eq.2 h2
     clear AT h2
     (go_wp2_with (refine zRFo F1 ?_))
     go_ret
     unfold IntsP
     rw[AT'.out]
     exact⟨_,c,Γ,rfl,HC.out,HS.out,M.out.ext⟩
    .have AT':=bx (AT.out.trans (if_neg (by rw[EQ.out];exact fun e=>h2 (Option.some.inj e))))
     have h2b:(y==n)=false:=beq_eq_false_iff_ne.2 h2
     clear AT h2
     (go_wp2_with (refine zRFo F1 ?_))
     ((go_wp2_with fail);refine AaE [6,10] (.steps [(1,0),(1,1),(1,2),(1,4),(1,7),(1,8),(1,9)] (.fork 3 (.steps [(2,5),(3,6),(3,10),(1,11)] .leaf) 5 (.steps [(2,3),(3,6),(3,10),(1,11)] .leaf))) (by kernel_rfl) (by kernel_rfl) ?_;(simp only[MixT6,MT.steps,stepAt,List.getD_cons_zero,List.getD_cons_succ]);replace M:=bx (M.out.drew);(repeat(first|refine zM0 ?_|(go_big_quiet_want;first|((refine AcR AbP rfl rfl rfl ?_ ?_);(have:=HC.out.le;omega);go_big_quiet_on;refine zNM ?_)|((refine AcQ AbP rfl rfl rfl ?_ ?_);omega;go_big_quiet_on;refine zNM ?_)|(refine zQO ?_;go_big_quiet_on))));refine⟨?_,?_⟩;(focus((obtain⟨A1,c1,w1,hr,hM,hb⟩:=Aam AbP M.out 22 (some ⟨gk,0,none⟩) k c _ (((HS.out.mono M.out.ext.le).row HL.out M.ok).take (size:=1) hk) HC.out.nil (HO.out _) (by unfold maxLen;omega) (by omega));refine AaB (AaG rfl rfl rfl hr) rfl ?_;refine⟨hb,?_⟩;clear M;have M:=bx hM;clear hM hr hb;refine zNM ?_;refine AaB (Aa3 AbP rfl rfl (v:=(.int .i64 n)) (cs:=[(.int .i64 n)]) rfl rfl) rfl ?_;refine⟨ext_alloc _ _,?_⟩;replace M:=bx (M.out.alloc (P:=[[(.int .i64 n)]]) (ls:=[1]) rfl rfl 3);refine zNM ?_;(obtain⟨v5,w5,hr,hM⟩:=AaU AbP M.out 22 _ 1 1 _ (Aae M.out.at0 (m:=1) rfl) (fun h=>by cases h) (Abj _ _) (by unfold maxLen;omega) (by omega));refine AaB (AaG rfl rfl rfl hr) rfl ?_;replace M:=bx (hM.tail);clear hr hM;refine zNM ?_;(obtain⟨v6,w6,hr,hM⟩:=AaU AbP M.out 22 (cutA (some ⟨gk,0,none⟩) c k 1) (l.length-k) (c-k) _ (((HS.out.mono M.out.ext.le).row HL.out M.ok).cut (size:=1) hk HC.out.le) (Ab3 HC.out) (HO2.out _) (by unfold maxLen;omega) (by omega));refine AaB (AaG rfl rfl rfl hr) rfl ?_;replace M:=bx (hM);clear hr hM;refine zNM ?_;refine zMRo ?_;refine NoPanic.normal ?_;(go_wp2_with fail);go_ret;(obtain⟨A6,c6,e6⟩:=own_slice (M.out.rows _ (List.mem_cons_self ..));simp only at e6;subst e6;obtain⟨Γ',h1,h2,h3,h4⟩:=M.out.frz);exact AeJ hk AT'.out h1 h2 h4.ext));(refine AaB (Aa3 AbP rfl rfl (v:=(.int .i64 n)) (cs:=[(.int .i64 n)]) rfl rfl) rfl ?_;refine⟨ext_alloc _ _,?_⟩;replace M:=bx (M.out.alloc (P:=[[(.int .i64 n)]]) (ls:=[1]) rfl rfl 3);refine zNM ?_;(obtain⟨A1,c1,w1,hr,hM,hb⟩:=Aam AbP M.out 22 (some ⟨gk,0,none⟩) k c _ (((HS.out.mono M.out.ext.le).row HL.out M.ok).take (size:=1) hk) HC.out.nil (HO.out _) (by unfold maxLen;omega) (by omega));refine AaB (AaG rfl rfl rfl hr) rfl ?_;refine⟨hb,?_⟩;clear M;have M:=bx hM;clear hM hr hb;refine zNM ?_;(obtain⟨v5,w5,hr,hM⟩:=AaU AbP M.out 22 _ 1 1 _ (Aae M.out.at0 (m:=1) rfl) (fun h=>by cases h) (Abj _ _) (by unfold maxLen;omega) (by omega));refine AaB (AaG rfl rfl rfl hr) rfl ?_;replace M:=bx (hM.tail);clear hr hM;refine zNM ?_;(obtain⟨v6,w6,hr,hM⟩:=AaU AbP M.out 22 (cutA (some ⟨gk,0,none⟩) c k 1) (l.length-k) (c-k) _ (((HS.out.mono M.out.ext.le).row HL.out M.ok).cut (size:=1) hk HC.out.le) (Ab3 HC.out) (HO2.out _) (by unfold maxLen;omega) (by omega));refine AaB (AaG rfl rfl rfl hr) rfl ?_;replace M:=bx (hM);clear hr hM;refine zNM ?_;refine zMRo ?_;refine NoPanic.normal ?_;(go_wp2_with fail);go_ret;(obtain⟨A6,c6,e6⟩:=own_slice (M.out.rows _ (List.mem_cons_self ..));simp only at e6;subst e6;obtain⟨Γ',h1,h2,h3,h4⟩:=M.out.frz);exact AeJ hk AT'.out h1 h2 h4.ext))
  .have AT':=bx ((Ajb hk HV.out (fun h=>absurd h hkn)).trans (if_neg (by rw[List.getElem?_eq_none (by omega)];exact fun e=>by cases e)))
   have hki:(l.length:Int)<=(k:Int):=by omega
   (go_wp2_with (fail))
   ((go_wp2_with fail);refine AaE [6,10] (.steps [(1,0),(1,1),(1,2),(1,4),(1,7),(1,8),(1,9)] (.fork 3 (.steps [(2,5),(3,6),(3,10),(1,11)] .leaf) 5 (.steps [(2,3),(3,6),(3,10),(1,11)] .leaf))) (by kernel_rfl) (by kernel_rfl) ?_;(simp only[MixT6,MT.steps,stepAt,List.getD_cons_zero,List.getD_cons_succ]);replace M:=bx (M.out.drew);(repeat(first|refine zM0 ?_|(go_big_quiet_want;first|((refine AcR AbP rfl rfl rfl ?_ ?_);(have:=HC.out.le;omega);go_big_quiet_on;refine zNM ?_)|((refine AcQ AbP rfl rfl rfl ?_ ?_);omega;go_big_quiet_on;refine zNM ?_)|(refine zQO ?_;go_big_quiet_on))));refine⟨?_,?_⟩;(focus((obtain⟨A1,c1,w1,hr,hM,hb⟩:=Aam AbP M.out 22 A k c _ (((HS.out.mono M.out.ext.le).row HL.out M.ok).take (size:=1) hk) HC.out.nil (HO.out _) (by unfold maxLen;omega) (by omega));refine AaB (AaG rfl rfl rfl hr) rfl ?_;refine⟨hb,?_⟩;clear M;have M:=bx hM;clear hM hr hb;refine zNM ?_;refine AaB (Aa3 AbP rfl rfl (v:=(.int .i64 n)) (cs:=[(.int .i64 n)]) rfl rfl) rfl ?_;refine⟨ext_alloc _ _,?_⟩;replace M:=bx (M.out.alloc (P:=[[(.int .i64 n)]]) (ls:=[1]) rfl rfl 3);refine zNM ?_;(obtain⟨v5,w5,hr,hM⟩:=AaU AbP M.out 22 _ 1 1 _ (Aae M.out.at0 (m:=1) rfl) (fun h=>by cases h) (Abj _ _) (by unfold maxLen;omega) (by omega));refine AaB (AaG rfl rfl rfl hr) rfl ?_;replace M:=bx (hM.tail);clear hr hM;refine zNM ?_;(obtain⟨v6,w6,hr,hM⟩:=AaU AbP M.out 22 (cutA A c k 1) (l.length-k) (c-k) _ (((HS.out.mono M.out.ext.le).row HL.out M.ok).cut (size:=1) hk HC.out.le) (Ab3 HC.out) (HO2.out _) (by unfold maxLen;omega) (by omega));refine AaB (AaG rfl rfl rfl hr) rfl ?_;replace M:=bx (hM);clear hr hM;refine zNM ?_;refine zMRo ?_;refine NoPanic.normal ?_;(go_wp2_with fail);go_ret;(obtain⟨A6,c6,e6⟩:=own_slice (M.out.rows _ (List.mem_cons_self ..));simp only at e6;subst e6;obtain⟨Γ',h1,h2,h3,h4⟩:=M.out.frz);exact AeJ hk AT'.out h1 h2 h4.ext));(refine AaB (Aa3 AbP rfl rfl (v:=(.int .i64 n)) (cs:=[(.int .i64 n)]) rfl rfl) rfl ?_;refine⟨ext_alloc _ _,?_⟩;replace M:=bx (M.out.alloc (P:=[[(.int .i64 n)]]) (ls:=[1]) rfl rfl 3);refine zNM ?_;(obtain⟨A1,c1,w1,hr,hM,hb⟩:=Aam AbP M.out 22 A k c _ (((HS.out.mono M.out.ext.le).row HL.out M.ok).take (size:=1) hk) HC.out.nil (HO.out _) (by unfold maxLen;omega) (by omega));refine AaB (AaG rfl rfl rfl hr) rfl ?_;refine⟨hb,?_⟩;clear M;have M:=bx hM;clear hM hr hb;refine zNM ?_;(obtain⟨v5,w5,hr,hM⟩:=AaU AbP M.out 22 _ 1 1 _ (Aae M.out.at0 (m:=1) rfl) (fun h=>by cases h) (Abj _ _) (by unfold maxLen;omega) (by omega));refine AaB (AaG rfl rfl rfl hr) rfl ?_;replace M:=bx (hM.tail);clear hr hM;refine zNM ?_;(obtain⟨v6,w6,hr,hM⟩:=AaU AbP M.out 22 (cutA A c k 1) (l.length-k) (c-k) _ (((HS.out.mono M.out.ext.le).row HL.out M.ok).cut (size:=1) hk HC.out.le) (Ab3 HC.out) (HO2.out _) (by unfold maxLen;omega) (by omega));refine AaB (AaG rfl rfl rfl hr) rfl ?_;replace M:=bx (hM);clear hr hM;refine zNM ?_;refine zMRo ?_;refine NoPanic.normal ?_;(go_wp2_with fail);go_ret;(obtain⟨A6,c6,e6⟩:=own_slice (M.out.rows _ (List.mem_cons_self ..));simp only at e6;subst e6;obtain⟨Γ',h1,h2,h3,h4⟩:=M.out.frz);exact AeJ hk AT'.out h1 h2 h4.ext))
structure Clm where
 src:U
 tgt:U
 r:Rt
 l:List Int
deriving DecidableEq
def clP(a:Clm)(s:Sl):List (List Value):=[[.int .u64 (a.src.n:Int)],[.int .u64 (a.tgt.n:Int)],rc a.r,[s.v]]
theorem Acw(a:Clm)(s:Sl):(clP a s).map List.length = [1,1,32,1]:=by simp[clP,Aax]
theorem Ajw(a:Clm)(s:Sl):One (fl (clP a s)):=One.cons (Abj _ _) (One.cons (Abj _ _) (One.cons (Aah _) (Aal _ _ _)))
structure Slh where
 a:Clm
 b:Clm
deriving DecidableEq
def slP(x:Slh)(s t:Sl):List (List Value):=[[.int .u64 (x.a.src.n:Int)],[.int .u64 (x.a.tgt.n:Int)],rc x.a.r,[s.v],[.int .u64 (x.b.src.n:Int)],[.int .u64 (x.b.tgt.n:Int)],rc x.b.r,[t.v]]
theorem Acm(x:Slh)(s t:Sl):(slP x s t).map List.length = [1,1,32,1,1,1,32,1]:=by simp[slP,Aax]
theorem Ai2(x:Slh)(s t:Sl):One (fl (slP x s t)):=by
 unfold slP
 repeat(first|exact Aal _ _ _|refine One.cons (Abj _ _) ?_|refine One.cons (Aah _) ?_|refine One.cons (Aal _ _ _) ?_)
structure Vd where
 tag:U
 kind:Int
 latest:Rt
deriving DecidableEq
def vdP(v:Vd):List (List Value):=[[.int .u64 (v.tag.n:Int)],[.int .i64 v.kind],rc v.latest]
theorem Abc(v:Vd):(vdP v).map List.length = [1,1,32]:=by simp[vdP,Aax]
theorem Ad0(v:Vd):One (fl (vdP v)):=One.cons (Abj _ _) (One.cons (Abj _ _) (Aah _))
structure OpD where
 kind:Int
 b:Blk
 a:Att
 s:Slh
 t:Tbl
 v:Vd
 wr:Int
 kp:Int
structure OpS where
 a:Sl
 s1:Sl
 s2:Sl
 t:Sl
def opP(o:OpD)(x:OpS):List (List Value):=[[.int .i64 o.kind],
 [.int .u64 (o.b.pj.e.n:Int)],rc o.b.pj.r,[.int .u64 (o.b.pf.e.n:Int)],rc o.b.pf.r,[.int .u64 (o.b.slot.n:Int)],rc o.b.root,rc o.b.parent,rc o.b.payload,wc o.b.diff,wc o.b.pdiff,[.int .u64 (o.b.just.e.n:Int)],rc o.b.just.r,[.int .u64 (o.b.fin.e.n:Int)],rc o.b.fin.r,[.bool o.b.timely],
 [.int .u64 (o.a.slot.n:Int)],rc o.a.r,[.int .u64 (o.a.t.e.n:Int)],rc o.a.t.r,[x.a.v],
 [.int .u64 (o.s.a.src.n:Int)],[.int .u64 (o.s.a.tgt.n:Int)],rc o.s.a.r,[x.s1.v],[.int .u64 (o.s.b.src.n:Int)],[.int .u64 (o.s.b.tgt.n:Int)],rc o.s.b.r,[x.s2.v],
 [.int .u64 (o.t.c.e.n:Int)],rc o.t.c.r,[x.t.v],
 [.int .u64 (o.v.tag.n:Int)],[.int .i64 o.v.kind],rc o.v.latest,[.int .i64 o.wr],[.int .i64 o.kp]]
abbrev opL:List Nat:=[1,1,32,1,32,1,32,32,32,4,4,1,32,1,32,1,1,32,1,32,1,1,1,32,1,1,1,32,1,1,32,1,1,1,32,1,1]
theorem AaQ(o:OpD)(x:OpS):(opP o x).map List.length=opL:=by simp[opP,Aax,Ach]
theorem Aai(o:OpD)(x:OpS):One (fl (opP o x)):=by
 unfold opP
 repeat(first|exact Abj _ _|refine One.cons (Abj _ _) ?_|refine One.cons (Aah _) ?_|refine One.cons (AdG _) ?_|refine One.cons (Aal _ _ _) ?_|refine One.cons (AhP _) ?_)
theorem AoN(a:Clm)(s:Sl):List.take 4 (clP a s)=clP a s:=rfl
theorem AoK(x:Slh)(s t:Sl):List.take 8 (slP x s t)=slP x s t:=rfl
theorem An5(x:Slh)(s t:Sl):List.take 4 (slP x s t)=clP x.a s:=rfl
theorem An4(x:Slh)(s t:Sl):List.take 4 (List.drop 4 (slP x s t))=clP x.b t:=rfl
theorem AoJ(v:Vd):List.take 3 (vdP v)=vdP v:=rfl
theorem AoM(o:OpD)(x:OpS):List.take 37 (opP o x)=opP o x:=rfl
theorem An9(o:OpD)(x:OpS):List.take 15 (List.drop 1 (opP o x))=blP o.b:=rfl
theorem AoA(o:OpD)(x:OpS):List.take 5 (List.drop 16 (opP o x))=atP o.a x.a:=rfl
theorem An8(o:OpD)(x:OpS):List.take 8 (List.drop 21 (opP o x))=slP o.s x.s1 x.s2:=rfl
theorem An7(o:OpD)(x:OpS):List.take 3 (List.drop 29 (opP o x))=tbP o.t.c x.t.v:=rfl
theorem An6(o:OpD)(x:OpS):List.take 3 (List.drop 32 (opP o x))=vdP o.v:=rfl
theorem rtCl:RowT Tryz.prog 122 35:=⟨⟨_,Tryz.underlying122,rfl⟩,by kernel_rfl⟩
theorem rtSl:RowT Tryz.prog 124 70:=⟨⟨_,Tryz.underlying124,rfl⟩,by kernel_rfl⟩
theorem rtVd:RowT Tryz.prog 128 34:=⟨⟨_,Tryz.underlying128,rfl⟩,by kernel_rfl⟩
theorem rtOp:RowT Tryz.prog 130 446:=⟨⟨_,Tryz.underlying130,rfl⟩,by kernel_rfl⟩
structure SlG2(Γ:Gam)(x:Slh)(s t:Sl):Prop where
 a:SlR Γ s x.a.l.length (ints .i64 x.a.l)
 b:SlR Γ t x.b.l.length (ints .i64 x.b.l)
def vd0:Vd:=⟨u0,0,r0⟩
def cl0:Clm:=⟨u0,u0,r0,[]⟩
def slh0:Slh:=⟨cl0,cl0⟩
def at0:Att:=⟨u0,r0,cp0,[]⟩
def tb0:Tbl:=⟨cp0,[]⟩
def op0(k:Int):OpD:=⟨k,b0,at0,slh0,tb0,vd0,0,0⟩
def os0:OpS:=⟨sl0,sl0,sl0,sl0⟩
end Go.Proofs.YtmgeheaneohldaaGreat
namespace Go.Proofs.YtmgeheaneohldaaGreat
open Go.RowKit
def addV(a b:Int):Int:=if a+b<18446744073709551616 then a+b else 0
def addE(a b:Int):Int:=if a+b<18446744073709551616 then 0 else 4
def mulV(a b:Int):Int:=if a*b<18446744073709551616 then a*b else 0
def mulE(a b:Int):Int:=if a*b<18446744073709551616 then 0 else 4
def fitsB(p:Int):Bool:=decide (1<=p/\p<=64)
def epV(n p:Int):Int:=if fitsB p=true then n / p else 0
def epE(p:Int):Int:=if fitsB p=true then 0 else 3
def stV(n p:Int):Int:=if fitsB p=true then mulV n p else 0
def stE(n p:Int):Int:=if fitsB p=true then mulE n p else 3
theorem ref_add(a b:Int)(ha:0<=a)(ha':a<18446744073709551616)(hb:0<=b)(hb':b<18446744073709551616)(w:World) :
  Calls Tryz.prog 63 #[.int .u64 a,.int .u64 b] w fun e w'=>e=.returned (.tuple #[.int .u64 (addV a b),.int .i64 (addE a b)])/\w=w':=by
 go_enter Tryz.func63,Tryz.ntmps63
 go_wp2
 .have h:18446744073709551615-b<a:=by assumption
  go_ret2
  unfold addV addE
  rw[if_neg (by omega),if_neg (by omega)]
  exact⟨rfl,rfl⟩
 .have h:a<=18446744073709551615-b:=by assumption
  go_ret2
  unfold addV addE
  rw[if_pos (by omega),if_pos (by omega)]
  exact⟨rfl,rfl⟩
theorem Aky(p:Int)(hp:0<=p)(hp':p<18446744073709551616)(w:World) :
  Calls Tryz.prog 102 #[.int .u64 p] w fun e w'=>e=.returned (.bool (fitsB p))/\w=w':=by
 unfold fitsB
 by_cases h:1<=p
 .by_cases h':p<=64
  .rw[decide_eq_true ⟨h,h'⟩]
   go_enter Tryz.func102,Tryz.ntmps102
   go_wp2
   go_ret
   exact⟨rfl,rfl⟩
  .rw[decide_eq_false (by omega)]
   go_enter Tryz.func102,Tryz.ntmps102
   go_wp2
   go_ret
   exact⟨rfl,rfl⟩
 .rw[decide_eq_false (by omega)]
  go_enter Tryz.func102,Tryz.ntmps102
  go_wp2
  go_ret
  exact⟨rfl,rfl⟩
theorem AiW(p:Int)(hp:0<=p)(hp':p<18446744073709551616)(w:World) :
  Calls Tryz.prog 192 #[.int .u64 p] w fun e w'=>e=.returned (.bool (fitsB p))/\w=w':=by
 unfold fitsB
 by_cases h:1<=p
 .by_cases h':p<=64
  .rw[decide_eq_true ⟨h,h'⟩]
   go_enter Tryz.func192,Tryz.ntmps192
   go_wp2
   go_ret
   exact⟨rfl,rfl⟩
  .rw[decide_eq_false (by omega)]
   go_enter Tryz.func192,Tryz.ntmps192
   go_wp2
   go_ret
   exact⟨rfl,rfl⟩
 .rw[decide_eq_false (by omega)]
  go_enter Tryz.func192,Tryz.ntmps192
  go_wp2
  go_ret
  exact⟨rfl,rfl⟩
theorem Amt(a b:Int)(hb:1<=b):18446744073709551615 / b<a↔¬a*b<18446744073709551616:=by
 rw[Int.ediv_lt_iff_lt_mul (by omega)]
 omega
theorem Aly(a b:Int)(ha:0<=a)(ha':a<18446744073709551616)(hb:0<=b)(hb':b<18446744073709551616)(w:World) :
  Calls Tryz.prog 193 #[.int .u64 a,.int .u64 b] w fun e w'=>e=.returned (.tuple #[.int .u64 (mulV a b),.int .i64 (mulE a b)])/\w=w':=by
 by_cases h0:b=0
 .subst h0
  have hv:mulV a 0=0:=by unfold mulV;simp
  have he:mulE a 0=0:=by unfold mulE;simp
  rw[hv,he]
  clear hv he
  go_enter Tryz.func193,Tryz.ntmps193
  go_wp2
  go_ret2
  exact⟨by simp,rfl⟩
 .have hb1:1<=b:=by omega
  have hle:=Amt a b hb1
  have hbn:(b != 0)=true:=by simp[h0]
  have hm0:0<=a*b:=Int.mul_nonneg ha hb
  by_cases h:18446744073709551615 / b<a
  .have h1:=hle.1 h
   have hv:mulV a b=0:=by unfold mulV;rw[if_neg h1]
   have he:mulE a b=4:=by unfold mulE;rw[if_neg h1]
   rw[hv,he]
   clear hv he hle h1
   go_enter Tryz.func193,Tryz.ntmps193
   go_wp2
   go_ret2
   exact⟨rfl,rfl⟩
  .have h1:a*b<18446744073709551616:=by
    by_cases g:a*b<18446744073709551616
    .exact g
    .exact absurd (hle.2 g) h
   have hv:mulV a b=a*b:=by unfold mulV;rw[if_pos h1]
   have he:mulE a b=0:=by unfold mulE;rw[if_pos h1]
   rw[hv,he]
   clear hv he hle
   go_enter Tryz.func193,Tryz.ntmps193
   go_wp2
   go_ret2
   exact⟨rfl,rfl⟩
theorem AhU(n p:Int)(hn:0<=n)(hn':n<18446744073709551616)(hp:0<=p)(hp':p<18446744073709551616)(w:World) :
  Calls Tryz.prog 72 #[.int .u64 n,.int .u64 p] w fun e w'=>e=.returned (.tuple #[.int .u64 (epV n p),.int .i64 (epE p)])/\w=w':=by
 have HC:=Lib.hid (Aky p hp hp')
 unfold epV epE
 by_cases h:fitsB p=true
 .rw[if_pos h,if_pos h]
  have h1:1<=p:=(of_decide_eq_true h).1
  go_enter Tryz.func72,Tryz.ntmps72
  go_wp2_with (go_at_call 102;refine(HC.out _).mono ?_;rintro e w' ⟨rfl,rfl⟩)
  go_ret2
  exact⟨rfl,rfl⟩
 .rw[if_neg h,if_neg h]
  have h':fitsB p=false:=by simpa using h
  clear h
  go_enter Tryz.func72,Tryz.ntmps72
  go_wp2_with (go_at_call 102;refine(HC.out _).mono ?_;rintro e w' ⟨rfl,rfl⟩)
  go_ret2
  exact⟨rfl,rfl⟩
theorem AhB(n p:Int)(hn:0<=n)(hn':n<18446744073709551616)(hp:0<=p)(hp':p<18446744073709551616)(w:World) :
  Calls Tryz.prog 185 #[.int .u64 n,.int .u64 p] w fun e w'=>e=.returned (.tuple #[.int .u64 (stV n p),.int .i64 (stE n p)])/\w=w':=by
 have HC:=Lib.hid (AiW p hp hp')
 have HM:=Lib.hid (Aly n p hn hn' hp hp')
 unfold stV stE
 by_cases h:fitsB p=true
 .rw[if_pos h,if_pos h]
  go_enter Tryz.func185,Tryz.ntmps185
  go_wp2_with (first|(go_at_call 192;refine(HC.out _).mono ?_;rintro e w' ⟨rfl,rfl⟩)|(go_at_call 193;refine(HM.out _).mono ?_;rintro e w' ⟨rfl,rfl⟩))
  go_ret2
  exact⟨rfl,rfl⟩
 .rw[if_neg h,if_neg h]
  have h':fitsB p=false:=by simpa using h
  clear h
  go_enter Tryz.func185,Tryz.ntmps185
  go_wp2_with (go_at_call 192;refine(HC.out _).mono ?_;rintro e w' ⟨rfl,rfl⟩)
  go_ret2
  exact⟨rfl,rfl⟩
structure SpeOk(s:Sto):Prop where
 lo:0<s.c.spe.n
 hi:s.c.spe.n<=64
theorem Am6{s:Sto}(h:SpeOk s)(k:U):epV (k.n:Int) (s.c.spe.n:Int)=((s.ep k).n:Int):=by
 have h1:=h.lo
 have h2:=h.hi
 unfold epV
 rw[if_pos (by unfold fitsB;simp;omega)]
 rfl
theorem AfE(Γ:Gam)(s:Sto)(v:Sls)(k:U)(hs:SpeOk s)(w:World)(ok:Ok Γ w) :
  Calls Tryz.prog 47 #[.agg (fl (stP s v)).toArray,.int .u64 (k.n:Int)] w fun e w'=>e=.returned (.int .u64 ((s.ep k).n:Int))/\Ext Γ w Γ w':=by
 have M:=bx (MM.start ok)
 have EO:Bx (∀w,Calls Tryz.prog 72 #[.int .u64 (k.n:Int),.int .u64 (s.c.spe.n:Int)] w fun e w'=>e=.returned (.tuple #[.int .u64 ((s.ep k).n:Int),.int .i64 (epE (s.c.spe.n:Int))])/\w=w'):=
  ⟨fun w=>Am6 hs k▸AhU (k.n:Int) (s.c.spe.n:Int) (by omega) (by have:=k.lt;omega) (by omega) (by have:=s.c.spe.lt;omega) w⟩
 clear ok hs
 go_enter Tryz.func47,Tryz.ntmps47
 go_wp2_with (first|(refine zBYo (AaD s v) ?_;clear M;intro w' g M)|refine zLDo (M.out.at0) ?_)
 refine(EO.out _).mono ?_
 rintro e1 w1 ⟨rfl,rfl⟩
 go_wp2_with fail
 go_ret
 exact⟨rfl,M.out.ext⟩
theorem Acc(Γ:Gam)(s:Sto)(v:Sls)(i:Int)(hs:SpeOk s)(w:World)(ok:Ok Γ w)(h:StG Γ v s) :
  Calls Tryz.prog 16 #[.agg (fl (stP s v)).toArray,.int .i64 i] w fun e w'=>e=.returned (.agg (fl (cpP (s.src i))).toArray)/\Ext Γ w Γ w':=by
 have M:=bx (MM.start ok)
 have LN:=bx h.nodes.n
 clear ok
 rcases Adc s i with⟨h1,h2⟩|⟨k,hk,rfl,h1,h2⟩
 .have HR:Bx (s.src i=cp0):=⟨by unfold Sto.src;rw[h2]⟩
  have hni:i<0\/(0<=i/\(v.nodes.n:Int)<=i):=by have:=of_decide_eq_false h1;rw[LN.out];omega
  clear h1 h2 h
  rcases hni with hi|⟨hi,hi2⟩
  .go_enter Tryz.func16,Tryz.ntmps16
   go_wp2_with (first|(refine zBYo (AaD s v) ?_;clear M;intro w' g M)|(refine zALo (Aan) ?_;clear M;intro w' g M)|((with_reducible refine Ab9 rfl 37 _ rfl [] (fl (cpP cp0)) ?_ (by kernel_rfl) ?_);rfl)|(refine zSSo M 0 (cpP cp0) (cpP cp0) (AaA _) (AaF _) ?_;clear M;intro w' M))
   rw[HR.out]
   exact zRb M.out.at0 ⟨rfl,M.out.ext⟩
  .have hd:decide (i<0)=false:=by simp;omega
   go_enter Tryz.func16,Tryz.ntmps16
   go_wp2_with (first|(refine zBYo (AaD s v) ?_;clear M;intro w' g M)|refine zLDo (M.out.at1) ?_|(refine zALo (Aan) ?_;clear M;intro w' g M)|((with_reducible refine Ab9 rfl 37 _ rfl [] (fl (cpP cp0)) ?_ (by kernel_rfl) ?_);rfl)|(refine zSSo M 0 (cpP cp0) (cpP cp0) (AaA _) (AaF _) ?_;clear M;intro w' M))
   rw[HR.out]
   exact zRb M.out.at0 ⟨rfl,M.out.ext⟩
 .have HS:Bx (s.src (k:Int)=s.srcN s.nodes[k]):=⟨by unfold Sto.src;rw[h2]⟩
  obtain⟨gn,hA,hc⟩:=h.nodes.at (fun x _=>AbW x) k hk
  have HC:=bx hc
  have HA:=bx (AeB hA)
  have hkn:k<v.nodes.n:=by rw[LN.out];exact hk
  have E1:=bx (fun(Γ:Gam) (x:U) w' (ok:Ok Γ w')=>AfE Γ s v x hs w' ok)
  have HV:Bx (s.srcN s.nodes[k]=if(s.ep s.nodes[k].b.slot).n<(s.ep s.now).n then s.nodes[k].b.pj else s.nodes[k].b.just):=⟨rfl⟩
  clear h1 h2 h hc hs
  generalize s.nodes[k]=x at *
  have hki:(k:Int)<(v.nodes.n:Int):=by omega
  have hk0:0<=(k:Int):=by omega
  have hd:decide ((k:Int)<0)=false:=by simp
  go_enter Tryz.func16,Tryz.ntmps16
  go_wp2_with (first|(refine zBYo (AaD s v) ?_;clear M;intro w' g M)|refine zLE M.out.at1 (HA.out) ?_|refine zRD (CL.of HC.out (AaO _) M.ok) ?_|(refine zALo (ztNo) ?_;clear M;intro w' g M)|(refine zALo (Aan) ?_;clear M;intro w' g M)|(refine zSSo M 0 (noP x) (noP x) (AaO _) (Abm _) ?_;clear M;intro w' M))
  have Q1:=bx M.out.at2.cls
  have Q0:=bx M.out.at0.cls
  have EC:=bx (fun y:U=>clsE M.out fun w' ok=>E1.out _ y w' ok)
  refine zRG ?_
  repeat((go_big_quiet_want;first|(first|(refine zQL Q0.out (AaO _) ?_;go_big_quiet_on;refine zNM ?_)|(refine zQL Q1.out (AaD _ _) ?_;go_big_quiet_on;refine zNM ?_)|(refine zQC (AaI (EC.out x.b.slot)) Tryz.func47 ?_;go_big_quiet_on;refine zNM ?_)|(refine zQC (AaI (EC.out s.now)) Tryz.func47 ?_;go_big_quiet_on;refine zNM ?_))|(refine zQO ?_;go_big_quiet_on)))
  (refine zQN ?_;clear M;intro w4 M)
  clear Q1 Q0 EC
  by_cases hlt:(s.ep x.b.slot).n<(s.ep s.now).n
  .have HV':=bx (HV.out.trans (if_pos hlt))
   have hlti:((s.ep x.b.slot).n:Int)<((s.ep s.now).n:Int):=by omega
   clear HV
   go_wp2_with (first|refine zLDo (M.out.at0) ?_|(refine zSSo M 1 (cpP x.b.pj) (cpP x.b.pj) (AaA _) (AaF _) ?_;clear M;intro w' M))
   rw[HS.out,HV'.out]
   exact zRb M.out.at1 ⟨rfl,M.out.ext⟩
  .have HV':=bx (HV.out.trans (if_neg hlt))
   have hlti:((s.ep s.now).n:Int)<=((s.ep x.b.slot).n:Int):=by omega
   clear HV
   go_wp2_with (first|refine zLDo (M.out.at0) ?_|(refine zSSo M 1 (cpP x.b.just) (cpP x.b.just) (AaA _) (AaF _) ?_;clear M;intro w' M))
   rw[HS.out,HV'.out]
   exact zRb M.out.at1 ⟨rfl,M.out.ext⟩
end Go.Proofs.YtmgeheaneohldaaGreat
namespace Go.Proofs.YtmgeheaneohldaaGreat
open Go.RowKit Go.Proofs.YtmgeheaneohldaaGreat.Old
theorem SlR.fz{α:Type}{f:α->List (List Value)}{ls:List Nat}{k:Nat}{Γ:Gam}{s:Sl}{xs:List α}(h:SlR Γ s xs.length (xs.flatMap fun x=>fl (f x)))(hl:∀x,(f x).map List.length=ls)(hk:ls.sum=k)(i:Nat)(hi:i<xs.length) :
  ∃g,s.v=.slice (some ⟨g,0,none⟩) s.n s.c/\Fz Γ g (i*k) (f xs[i]) ls:=by
 obtain⟨g,h1,h2⟩:=h.at (fun x _=>(AbA (hl x)).trans hk) i hi
 exact⟨g,by rw[<-h1],h2,hl _⟩
theorem StG.nodeAt{Γ:Gam}{v:Sls}{s:Sto}(h:StG Γ v s)(i:Nat)(hi:i<s.nodes.length):∃g,v.nodes.v=.slice (some ⟨g,0,none⟩) v.nodes.n v.nodes.c/\Fz Γ g (i*240) (noP s.nodes[i]) noL:=h.nodes.fz (f:=noP) AaO rfl i hi
theorem StG.orphAt{Γ:Gam}{v:Sls}{s:Sto}(h:StG Γ v s)(i:Nat)(hi:i<s.orph.length):∃g,v.orph.v=.slice (some ⟨g,0,none⟩) v.orph.n v.orph.c/\Fz Γ g (i*238) (blP s.orph[i]) blL:=h.orph.fz (f:=blP) AaY rfl i hi
def stU(e p:U):U:=if h:e.n*p.n<18446744073709551616 then⟨e.n*p.n,h⟩else u0
def stB(e p:U):Bool:=decide (e.n*p.n<18446744073709551616)
theorem AlV(e p:U)(h1:1<=p.n)(h2:p.n<=64):stV (e.n:Int) (p.n:Int)=((stU e p).n:Int)/\stE (e.n:Int) (p.n:Int)=if stB e p=true then 0 else 4:=by
 have hf:fitsB (p.n:Int)=true:=decide_eq_true (by omega)
 unfold stV stE mulV mulE stU stB
 rw[if_pos hf,if_pos hf]
 have e1:((e.n:Int)*(p.n:Int))=((e.n*p.n:Nat):Int):=by rw[Int.natCast_mul]
 rw[e1]
 by_cases h:e.n*p.n<18446744073709551616
 .rw[if_pos (by omega),if_pos (by omega),dif_pos h,if_pos (decide_eq_true h)]
  exact⟨rfl,rfl⟩
 .rw[if_neg (by omega),if_neg (by omega),dif_neg h,if_neg (by simpa using h)]
  exact⟨rfl,rfl⟩
theorem Aiz(e p:U)(h1:1<=p.n)(h2:p.n<=64)(w:World) :
  Calls Tryz.prog 185 #[.int .u64 (e.n:Int),.int .u64 (p.n:Int)] w fun en w'=>en=.returned (.tuple #[.int .u64 ((stU e p).n:Int),.int .i64 (if stB e p=true then 0 else 4)])/\w=w':=by
 have:=AhB (e.n:Int) (p.n:Int) (by omega) (by have:=e.lt;omega) (by omega) (by have:=p.lt;omega) w
 rw[(AlV e p h1 h2).1,(AlV e p h1 h2).2]at this
 exact this
theorem Ack(Γ:Gam)(s:Sto)(v:Sls)(e:U)(hs:SpeOk s)(w:World)(ok:Ok Γ w) :
  Calls Tryz.prog 169 #[.agg (fl (stP s v)).toArray,.int .u64 (e.n:Int)] w fun en w'=>en=.returned (.tuple #[.int .u64 ((stU e s.c.spe).n:Int),.bool (stB e s.c.spe)])/\Ext Γ w Γ w':=by
 have M:=bx (MM.start ok)
 have ST:=bx (Aiz e s.c.spe hs.1 hs.2)
 clear ok hs
 cases hb:stB e s.c.spe with
 |false=>
  rw[hb]at ST
  have ST':Bx (∀w,Calls Tryz.prog 185 #[.int .u64 (e.n:Int),.int .u64 (s.c.spe.n:Int)] w fun en w'=>en=.returned (.tuple #[.int .u64 ((stU e s.c.spe).n:Int),.int .i64 4])/\w=w'):=⟨ST.out⟩
  clear hb ST
  go_enter Tryz.func169,Tryz.ntmps169
  (go_wp2_with (first|(refine zBXo ?_;clear M;intro w' g M)|refine zLAo ?_))
  (refine(ST'.out _).mono ?_);rintro e1 w1 ⟨rfl,rfl⟩
  (go_wp2_with (fail))
  go_ret2
  exact⟨rfl,M.out.ext⟩
 |true=>
  rw[hb]at ST
  have ST':Bx (∀w,Calls Tryz.prog 185 #[.int .u64 (e.n:Int),.int .u64 (s.c.spe.n:Int)] w fun en w'=>en=.returned (.tuple #[.int .u64 ((stU e s.c.spe).n:Int),.int .i64 0])/\w=w'):=⟨ST.out⟩
  clear hb ST
  go_enter Tryz.func169,Tryz.ntmps169
  (go_wp2_with (first|(refine zBXo ?_;clear M;intro w' g M)|refine zLAo ?_))
  (refine(ST'.out _).mono ?_);rintro e1 w1 ⟨rfl,rfl⟩
  (go_wp2_with (fail))
  go_ret2
  exact⟨rfl,M.out.ext⟩
theorem AcM(Γ:Gam)(s:Sto)(v:Sls)(w:World)(ok:Ok Γ w)(h:StG Γ v s) :
  Calls Tryz.prog 149 #[.agg (fl (stP s v)).toArray] w fun en w'=>en=.returned (.int .i64 (s.bal.length:Int))/\Ext Γ w Γ w':=by
 have M:=bx (MM.start ok)
 have LB:=bx h.bal.n
 clear ok h
 rw[<-LB.out]
 go_enter Tryz.func149,Tryz.ntmps149
 (go_wp2_with (first|(refine zBXo ?_;clear M;intro w' g M)|refine zLAo ?_))
 go_ret
 exact⟨rfl,M.out.ext⟩
def earB(s:Sto)(k:Nat)(e:U):Bool:=!stB e s.c.spe||decide ((s.nodes.getD k n0).b.slot.n<=(stU e s.c.spe).n)
theorem AbQ(Γ:Gam)(s:Sto)(v:Sls)(k:Nat)(e:U)(hs:SpeOk s)(hk:k<s.nodes.length)(w:World)(ok:Ok Γ w)(h:StG Γ v s) :
  Calls Tryz.prog 184 #[.agg (fl (stP s v)).toArray,.int .i64 (k:Int),.int .u64 (e.n:Int)] w fun en w'=>en=.returned (.bool (earB s k e))/\Ext Γ w Γ w':=by
 have M:=bx (MM.start ok)
 have ST:=bx (fun w ok=>Ack Γ s v e hs w ok)
 obtain⟨g,hA,hf⟩:=h.nodeAt k hk
 have F1:=bx hf
 have HA:=bx hA
 have hki:(k:Int)<(v.nodes.n:Int):=by rw[h.nodes.n];omega
 have hk0:0<=(k:Int):=by omega
 have HD:Bx (earB s k e=(!stB e s.c.spe||decide (s.nodes[k].b.slot.n<=(stU e s.c.spe).n))):=⟨by unfold earB;rw[nget hk]⟩
 clear ok hs h hA hf
 generalize earB s k e=r at *
 generalize s.nodes[k]=y at *
 generalize stU e s.c.spe=u at *
 cases hb:stB e s.c.spe with
 |false=>
  rw[hb]at ST HD
  clear hb
  go_enter Tryz.func184,Tryz.ntmps184
  (go_wp2_with (first|(refine zBXo ?_;clear M;intro w' g M)|refine zLAo ?_))
  refine zCA M (ST.out _ M.ok) ?_;clear M;intro w1 M
  (go_wp2_with (go_skip))
  go_ret
  exact⟨by rw[HD.out];rfl,M.out.ext⟩
 |true=>
  rw[hb]at ST HD
  clear hb
  by_cases hl:y.b.slot.n<=u.n
  .have HD':Bx (r=true):=⟨by rw[HD.out,decide_eq_true hl];rfl⟩
   have hl':(y.b.slot.n:Int)<=(u.n:Int):=by omega
   clear HD
   go_enter Tryz.func184,Tryz.ntmps184
   (go_wp2_with (first|(refine zBXo ?_;clear M;intro w' g M)|refine zLAo ?_))
   refine zCA M (ST.out _ M.ok) ?_;clear M;intro w1 M
   (go_wp2_with (first|refine zLHo HA ?_|refine zRFo F1 ?_))
   go_ret
   exact⟨by rw[HD'.out];rfl,M.out.ext⟩
  .have HD':Bx (r=false):=⟨by rw[HD.out,decide_eq_false hl];rfl⟩
   have hl':(u.n:Int)<(y.b.slot.n:Int):=by omega
   clear HD
   go_enter Tryz.func184,Tryz.ntmps184
   (go_wp2_with (first|(refine zBXo ?_;clear M;intro w' g M)|refine zLAo ?_))
   refine zCA M (ST.out _ M.ok) ?_;clear M;intro w1 M
   (go_wp2_with (first|refine zLHo HA ?_|refine zRFo F1 ?_))
   go_ret
   exact⟨by rw[HD'.out];rfl,M.out.ext⟩
def punI(s l:List Int):List Int:=l.foldl insI s
theorem Abh{α β:Type}(f:β->α->β)(b:β){l:List α}{k:Nat}(hk:k<l.length):(l.take (k+1)).foldl f b=f ((l.take k).foldl f b) l[k]:=by
 rw[List.take_succ_eq_append_getElem hk,List.foldl_append];rfl
theorem Aho(s l:List Int):(punI s l).length<=s.length+l.length:=by
 unfold punI
 induction l generalizing s with
 |nil=>simp
 |cons a t ih=>
  have h1:=ih (insI s a)
  have h2:=Ah2 s a
  simp only[List.foldl_cons,List.length_cons]
  omega
def PunP(Γ:Gam)(w:World)(l:List Int)(m:Int)(e:Ending)(w':World):Prop:=∃(A:Option Addr) (c:Nat) (Γ':Gam),e=.returned (.tuple #[.slice A l.length c,.int .i64 m])/\CapOk A l.length c/\SlG Γ' A l.length (ints .i64 l)/\Ext Γ w Γ' w'
theorem AiY(Γ:Gam)(A A2:Option Addr)(c c2:Nat)(s l:List Int)(w:World)(ok:Ok Γ w)(h:SlG Γ A s.length (ints .i64 s))(hc:CapOk A s.length c)(h2:SlG Γ A2 l.length (ints .i64 l))(hb:s.length<=30000)(hb2:l.length<=30000) :
  Calls Tryz.prog 150 #[.slice A s.length c,.slice A2 l.length c2] w (PunP Γ w (punI s l) ((punI s l).length-s.length)):=by
 have M:=bx (MM.start ok)
 have ROW:Bx (∀w',Ok Γ w'->Row w' w'.heap.size 1 A s.length (ints .i64 s)):=⟨fun w' o=>h.row (size:=1) (by rw[ints_len,Nat.mul_one]) o⟩
 have CAP:=bx hc.nil
 have HS2:=bx h2
 have PT:Bx (∀k (hk:k<l.length),punI s (l.take (k+1))=insI (punI s (l.take k)) l[k]):=⟨fun k hk=>Abh insI s hk⟩
 have PL:=bx (fun k=>(Nat.le_trans (Aho s (l.take k)) (by rw[List.length_take];omega):(punI s (l.take k)).length<=60000))
 have HB2:=bx hb2
 clear ok h hc h2
 go_enter Tryz.func150,Tryz.ntmps150
 (go_wp2_with ((at_builtin;(with_reducible apply Aa8 (M.out.row0 3 1) AbP (ROW.out _ M.ok) CAP.out);exact One.ints _ _;(unfold maxLen;omega);omega;rfl;rfl;rfl;rfl;intro A' c' w' M';(simp only[Nat.zero_add,List.nil_append]at M');(replace M:=bx M';clear M'))))
 obtain⟨Γ1,hcap,hsl,hle,M'⟩:=M.out.frz
 (replace M:=bx M';clear M')
 go_loopw [6,7] (fun o j wr=>∃(k:Nat) (A1:Option Addr) (c1:Nat) (Γk:Gam),k<=l.length/\j=.int .i64 k/\o=.slice A1 (punI s (l.take k)).length c1/\CapOk A1 (punI s (l.take k)).length c1/\SlG Γk A1 (punI s (l.take k)).length (ints .i64 (punI s (l.take k)))/\MM Γ w Γk wr [] []) (fun _ j _=>l.length-(intOf j).toNat)
 case atStart=>exact⟨0,A',c',Γ1,Nat.zero_le _,rfl,rfl,hcap,hsl,M.out⟩
 case round=>
  obtain⟨k,A1,c1,Γk,hk,rfl,rfl,hcp,hsk,hM⟩:=hrel
  clear M
  have M:=bx hM
  have HC:=bx hcp
  have HK:=bx hsk
  clear hM hcp hsk hcap hsl hle
  have hpl:=PL.out k
  by_cases hkn:k<l.length
  .obtain⟨gk,rfl,hf⟩:=Aef (HS2.out.mono M.out.ext.le) k hkn
   have F1:=bx hf
   have PT':=bx (PT.out k hkn)
   have hki:(k:Int)<(l.length:Int):=by omega
   have hk0:0<=(k:Int):=by omega
   have IN:=bx (fun w ok=>Aeg Γk A1 c1 (punI s (l.take k)) l[k] w ok HK.out HC.out (by omega))
   clear hf
   generalize l[k]=y at *
   generalize punI s (l.take k)=sk at *
   (go_wp2_with (refine zRFo F1 ?_))
   refine(IN.out _ M.ok).mono ?_
   rintro e1 w1 ⟨A3,c3,Γ3,rfl,hc3,hs3,hx3⟩
   replace M:=bx (M.out.call hx3)
   (go_wp2_with (fail))
   go_roundw
   case rel=>exact⟨k+1,A3,c3,Γ3,by omega,by go_num,by rw[PT'.out],by rw[PT'.out];exact hc3,by rw[PT'.out];exact hs3,M.out⟩
   case measure=>simp[intOf]<;>omega
  .have hki:(l.length:Int)<=(k:Int):=by omega
   have e:punI s (l.take k)=punI s l:=by rw[List.take_of_length_le (by omega)]
   rw[e]at HC HK hpl |-
   clear e PT PL
   generalize punI s l=r at *
   (go_wp2_with (fail))
   go_ret2
   exact⟨A1,c1,Γk,rfl,HC.out,HK.out,M.out.ext⟩
def culI(x:Slh):List Int:=x.a.l.foldl (fun acc y=>if y∈x.b.l then insI acc y else acc) []
def culTo(x:Slh)(k:Nat):List Int:=(x.a.l.take k).foldl (fun acc y=>if y∈x.b.l then insI acc y else acc) []
theorem Aen(x:Slh)(k:Nat):(culTo x k).length<=k:=by
 induction k with
 |zero=>simp[culTo]
 |succ k ih=>
  rcases Nat.lt_or_ge k x.a.l.length with hk|hk
  .unfold culTo at ih |-
   rw[Abh _ _ hk]
   split
   .exact Nat.le_trans (Ah2 _ _) (by omega)
   .omega
  .unfold culTo at ih |-
   rw[List.take_of_length_le (by omega)]
   rw[List.take_of_length_le hk]at ih
   omega
theorem Ad4(Γ:Gam)(x:Slh)(s t:Sl)(w:World)(ok:Ok Γ w)(h:SlG2 Γ x s t)(hb:x.a.l.length<=30000)(hb2:x.b.l.length<=30000) :
  Calls Tryz.prog 151 #[.agg (fl (slP x s t)).toArray] w (IntsP Γ w (culI x)):=by
 have M:=bx (MM.start ok)
 have HS:=bx h
 have LA:=bx h.a.n
 have LB:=bx h.b.n
 have PT:Bx (∀k (hk:k<x.a.l.length),culTo x (k+1)=if x.a.l[k]∈x.b.l then insI (culTo x k) x.a.l[k]else culTo x k):=⟨fun k hk=>Abh (fun acc y=>if y∈x.b.l then insI acc y else acc) [] hk⟩
 have PE:Bx (culTo x x.a.l.length=culI x):=⟨by unfold culTo culI;rw[List.take_of_length_le (Nat.le_refl _)]⟩
 have PL:=bx (Aen x)
 have HB:=bx hb
 clear ok h
 go_enter Tryz.func151,Tryz.ntmps151
 (go_wp2_with (refine zBXo ?_;clear M;intro w' g M))
 go_loopw [3,4] (fun o j wr=>∃(k:Nat) (A1:Option Addr) (c1:Nat) (Γk:Gam),k<=x.a.l.length/\j=.int .i64 k/\o=.slice A1 (culTo x k).length c1/\CapOk A1 (culTo x k).length c1/\SlG Γk A1 (culTo x k).length (ints .i64 (culTo x k))/\MM Γ w Γk wr [⟨g,slP x s t,[1,1,32,1,1,1,32,1]⟩] []) (fun _ j _=>x.a.l.length-(intOf j).toNat)
 case atStart=>exact⟨0,none,0,Γ,Nat.zero_le _,rfl,rfl,⟨Nat.le_refl _,Nat.zero_le _,fun _=>rfl⟩,fun h=>absurd h (Nat.lt_irrefl _),M.out⟩
 case round=>
  obtain⟨k,A1,c1,Γk,hk,rfl,rfl,hcp,hsk,hM⟩:=hrel
  clear M
  have M:=bx hM
  have HC:=bx hcp
  have HK:=bx hsk
  clear hM hcp hsk
  have hpl:=PL.out k
  by_cases hkn:k<x.a.l.length
  .have hsa:=HS.out.a.sl.mono M.out.ext.le
   rw[LA.out]at hsa
   obtain⟨gk,hA,hf⟩:=Aef hsa k hkn
   have HA:Bx (s.v=.slice (some ⟨gk,0,none⟩) s.n s.c):=⟨by rw[<-hA]⟩
   have F1:=bx hf
   have PT':=bx (PT.out k hkn)
   have hki:(k:Int)<(s.n:Int):=by rw[LA.out];omega
   have hk0:0<=(k:Int):=by omega
   have IN:=bx (fun w ok=>Aeg Γk A1 c1 (culTo x k) x.a.l[k] w ok HK.out HC.out (by omega))
   have hsb:=HS.out.b.sl.mono M.out.ext.le
   rw[LB.out]at hsb
   have HH:Bx (∀w,Ok Γk w->Calls Tryz.prog 62 #[t.v,.int .i64 x.a.l[k]] w fun e w'=>e=.returned (.bool (decide (x.a.l[k]∈x.b.l)))/\Ext Γk w Γk w'):=⟨fun w ok=>by
    have:=Akv Γk t.A t.c x.b.l x.a.l[k] w ok hsb (by omega)
    rw[<-LB.out]at this
    exact this⟩
   have EC:=bx (clsE M.out HH.out)
   clear hf hA hsa hsb HH
   generalize x.a.l[k]=y at *
   by_cases hm:y∈x.b.l
   .rw[decide_eq_true hm]at EC
    replace PT':=bx (PT'.out.trans (if_pos hm))
    clear hm
    generalize hct:culTo x k=sk at *
    clear hct
    (go_wp2_with (refine zLAo ?_))
    refine zRG ?_;(repeat((go_big_quiet_want;first|(refine zQHo HA ?_;go_big_quiet_on;refine zNM ?_)|(refine zQFo F1 ?_;go_big_quiet_on;refine zNM ?_)|(refine zQC (AaI EC.out) Tryz.func62 ?_;go_big_quiet_on;refine zNM ?_)|(refine zQAo ?_;go_big_quiet_on;refine zNM ?_)|(refine zQO ?_;go_big_quiet_on))));(refine zQN ?_;clear M;intro w4 M)
    clear EC
    (go_wp2_with (first|refine zLHo HA ?_|refine zRFo F1 ?_))
    refine(IN.out _ M.ok).mono ?_
    rintro e1 w1 ⟨A3,c3,Γ3,rfl,hc3,hs3,hx3⟩
    replace M:=bx (M.out.call hx3)
    (go_wp2_with (fail))
    go_roundw
    case rel=>exact⟨k+1,A3,c3,Γ3,by omega,by go_num,by rw[PT'.out],by rw[PT'.out];exact hc3,by rw[PT'.out];exact hs3,M.out⟩
    case measure=>simp[intOf]<;>omega
   .rw[decide_eq_false hm]at EC
    replace PT':=bx (PT'.out.trans (if_neg hm))
    clear hm
    generalize hct:culTo x k=sk at *
    clear hct
    (go_wp2_with (refine zLAo ?_))
    refine zRG ?_;(repeat((go_big_quiet_want;first|(refine zQHo HA ?_;go_big_quiet_on;refine zNM ?_)|(refine zQFo F1 ?_;go_big_quiet_on;refine zNM ?_)|(refine zQC (AaI EC.out) Tryz.func62 ?_;go_big_quiet_on;refine zNM ?_)|(refine zQAo ?_;go_big_quiet_on;refine zNM ?_)|(refine zQO ?_;go_big_quiet_on))));(refine zQN ?_;clear M;intro w4 M)
    clear EC
    (go_wp2_with (fail))
    go_roundw
    case rel=>exact⟨k+1,A1,c1,Γk,by omega,by go_num,by rw[PT'.out],by rw[PT'.out];exact HC.out,by rw[PT'.out];exact HK.out,M.out⟩
    case measure=>simp[intOf]<;>omega
  .have hki:(s.n:Int)<=(k:Int):=by rw[LA.out];omega
   obtain rfl:k=x.a.l.length:=by omega
   rw[PE.out]at HC HK hpl |-
   clear PT PL PE
   generalize culI x=r at *
   (go_wp2_with (refine zLAo ?_))
   go_ret
   exact⟨A1,c1,Γk,rfl,HC.out,HK.out,M.out.ext⟩
def SlbP(Γ:Gam)(w:World)(e:Ending)(w':World):Prop:=∃r:Bool,e=.returned (.bool r)/\Ext Γ w Γ w'
structure Lt2(a b:Nat):Prop where
 i1:(a:Int)<(b:Int)
 i2:(a:Int)<=(b:Int)
 i3:((a:Int)==(b:Int))=false
 i4:((a:Int) != (b:Int))=true
 n1:a<b
 n2:a<=b
 m1:¬b<a
 m2:¬b<=a
 j1:¬(b:Int)<(a:Int)
 j2:¬(b:Int)<=(a:Int)
structure Eq2(a b:Nat):Prop where
 i1:((a:Int)==(b:Int))=true
 i2:((a:Int) != (b:Int))=false
 i3:(a:Int)<=(b:Int)
 i4:(b:Int)<=(a:Int)
 n1:a<=b
 n2:b<=a
 m1:¬a<b
 m2:¬b<a
 j1:¬(a:Int)<(b:Int)
 j2:¬(b:Int)<(a:Int)
theorem two2(a b:Nat):(a<b/\(a:Int)<(b:Int))\/(¬a<b/\¬(a:Int)<(b:Int)):=by omega
theorem tri3(a b:Nat):Lt2 a b\/Eq2 a b\/Lt2 b a:=by
 rcases Nat.lt_trichotomy a b with h|h|h
 .exact .inl ⟨by omega,by omega,by simp;omega,by simp;omega,h,by omega,by omega,by omega,by omega,by omega⟩
 .subst h;exact .inr (.inl ⟨by simp,by simp,by omega,by omega,by omega,by omega,by omega,by omega,by omega,by omega⟩)
 .exact .inr (.inr ⟨by omega,by omega,by simp;omega,by simp;omega,h,by omega,by omega,by omega,by omega,by omega⟩)
theorem Afc(Γ:Gam)(x y:Clm)(s t:Sl)(w:World)(ok:Ok Γ w) :
  Calls Tryz.prog 176 #[.agg (fl (clP x s)).toArray,.agg (fl (clP y t)).toArray] w (SlbP Γ w):=by
 have M:=bx (MM.start ok)
 clear ok
 have hq:=AbC x.r y.r
 generalize decide (x.r=y.r)=q at *
 rcases tri3 x.tgt.n y.tgt.n with⟨a1,a2,a3,a4,a5,a6,a7,a8,a9,a10⟩|⟨a1,a2,a3,a4,a5,a6,a7,a8,a9,a10⟩|⟨a1,a2,a3,a4,a5,a6,a7,a8,a9,a10⟩
 .rcases tri3 x.src.n y.src.n with⟨b1,b2,b3,b4,b5,b6,b7,b8,b9,b10⟩|⟨b1,b2,b3,b4,b5,b6,b7,b8,b9,b10⟩|⟨b1,b2,b3,b4,b5,b6,b7,b8,b9,b10⟩<;>(go_enter Tryz.func176,Tryz.ntmps176;(go_wp2_with (first|go_skip|(refine zBXd ?_;clear M;intro w' g M)|refine zLAd ?_));go_ret;exact⟨_,rfl,M.out.ext⟩)
 .rcases tri3 x.src.n y.src.n with⟨b1,b2,b3,b4,b5,b6,b7,b8,b9,b10⟩|⟨b1,b2,b3,b4,b5,b6,b7,b8,b9,b10⟩|⟨b1,b2,b3,b4,b5,b6,b7,b8,b9,b10⟩
  ·(go_enter Tryz.func176,Tryz.ntmps176;(go_wp2_with (first|go_skip|(refine zBXd ?_;clear M;intro w' g M)|refine zLAd ?_));go_ret;exact⟨_,rfl,M.out.ext⟩)
  .cases q<;>(go_enter Tryz.func176,Tryz.ntmps176;(go_wp2_with (first|go_skip|(refine zBXd ?_;clear M;intro w' g M)|refine zLAd ?_));go_ret;exact⟨_,rfl,M.out.ext⟩)
  ·(go_enter Tryz.func176,Tryz.ntmps176;(go_wp2_with (first|go_skip|(refine zBXd ?_;clear M;intro w' g M)|refine zLAd ?_));go_ret;exact⟨_,rfl,M.out.ext⟩)
 .rcases tri3 x.src.n y.src.n with⟨b1,b2,b3,b4,b5,b6,b7,b8,b9,b10⟩|⟨b1,b2,b3,b4,b5,b6,b7,b8,b9,b10⟩|⟨b1,b2,b3,b4,b5,b6,b7,b8,b9,b10⟩<;>(go_enter Tryz.func176,Tryz.ntmps176;(go_wp2_with (first|go_skip|(refine zBXd ?_;clear M;intro w' g M)|refine zLAd ?_));go_ret;exact⟨_,rfl,M.out.ext⟩)
theorem AiQ(Γ:Gam)(x:Slh)(s t:Sl)(n:Int)(w:World)(ok:Ok Γ w)(h:SlG2 Γ x s t)(hb:x.a.l.length<=30000)(hb2:x.b.l.length<=30000) :
  Calls Tryz.prog 148 #[.agg (fl (slP x s t)).toArray,.int .i64 n] w fun e w'=>∃er:Int,e=.returned (.int .i64 er)/\((er=0->VList x.a.l n/\VList x.b.l n)/\er≠21)/\Ext Γ w Γ w':=by
 have M:=bx (MM.start ok)
 have OK:=bx ok
 have V1:Bx (∀w,Ok Γ w->Calls Tryz.prog 162 #[s.v,.int .i64 n] w fun e w'=>∃er:Int,e=.returned (.int .i64 er)/\((er=0↔VList x.a.l n)/\er≠21)/\Ext Γ w Γ w'):=⟨fun w ok=>by
  have hs:=h.a.sl
  rw[h.a.n]at hs
  have:=AcO Γ s.A s.c x.a.l n w ok hs (by omega)
  rw[<-h.a.n]at this
  exact this⟩
 have V2:Bx (∀w,Ok Γ w->Calls Tryz.prog 162 #[t.v,.int .i64 n] w fun e w'=>∃er:Int,e=.returned (.int .i64 er)/\((er=0↔VList x.b.l n)/\er≠21)/\Ext Γ w Γ w'):=⟨fun w ok=>by
  have hs:=h.b.sl
  rw[h.b.n]at hs
  have:=AcO Γ t.A t.c x.b.l n w ok hs (by omega)
  rw[<-h.b.n]at this
  exact this⟩
 have SB:=bx (fun w ok=>Afc Γ x.a x.b s t w ok)
 have CU:=bx (fun w ok=>Ad4 Γ x s t w ok h hb hb2)
 generalize culI x=cu at *
 clear ok h hb hb2
 go_enter Tryz.func148,Tryz.ntmps148
 (go_wp2_with (first|(refine zBXd ?_;clear M;intro w' g M)|refine zLAd ?_))
 refine(V1.out _ M.ok).mono ?_
 rintro e1 w1 ⟨er,rfl,hv1,hx1⟩
 replace M:=bx (M.out.call hx1)
 have HV1:=bx hv1
 clear hv1 hx1
 by_cases h0:er=0
 .subst h0
  (go_wp2_with (refine zLAd ?_))
  refine(V2.out _ M.ok).mono ?_
  rintro e1 w1 ⟨er,rfl,hv2,hx1⟩
  replace M:=bx (M.out.call hx1)
  have HV2:=bx hv2
  clear hv2 hx1
  by_cases h0:er=0
  .subst h0
   rcases two2 x.a.tgt.n x.a.src.n with⟨a1,a2⟩|⟨a1,a2⟩
   ·(go_wp2_with (first|go_skip|refine zLAd ?_))
    go_ret
    exact⟨_,rfl,⟨fun e=>(by cases e),by decide⟩,M.out.ext⟩
   .rcases two2 x.b.tgt.n x.b.src.n with⟨b1,b2⟩|⟨b1,b2⟩
    ·(go_wp2_with (refine zLAd ?_))
     go_ret
     exact⟨_,rfl,⟨fun e=>(by cases e),by decide⟩,M.out.ext⟩
    ·(go_wp2_with (refine zLAd ?_))
     refine(SB.out _ M.ok).mono ?_
     rintro e1 w1 ⟨r,rfl,hx1⟩
     replace M:=bx (M.out.call hx1)
     clear hx1
     cases r
     ·(go_wp2_with (go_skip))
      go_ret
      exact⟨_,rfl,⟨fun e=>(by cases e),by decide⟩,M.out.ext⟩
     ·(go_wp2_with (refine zLAd ?_))
      refine(CU.out _ M.ok).mono ?_
      rintro e1 w1 ⟨A3,c3,Γ3,rfl,hc3,hs3,hx3⟩
      replace M:=bx (M.out.call hx3)
      clear hc3 hs3 hx3
      by_cases hc0:((cu.length:Int)==0)=true
      ·(go_wp2_with (fail))
       go_ret
       exact⟨_,rfl,⟨fun e=>(by cases e),by decide⟩,Ext.below OK.out M.bel⟩
      .have hc1:((cu.length:Int)==0)=false:=by simpa using hc0
       clear hc0
       (go_wp2_with (fail))
       go_ret
       exact⟨_,rfl,⟨fun _=>⟨HV1.out.1.1 (by simp),HV2.out.1.1 (by simp)⟩,by decide⟩,Ext.below OK.out M.bel⟩
  .have h0b:(er==0)=false:=beq_eq_false_iff_ne.2 h0
   have H0:=bx h0
   clear h0
   (go_wp2_with (fail))
   go_ret
   exact⟨_,rfl,⟨fun e=>absurd e H0.out,HV2.out.2⟩,M.out.ext⟩
 .have h0b:(er==0)=false:=beq_eq_false_iff_ne.2 h0
  have H0:=bx h0
  clear h0
  (go_wp2_with (fail))
  go_ret
  exact⟨_,rfl,⟨fun e=>absurd e H0.out,HV1.out.2⟩,M.out.ext⟩
structure StrT(Pg:Program)(t:TypeId)(places:List (Nat × Nat))(Z:List (List Value))(ls:List Nat):Prop where
 eq:∀ps,Pg.built t ps=Instr.fill (places.toArray[·]?) (fl Z).toArray ps
 len:Z.map List.length=ls
theorem AbB{Pg:Program}{t:TypeId}{places:List (Nat × Nat)}{Z:List (List Value)}{ls:List Nat}{fs:Array Field}(hu:Pg.underlying t=some (.struct fs))(hp:fs.toList.mapM (fun f=>(Pg.info? f.type).map fun i=>(f.offset,i.size))=some places)
  (hz:(Pg.info? t).bind (fun i=>i.zero.map (·.cells))=some (fl Z).toArray) (hl:Z.map List.length=ls):StrT Pg t places Z ls:=by
 refine⟨fun ps=>?_,hl⟩
 cases hi:Pg.info? t with
 |none=>rw[hi]at hz;cases hz
 |some i=>
  rw[hi]at hz
  cases hzz:i.zero with
  |none=>simp[hzz]at hz
  |some z=>
   simp only[Option.bind_some,hzz,Option.map_some,Option.some.injEq]at hz
   simp only[Program.built,hi,hu,hzz,hp,hz]
theorem AaJ{place:Nat->Option (Nat × Nat)}{P0 P1 Q:List (List Value)}{ls:List Nat}{i:Nat}{v:Value}{rest:List (Nat × Value)}{o n k j:Nat}{R:Option (Array Value)}(hl:P0.map List.length=ls)(hp:place i=some (o,n))(hf:findPart ls o n=some (k,j))
  (hv:v.cells=(fl Q).toArray) (hQ:Q.map List.length=(ls.drop k).take j) (hP:P0.take k++Q++P0.drop (k+j)=P1) (h:P1.map List.length=ls->Instr.fill place (fl P1).toArray rest=R):Instr.fill place (fl P0).toArray ((i,v)::rest)=R:=by
 subst hP
 obtain⟨pre,post,e,h1,h2,h3⟩:=AaZ hl hf
 have hn:(fl Q).length=n:=by rw[AbA hQ,<-AbA (Abg (Ab1 hl k) j),h2]
 have hl2:(P0.take k++Q++P0.drop (k+j)).map List.length=ls:=by
  rw[List.map_append,List.map_append,hQ,Abg hl,Ab1 hl,List.append_assoc,<-List.drop_drop,List.take_append_drop,List.take_append_drop]
 rw[<-h hl2,e,h3 Q]
 have hfold:v.cells.zipIdx.foldl (fun cs (x:Value × Nat)=>cs.setIfInBounds (pre.length+x.2) x.1) (pre++fl ((P0.drop k).take j)++post).toArray=(pre++fl Q++post).toArray:=by
  have:=AeL pre.length (fl Q) (fl ((P0.drop k).take j)) pre post 0 (by rw[h2,hn]) (by omega)
  rw[hv,<-Array.foldl_toList,Array.toList_zipIdx]
  exact this
 rw[h1]at hfold
 rw[Instr.fill]
 simp only[hp]
 rw[if_neg (by rw[hv];simp;omega)]
 exact congrArg (fun c=>Instr.fill place c rest) hfold
def vo0:Vo:=⟨false,u0,r0⟩
theorem stVo:StrT Tryz.prog 85 [(0,1),(1,1),(2,32)] (voP vo0) [1,1,32]:=AbB Tryz.underlying85 (by kernel_rfl) (by kernel_rfl) (AdP _)
theorem AlA(ep:U)(r:Rt):Tryz.prog.built 85 [(0,.bool true),(1,.int .u64 (ep.n:Int)),(2,.agg (rc r).toArray)]=some (vox ⟨true,ep,r⟩).toArray:=by
 rw[stVo.eq]
 refine AaJ (Q:=[[.bool true]]) stVo.len rfl rfl rfl rfl rfl fun hl=>?_
 refine AaJ (Q:=[[.int .u64 (ep.n:Int)]]) hl rfl rfl rfl rfl rfl fun hl=>?_
 refine AaJ (Q:=[rc r]) hl rfl rfl rfl (lenR r) rfl fun hl=>?_
 rfl
section
variable {Γ0 Γ:Gam}{w0 w:World}{L:List Ent}{R:List RowE}{Pg:Program}{ops:Array Oper}{rest:List Oper}{op:Oper}{a:Act}{Q:Exit->Act->World->Prop}
theorem MM.putR{i g o:Nat}{P P':List (List Value)}{ls:List Nat}{pre old post cs:List Value}(M:MM Γ0 w0 Γ w L R)(hi:L[i]? = some ⟨g,P,ls⟩)(h1:fl P=pre++old++post)(ho:pre.length=o)(h2:old.length=cs.length)(hP:fl P'=pre++cs++post)(hl:P'.map List.length=ls) :
  w.there g o cs.length/\MM Γ0 w0 Γ (w.setCells g o cs) (L.set i ⟨g,P',ls⟩) R:=by
 have hh:=M.has _ (List.mem_of_getElem? hi)
 simp only at hh
 rw[h1]at hh
 obtain⟨q1,q2,q3⟩:=Acn g cs _ pre post w h2 hh
 rw[ho]at q1 q2 q3
 refine⟨fun t ht=>?_,M.write hi q2 (by rw[hP];exact q1) hl⟩
 rw[hh.cell,hh.frozen,<-ho,List.append_assoc,List.getElem?_append_right (by omega),Nat.add_sub_cancel_left,List.getElem?_append_left (by omega),List.getElem?_eq_getElem (by omega)]
 exact⟨rfl,rfl⟩
theorem AjH{g o n:Nat}{P:List (List Value)}{ls:List Nat}(M:MM Γ0 w0 Γ w L R)(i:Nat)(cs:List Value)(P':List (List Value)){pre old post:List Value}(h1:fl P=pre++old++post)(hpo:pre.length=o)(h2:old.length=cs.length)(hP:fl P'=pre++cs++post)(hl:P'.map List.length=ls)(hcn:cs.length=n)(h1c:One cs)
  {opsA:Array Oper} {ts:Array Value} {K:Act->World->Prop} {E:Prop} (hi:L[i]? = some ⟨g,P,ls⟩) {ty:TypeId} {x y:Operand} (ho:op.op=.store ty x y) (hx:a.eval x=.pointer (some ⟨g,o,none⟩))
  (hy:a.eval y=.agg cs.toArray) (rt:RowT Pg ty n) (hw:Region.wanted op (yielded opsA ts)=true)
  (h:∀w',MM Γ0 w0 Γ w' (L.set i ⟨g,P',ls⟩) R->K (a.put op.dst undef) w'):if Region.wanted op (yielded opsA ts)=true then op.wp Pg a w K Q else E:=by
 rw[if_pos hw]
 obtain⟨d,hu,hd⟩:=rt.ex
 obtain⟨q1,q3⟩:=M.putR hi h1 hpo h2 hP hl
 exact wp_store_mid ty x y ho g o cs.toArray hx hy (by simpa using q1) (by rw[List.size_toArray,hcn];exact AbZ hu rt.n) (all_oneCell_toArray h1c) (by simpa using h _ q3)
end
theorem Akx{α:Type}{f:α->List Value}{n:Nat}{X:List α}(h:∀x,(f x).length=n){k:Nat}(hk:k<X.length)(rest:List Value) :
  X.flatMap f++rest=(X.take k).flatMap f++f X[k]++((X.drop (k+1)).flatMap f++rest)/\((X.take k).flatMap f).length=k*n:=by
 refine⟨?_,by rw[Aap (k:=n) _ (fun x _=>h x),List.length_take,Nat.min_eq_left (by omega)]⟩
 have e:X=X.take k++X[k]::X.drop (k+1):=by rw[<-List.drop_eq_getElem_cons hk,List.take_append_drop]
 refine(congrArg (fun l=>l.flatMap f++rest) e).trans ?_
 simp only[List.flatMap_append,List.flatMap_cons,List.append_assoc]
theorem Agf{α:Type}{f:α->List Value}{X:List α}{k:Nat}(hk:k<X.length)(y:α)(rest:List Value) :
  (X.set k y).flatMap f++rest=(X.take k).flatMap f++f y++((X.drop (k+1)).flatMap f++rest):=by
 rw[List.set_eq_take_append_cons_drop,if_pos hk]
 simp
theorem Ai7{w:World}{g:Nat}{pre mid post:List Value}(h:Has w g (pre++mid++post)):w.rangeAt g pre.length mid:=fun j u hu=>by
 rw[h.cell];exact AhW j u hu
def castS(ep:U)(r:Rt)(s:List Vo × Int)(y:Int):List Vo × Int:=if(s.1.getD y.toNat vo0).has=false\/(s.1.getD y.toNat vo0).e.n<ep.n then(s.1.set y.toNat ⟨true,ep,r⟩,s.2+1)else s
def castV(vs:List Vo)(ep:U)(r:Rt)(l:List Int):List Vo × Int:=l.foldl (castS ep r) (vs,0)
theorem Ajy(ep:U)(r:Rt)(s:List Vo × Int)(y:Int):(castS ep r s y).1.length=s.1.length/\s.2<=(castS ep r s y).2/\(castS ep r s y).2<=s.2+1:=by
 unfold castS;split<;>simp<;>omega
theorem Aet(vs:List Vo)(ep:U)(r:Rt)(l:List Int):(castV vs ep r l).1.length=vs.length/\0<=(castV vs ep r l).2/\(castV vs ep r l).2<=l.length:=by
 unfold castV
 suffices h:∀(s:List Vo × Int),(l.foldl (castS ep r) s).1.length=s.1.length/\s.2<=(l.foldl (castS ep r) s).2/\(l.foldl (castS ep r) s).2<=s.2+l.length by simpa using h (vs,0)
 induction l with
 |nil=>intro s;simp
 |cons a t ih=>
  intro s
  have h1:=ih (castS ep r s a)
  have h2:=Ajy ep r s a
  simp only[List.foldl_cons,List.length_cons]
  omega
theorem AiG{vs:List Vo}(h:∀v∈vs,v.has=false->v=vo0)(ep:U)(r:Rt)(l:List Int):∀v∈(castV vs ep r l).1,v.has=false->v=vo0:=by
 unfold castV
 suffices hs:∀(s:List Vo × Int),(∀v∈s.1,v.has=false->v=vo0)->∀v∈(l.foldl (castS ep r) s).1,v.has=false->v=vo0 by exact hs (vs,0) h
 induction l with
 |nil=>intro s hs;exact hs
 |cons a t ih=>
  intro s hs
  rw[List.foldl_cons]
  refine ih _ fun v hv=>?_
  unfold castS at hv
  split at hv
  .rcases List.mem_or_eq_of_mem_set hv with hv|rfl
   .exact hs v hv
   .intro e;cases e
  .exact hs v hv
theorem elVo:ElT Tryz.prog 33 85 34 48:=AcX Tryz.underlying33 (by kernel_rfl) (by decide) (by decide)
theorem ztVo:ZeroT Tryz.prog 85 (voP vo0) [1,1,32]:=⟨fun w=>by kernel_rfl,AdP _⟩
def CastP(Γ:Gam)(w:World)(r:List Vo × Int)(e:Ending)(w':World):Prop:=∃(x:Sl) (Γ':Gam),e=.returned (.tuple #[x.v,.int .i64 r.2])/\SlR Γ' x r.1.length (r.1.flatMap vox)/\Ext Γ w Γ' w'
theorem Age(Γ:Gam)(x:Sl)(vs:List Vo)(ep:U)(r:Rt)(A:Option Addr)(c:Nat)(l:List Int)(w:World)(ok:Ok Γ w)(h:SlR Γ x vs.length (vs.flatMap vox))(h1:0<vs.length)(hb:vs.length<=65535)(hl:SlG Γ A l.length (ints .i64 l))(hlb:l.length<=65535)(hmem:∀y∈l,0<=y/\y<(vs.length:Int)) :
  Calls Tryz.prog 170 #[x.v,.int .u64 (ep.n:Int),.agg (rc r).toArray,.slice A l.length c] w (CastP Γ w (castV vs ep r l)):=by
 have M:=bx (MM.start ok)
 have LN:=bx h.n
 have HB:=bx hb
 have HLB:=bx hlb
 have HMEM:=bx hmem
 have HS:=bx hl
 have H1:=bx h1
 have hxb:x.n<=65535:=by rw[h.n];exact hb
 have ROW:Bx (∀w',Ok Γ w'->Row w' w'.heap.size 34 x.A x.n (vs.flatMap vox)):=⟨fun w' o=>h.sl.row (size:=34) (by rw[Aap vs (fun x _=>Acj x),h.n]) o⟩
 have OneN:Bx (One (vs.flatMap vox)):=⟨Ab4 fun x _=>AfD x⟩
 have CAP:=bx h.cap.nil
 have CT:Bx (∀k (hk:k<l.length),castV vs ep r (l.take (k+1))=castS ep r (castV vs ep r (l.take k)) l[k]):=⟨fun k hk=>Abh (castS ep r) (vs,0) hk⟩
 have CL:Bx (∀k,(castV vs ep r (l.take k)).1.length=vs.length/\0<=(castV vs ep r (l.take k)).2/\(castV vs ep r (l.take k)).2<=65535):=⟨fun k=>by
  have:=Aet vs ep r (l.take k)
  have h2:(l.take k).length<=l.length:=by rw[List.length_take];omega
  omega⟩
 have BV:=bx (AlA ep r)
 clear ok h hb hl hlb h1 hmem
 change Calls Tryz.prog _ #[_,_,.agg (fl [rc r]).toArray,_] _ _
 go_enter Tryz.func170,Tryz.ntmps170
 (go_wp2_with (first|(at_builtin;(with_reducible apply Aa8 (M.out.row0 85 34) elVo (ROW.out _ M.ok) CAP.out);exact OneN.out;(unfold maxLen;omega);omega;rfl;rfl;rfl;rfl;intro A' c' w' M';(simp only[Nat.zero_add,List.nil_append]at M');(replace M:=bx M';clear M'))|(refine zBXo ?_;clear M;intro w' g M)))
 have hx1:0<x.n:=by rw[LN.out];exact H1.out
 obtain⟨gr,rest,rfl,hcap,M'⟩:=M.out.rowL hx1
 (replace M:=bx M';clear M')
 have HCAP:=bx hcap
 clear hcap ROW OneN CAP
 have hkl:l.length<=65535:=HLB.out
 (go_wp2_with (fail))
 go_loopw [11,12] (fun m j wr=>∃(k:Nat),k<=l.length/\j=.int .i64 k/\m=.int .i64 (castV vs ep r (l.take k)).2/\MM Γ w Γ wr [⟨gr,[(castV vs ep r (l.take k)).1.flatMap vox,rest],[(vs.flatMap vox).length,rest.length]⟩,⟨g,[rc r],[32]⟩] []) (fun _ j _=>l.length-(intOf j).toNat)
 case atStart=>exact⟨0,Nat.zero_le _,rfl,rfl,M.out⟩
 case round=>
  obtain⟨k,hk,rfl,rfl,hM⟩:=hrel
  clear M
  have M:=bx hM
  clear hM
  obtain⟨l1,l2,l3⟩:=CL.out k
  by_cases hkn:k<l.length
  .obtain⟨gk,rfl,hf⟩:=Aef HS.out k hkn
   have F1:=bx hf
   obtain⟨m1,m2⟩:=HMEM.out _ (List.getElem_mem hkn)
   have CT':=bx (CT.out k hkn)
   clear hf
   generalize l[k]=z at *
   obtain⟨y,rfl⟩:∃y:Nat,z=(y:Int):=⟨z.toNat,by omega⟩
   generalize hvk:castV vs ep r (l.take k)=vk at *
   have hy:y<vk.1.length:=by omega
   obtain⟨q1,q2⟩:=Akx (f:=vox) Acj hy rest
   have Q1:Bx (fl [vk.1.flatMap vox,rest]=(vk.1.take y).flatMap vox++vox vk.1[y]++((vk.1.drop (y+1)).flatMap vox++rest)):=⟨q1⟩
   have Q2:Bx (fl [(vk.1.set y ⟨true,ep,r⟩).flatMap vox,rest]=(vk.1.take y).flatMap vox++vox ⟨true,ep,r⟩++((vk.1.drop (y+1)).flatMap vox++rest)):=⟨Agf hy _ rest⟩
   have Q3:=bx q2
   have RG:Bx (wr.rangeAt gr (y*34) (fl (voP vk.1[y]))/\(fl (voP vk.1[y])).length=34):=⟨by
    have:=M.out.at0.has
    rw[Q1.out]at this
    have:=Ai7 this
    rw[q2]at this
    exact this,Acj _⟩
   have FL:Bx (([(vk.1.set y ⟨true,ep,r⟩).flatMap vox,rest]:List (List Value)).map List.length = [(vs.flatMap vox).length,rest.length]):=⟨by
    simp only[List.map_cons,List.map_nil,Aap (f:=vox) _ (fun x _=>Acj x),List.length_set,l1]⟩
   have CS:Bx (castS ep r vk (y:Int)=if vk.1[y].has=false\/vk.1[y].e.n<ep.n then(vk.1.set y ⟨true,ep,r⟩,vk.2+1)else vk):=⟨by unfold castS;simp only[Int.toNat_natCast,List.getD,List.getElem?_eq_getElem hy,Option.getD_some]⟩
   have hki:(k:Int)<(l.length:Int):=by omega
   have hk0:0<=(k:Int):=by omega
   have hyi:(y:Int)<(x.n:Int):=by rw[LN.out];omega
   have hy0:0<=(y:Int):=by omega
   clear q1 q2 CT CL
   generalize vk.1[y]=z at *
   obtain⟨zh,ze,zr⟩:=z
   have hk65:k<=65535:=by omega
   cases zh
   .have CS':=bx (CS.out.trans (if_pos (.inl rfl)))
    clear CS
    (go_wp2_with (first|refine zRFo F1 ?_|(refine zALo (ztVo) ?_;clear M;intro w' g M)|((with_reducible refine Aa7 rfl rfl rfl rtVo RG.out ?_))|(refine zSSo M 0 (voP ⟨false,ze,zr⟩) (voP ⟨false,ze,zr⟩) (AdP _) (AfD _) ?_;clear M;intro w' M)|refine zLAo ?_))
    refine AaE [9] (.steps [(1,0),(1,1),(1,2),(1,3),(0,4),(1,5),(0,6),(1,7),(1,8),(3,9)] .leaf) (by kernel_rfl) (by kernel_rfl) ?_;(simp only[MixT6,MT.steps,stepAt,List.getD_cons_zero,List.getD_cons_succ]);replace M:=bx (M.out.drew)
    (repeat(first|refine zM0 ?_|(go_big_quiet_want;first|(refine zQFo F1 ?_;go_big_quiet_on;refine zNM ?_)|((with_reducible refine AaC 85 _ rfl [(0,.bool true),(1,.int .u64 (ep.n:Int)),(2,.agg (rc r).toArray)] (vox ⟨true,ep,r⟩) ?_ BV.out ?_);rfl;go_big_quiet_on;refine zNM ?_)|(refine zQAo ?_;go_big_quiet_on;refine zNM ?_)|(refine zQO ?_;go_big_quiet_on))))
    refine AjH M.out 1 (vox ⟨true,ep,r⟩) [(vk.1.set y ⟨true,ep,r⟩).flatMap vox,rest] Q1.out Q3.out (by rw[Acj,Acj]) Q2.out FL.out (Acj _) (AfD _) rfl rfl rfl rfl rtVo rfl ?_
    intro w7 M'
    simp only[List.set_cons_zero,List.set_cons_succ]at M'
    (replace M:=bx M';clear M')
    refine zNM ?_
    refine NoPanic.normal ?_
    (go_wp2_with (fail))
    go_roundw
    case rel=>exact⟨k+1,by omega,by go_num,by rw[CT'.out,CS'.out],by rw[CT'.out,CS'.out];exact M.out.tail⟩
    case measure=>simp[intOf]<;>omega
   .by_cases hz:ze.n<ep.n
    .have CS':=bx (CS.out.trans (if_pos (.inr hz)))
     clear CS
     (go_wp2_with (first|refine zRFo F1 ?_|(refine zALo (ztVo) ?_;clear M;intro w' g M)|((with_reducible refine Aa7 rfl rfl rfl rtVo RG.out ?_))|(refine zSSo M 0 (voP ⟨true,ze,zr⟩) (voP ⟨true,ze,zr⟩) (AdP _) (AfD _) ?_;clear M;intro w' M)|refine zLAo ?_))
     refine AaE [9] (.steps [(1,0),(1,1),(1,2),(1,3),(0,4),(1,5),(0,6),(1,7),(1,8),(3,9)] .leaf) (by kernel_rfl) (by kernel_rfl) ?_;(simp only[MixT6,MT.steps,stepAt,List.getD_cons_zero,List.getD_cons_succ]);replace M:=bx (M.out.drew)
     (repeat(first|refine zM0 ?_|(go_big_quiet_want;first|(refine zQFo F1 ?_;go_big_quiet_on;refine zNM ?_)|((with_reducible refine AaC 85 _ rfl [(0,.bool true),(1,.int .u64 (ep.n:Int)),(2,.agg (rc r).toArray)] (vox ⟨true,ep,r⟩) ?_ BV.out ?_);rfl;go_big_quiet_on;refine zNM ?_)|(refine zQAo ?_;go_big_quiet_on;refine zNM ?_)|(refine zQO ?_;go_big_quiet_on))))
     refine AjH M.out 1 (vox ⟨true,ep,r⟩) [(vk.1.set y ⟨true,ep,r⟩).flatMap vox,rest] Q1.out Q3.out (by rw[Acj,Acj]) Q2.out FL.out (Acj _) (AfD _) rfl rfl rfl rfl rtVo rfl ?_
     intro w7 M'
     simp only[List.set_cons_zero,List.set_cons_succ]at M'
     (replace M:=bx M';clear M')
     refine zNM ?_
     refine NoPanic.normal ?_
     (go_wp2_with (fail))
     go_roundw
     case rel=>exact⟨k+1,by omega,by go_num,by rw[CT'.out,CS'.out],by rw[CT'.out,CS'.out];exact M.out.tail⟩
     case measure=>simp[intOf]<;>omega
    .have CS':=bx (CS.out.trans (if_neg (by simp[hz])))
     clear CS
     (go_wp2_with (first|refine zRFo F1 ?_|(refine zALo (ztVo) ?_;clear M;intro w' g M)|((with_reducible refine Aa7 rfl rfl rfl rtVo RG.out ?_))|(refine zSSo M 0 (voP ⟨true,ze,zr⟩) (voP ⟨true,ze,zr⟩) (AdP _) (AfD _) ?_;clear M;intro w' M)|refine zLAo ?_))
     go_roundw
     case rel=>exact⟨k+1,by omega,by go_num,by rw[CT'.out,CS'.out],by rw[CT'.out,CS'.out];exact M.out.tail⟩
     case measure=>simp[intOf]<;>omega
  .have hki:(l.length:Int)<=(k:Int):=by omega
   have e:castV vs ep r (l.take k)=castV vs ep r l:=by rw[List.take_of_length_le (by omega)]
   rw[e]at M l1 l2 l3 |-
   clear e CT CL
   generalize castV vs ep r l=res at *
   (go_wp2_with (fail))
   go_ret2
   obtain⟨Γ',h1,h2,h3⟩:=M.out.frzL
   exact⟨⟨some ⟨gr,0,none⟩,x.n,c'⟩,Γ',rfl,⟨by show x.n=res.1.length;rw[l1,LN.out],HCAP.out,fun _=>⟨gr,rest,rfl,h1⟩⟩,h3.ext⟩
open Go.RowKit Go.Proofs.YtmgeheaneohldaaGreat.Old
def StP(Γ:Gam)(w:World)(s:Sto)(e:Ending)(w':World):Prop:=∃(v:Sls) (Γ':Gam),e=.returned (.agg (fl (stP s v)).toArray)/\StG Γ' v s/\Ext Γ w Γ' w'
theorem StP.mk{Γ Γ':Gam}{w w':World}{s:Sto}(v:Sls)(h:StG Γ' v s)(hx:Ext Γ w Γ' w'):StP Γ w s (.returned (.agg (fl (stP s v)).toArray)) w':=⟨v,Γ',rfl,h,hx⟩
def StE(Γ:Gam)(w:World)(er:Int)(s:Sto)(e:Ending)(w':World):Prop:=∃(v:Sls) (Γ':Gam),e=.returned (.tuple #[.agg (fl (stP s v)).toArray,.int .i64 er])/\StG Γ' v s/\Ext Γ w Γ' w'
theorem StE.mk{Γ Γ':Gam}{w w':World}{er:Int}{s:Sto}(v:Sls)(h:StG Γ' v s)(hx:Ext Γ w Γ' w'):StE Γ w er s (.returned (.tuple #[.agg (fl (stP s v)).toArray,.int .i64 er])) w':=⟨v,Γ',rfl,h,hx⟩
theorem stG0(Γ:Gam):StG Γ x0 st0:=⟨slR0 Γ,slR0 Γ,slR0 Γ,⟨[],rfl,fun _ h=>absurd h (by simp),slR0 Γ⟩,slR0 Γ,slR0 Γ,⟨⟨Nat.le_refl _,Nat.zero_le _,fun _=>rfl⟩,rfl,[],All2.nil,fun h=>absurd h (Nat.lt_irrefl _)⟩⟩
theorem StE.err{Γ Γ':Gam}{w w':World}{er:Int}(hx:Ext Γ w Γ' w'):StE Γ w er st0 (.returned (.tuple #[.agg (fl (stP st0 x0)).toArray,.int .i64 er])) w':=StE.mk x0 (stG0 _) hx
def Sto.balj(s:Sto):List U:=((s.tabs.find? fun t=>decide (t.c=s.just)).map (·.b)).getD []
theorem AmR{s:Sto}(h:idxI (fun t=>decide (t.c=s.just)) s.tabs = -1):s.balj = []:=by
 rcases Aa2 (fun t=>decide (t.c=s.just)) s.tabs with⟨_,h2⟩|⟨k,hk,h1,_⟩
 .unfold Sto.balj;rw[List.find?_eq_none.2 fun x hx=>by simpa using h2 x hx];rfl
 .omega
theorem AiL{s:Sto}{k:Nat}(hk:k<s.tabs.length)(h:idxI (fun t=>decide (t.c=s.just)) s.tabs=(k:Int)):s.balj=s.tabs[k].b:=by
 rcases Aa2 (fun t=>decide (t.c=s.just)) s.tabs with⟨h1,_⟩|⟨j,hj,h1,h2,h3⟩
 .omega
 .obtain rfl:j=k:=by omega
  have:s.tabs.find? (fun t=>decide (t.c=s.just))=some s.tabs[j]:=List.find?_eq_some_iff_getElem.2 ⟨h2,j,hj,rfl,fun i hi=>by simpa using h3 i hi⟩
  unfold Sto.balj;rw[this];rfl
def BalP(Γ:Gam)(w:World)(l:List U)(e:Ending)(w':World):Prop:=∃(A:Option Addr) (c:Nat),e=.returned (.slice A l.length c)/\CapOk A l.length c/\SlG Γ A l.length (us l)/\Ext Γ w Γ w'
theorem Agv(Γ:Gam)(s:Sto)(v:Sls)(w:World)(ok:Ok Γ w)(h:StG Γ v s)(hb:s.tabs.length<=65535) :
  Calls Tryz.prog 38 #[.agg (fl (stP s v)).toArray] w (BalP Γ w s.balj):=by
 have M:=bx (MM.start ok)
 have LN:=bx h.tabs.2.1
 have FT:Bx (∀w,Ok Γ w->Calls Tryz.prog 64 #[v.tabs.v,.agg (fl (cpP s.just)).toArray] w fun e w'=>e=.returned (.int .i64 (idxI (fun t=>decide (t.c=s.just)) s.tabs))/\Ext Γ w Γ w'):=⟨fun w ok=>Aak Γ v.tabs.A v.tabs.n v.tabs.c s.tabs s.just (by rw[<-h.tabs.2.1];exact hb) w ok h.tabs.2⟩
 have HT:=bx h.tabs.2
 have NO:=bx (fun e=>AmR (s:=s) e)
 have YS:=bx (fun k hk e=>AiL (s:=s) (k:=k) hk e)
 clear ok
 rcases Aa2 (fun t=>decide (t.c=s.just)) s.tabs with⟨h1,_⟩|⟨k,hk,h1,_⟩
 .rw[h1]at FT
  have HB:=bx (NO.out h1)
  clear NO YS h1
  go_enter Tryz.func38,Tryz.ntmps38
  (go_wp2_with (first|(refine zBXo ?_;clear M;intro w' g M)|refine zLAo ?_))
  refine zCA M (FT.out _ M.ok) ?_;clear M;intro w1 M
  (go_wp2_with (fail))
  go_ret
  rw[HB.out]
  exact⟨none,0,rfl,⟨Nat.le_refl _,Nat.zero_le _,fun _=>rfl⟩,fun h=>absurd h (Nat.lt_irrefl _),M.out.ext⟩
 .have HB:=bx (YS.out k hk h1)
  rw[h1]at FT
  obtain⟨g,sv,hA,ht,hc⟩:=HT.out.at k (by rw[<-LN.out];exact hk)
  obtain⟨A2,c2,e2,hc2,hs2⟩:=ht.s
  simp only at e2
  subst e2
  have HA:Bx (v.tabs.v=.slice (some ⟨g,0,none⟩) v.tabs.n v.tabs.c):=⟨by rw[<-hA]⟩
  have F1:Bx (Fz Γ g (k*34) (tbP s.tabs[k].c (.slice A2 s.tabs[k].b.length c2)) [1,32,1]):=⟨hc,Aaf _ _⟩
  have hki:(k:Int)<(v.tabs.n:Int):=by rw[<-LN.out];omega
  have hk0:0<=(k:Int):=by omega
  have H2:=bx hc2
  have H3:=bx hs2
  clear NO YS h1 ht hc hA hc2 hs2
  rw[HB.out]
  generalize s.tabs[k]=t at *
  go_enter Tryz.func38,Tryz.ntmps38
  (go_wp2_with (first|(refine zBXo ?_;clear M;intro w' g M)|refine zLAo ?_))
  refine zCA M (FT.out _ M.ok) ?_;clear M;intro w1 M
  (go_wp2_with (first|refine zLHo HA ?_|refine zRFo F1 ?_))
  go_ret
  exact⟨A2,c2,rfl,H2.out,H3.out,M.out.ext⟩
theorem Aih(Γ:Gam)(s:Sto)(v:Sls)(a:Att)(x:Sl)(w:World)(ok:Ok Γ w)(h:StG Γ v s)(ha:AtG Γ a x)(h1:0<s.lat.length)(hb:s.lat.length<=65535)(hb2:a.l.length<=65535)(hm:∀y∈a.l,0<=y/\y<(s.lat.length:Int)) :
  Calls Tryz.prog 141 #[.agg (fl (stP s v)).toArray,.agg (fl (atP a x)).toArray] w (StP Γ w {s with lat:=(castV s.lat a.t.e a.r a.l).1}):=by
 have M:=bx (MM.start ok)
 have HG:=bx h
 have CV:Bx (∀w,Ok Γ w->Calls Tryz.prog 170 #[v.lat.v,.int .u64 (a.t.e.n:Int),.agg (rc a.r).toArray,x.v] w (CastP Γ w (castV s.lat a.t.e a.r a.l))):=⟨fun w ok=>by
  have hs:=ha.sl
  rw[ha.n]at hs
  have:=Age Γ v.lat s.lat a.t.e a.r x.A x.c a.l w ok h.lat h1 hb hs hb2 hm
  rwa [<-ha.n]at this⟩
 clear ok h ha h1 hb hb2 hm
 generalize castV s.lat a.t.e a.r a.l=r at *
 obtain⟨r1,r2⟩:=r
 go_enter Tryz.func141,Tryz.ntmps141
 (go_wp2_with (first|(refine zBXo ?_;clear M;intro w' g M)|refine zLAo ?_|(refine zALo (ztSt) ?_;clear M;intro w' g M)))
 refine(CV.out _ M.ok).mono ?_
 rintro e1 w1 ⟨x1,Γ1,rfl,hl1,hx1⟩
 replace M:=bx (M.out.call hx1)
 have HG':=bx (HG.out.mono hx1.le)
 have HL:=bx hl1
 clear hl1 hx1
 (go_wp2_with (first|refine zLAo ?_|(refine zS1o M 2 (x1.v) (stP {s with lat:=r1} {v with lat:=x1}) ?_;clear M;intro w' M)|(refine zSSo M 0 (stP {s with lat:=r1} {v with lat:=x1}) (stP {s with lat:=r1} {v with lat:=x1}) (AaD _ _) (Aac _ _) ?_;clear M;intro w' M)))
 refine zR M.out.at0 ?_
 exact StP.mk _ {HG'.out with lat:=HL.out} M.out.ext
theorem MM.rswap{Γ0 Γ:Gam}{w0 w:World}{L:List Ent}{R:List RowE}{a b:RowE}(M:MM Γ0 w0 Γ w L (a::b::R)):MM Γ0 w0 Γ w L (b::a::R):=by
 have hsym:∀{r s:RowE},(∀g,r.v.ownBlock=some g->s.v.ownBlock≠some g)->∀g,s.v.ownBlock=some g->r.v.ownBlock≠some g:=fun h g e1 e2=>h g e2 e1
 obtain⟨h1,h2⟩:=List.pairwise_cons.1 M.rnd
 obtain⟨h3,h4⟩:=List.pairwise_cons.1 h2
 refine⟨M.ext,M.has,M.len,M.off,M.lo,M.nd,fun r hr=>M.rows r ?_,fun r hr=>M.roff r ?_,List.pairwise_cons.2 ⟨fun s hs=>?_,List.pairwise_cons.2 ⟨fun s hs=>h1 s (List.mem_cons_of_mem _ hs),h4⟩⟩⟩
 .simp only[List.mem_cons]at hr |-;exact hr.elim (fun h=>.inr (.inl h)) fun h=>h.elim .inl fun h=>.inr (.inr h)
 .simp only[List.mem_cons]at hr |-;exact hr.elim (fun h=>.inr (.inl h)) fun h=>h.elim .inl fun h=>.inr (.inr h)
 .rcases List.mem_cons.1 hs with rfl|hs
  .exact hsym (h1 b (List.mem_cons_self ..))
  .exact h3 s hs
theorem MM.rowAt{Γ0 Γ:Gam}{w0 w:World}{L:List Ent}{R:List RowE}{A:Option Addr}{c n:Nat}{e:TypeId}{xs:List Value}(M:MM Γ0 w0 Γ w L (⟨.slice A n c,e,1,n,xs⟩::R)){j:Nat}(hj:j<n):∃g v,A=some ⟨g,0,none⟩/\xs[j]? = some v/\w.cell? ⟨g,j,none⟩=some v:=by
 have hr:=M.rows _ (List.mem_cons_self ..)
 obtain⟨g,c',post,h1,h2,h3⟩:=own_block hr (by simp only;omega)
 simp only at h1 h3
 injection h1 with h1
 have hl:xs.length=n:=by have:=hr.1;simpa using this
 refine⟨g,xs[j]'(by omega),h1,List.getElem?_eq_getElem (by omega),?_⟩
 rw[h3.cell,List.getElem?_append_left (by omega),List.getElem?_eq_getElem (by omega)]
theorem MM.cellR{Γ0 Γ:Gam}{w0 w:World}{L:List Ent}{R:List RowE}{g c n:Nat}{e:TypeId}{xs:List Value}(M:MM Γ0 w0 Γ w L (⟨.slice (some ⟨g,0,none⟩) n c,e,1,n,xs⟩::R)){j:Nat}{v:Value}(hv:xs[j]? = some v):w.cell? ⟨g,j,none⟩=some v:=by
 have hr:=M.rows _ (List.mem_cons_self ..)
 have hl:xs.length=n:=by have:=hr.1;simpa using this
 have hj:=(List.getElem?_eq_some_iff.1 hv).1
 obtain⟨g',v',h1,h2,h3⟩:=M.rowAt (j:=j) (by omega)
 injection h1 with h1
 injection h1 with h1
 subst h1
 rw[hv]at h2
 rw[h3,<-h2]
theorem Aa0{Pg:Program}{w:World}{fn:Func}{p q r:Tmp}{ty:TypeId}(h:fn.results = #[.cell p ty,.tmp q,.tmp r])(tmps:Array Value){g n:Nat}{P:List (List Value)}{ls:List Nat}(H:HL w g P ls)(hp:tmps.getD p undef=.pointer (some ⟨g,0,none⟩))(rt:RowT Pg ty n)(hn:ls.sum=n) :
  (results fn tmps).run Pg w=.ok (.tuple #[.agg (fl P).toArray,tmps.getD q undef,tmps.getD r undef]) w:=by
 obtain⟨d,hu,hd⟩:=rt.ex
 have hp':tmps[p]?.getD undef=.pointer (some ⟨g,0,none⟩):=by simpa using hp
 have:=Abv (P:=Pg) (g:=g) H.has hu (by cases d<;>first|rfl|cases hd) (by rw[rt.n,AbA H.len,hn])
 simp[results,h,hp',asAddr,this]
def prS(N:List Nod)(i:Nat)(s:List Nod × List Int)(k:Nat):List Nod × List Int:=
 if ancI N i k=true then(s.1 ++ [{N.getD k n0 with up:=if k=i then -1 else s.2.getD (N.getD k n0).up.toNat (-1)}],s.2 ++ [(s.1.length:Int)])else(s.1,s.2 ++ [-1])
def prTo(N:List Nod)(i k:Nat):List Nod × List Int:=(List.range k).foldl (prS N i) ([],[])
def pruneN(N:List Nod)(i:Nat):List Nod:=(prTo N i N.length).1
theorem AeX(N:List Nod)(i k:Nat):prTo N i (k+1)=prS N i (prTo N i k) k:=by unfold prTo;rw[List.range_succ,List.foldl_append];rfl
theorem Ahq(N:List Nod)(i k:Nat):(prTo N i k).1.length<=k/\(prTo N i k).2.length=k:=by
 induction k with
 |zero=>simp[prTo]
 |succ k ih=>
  rw[AeX]
  unfold prS
  split<;>simp<;>omega
theorem AnU{N:List Nod}(h:Lk (upsN N)){i k:Nat}(hk:k<N.length)(ha:ancI N i k=true)(hne:k≠i):0<=N[k].up/\N[k].up<(k:Int):=by
 rcases h k (by rw[Acd];exact hk)with⟨h1,h2⟩|⟨u,h1,h2⟩
 .subst h1
  unfold ancI pathI at ha
  rw[if_pos (AcB (by omega) (by omega))]at ha
  simp only[Int.toNat_natCast]at ha
  have e:pathN (upsN N) 0 = [0]:=rfl
  simp[e]at ha
  omega
 .rw[Ac4 hk]at h2;omega
def PruP(Γ:Gam)(w:World)(P:List Nod)(e:Ending)(w':World):Prop:=∃(x:Sl) (v:Value) (Γ':Gam),e=.returned (.tuple #[.agg [x.v].toArray,v,.int .i64 0])/\NG Γ' x P/\Ext Γ w Γ' w'
theorem AjC(Γ:Gam)(x:Sl)(N:List Nod)(i:Nat)(w:World)(ok:Ok Γ w)(h:NG Γ x N)(hk:Lk (upsN N))(hi:i<N.length)(hb:N.length<=4096) :
  Calls Tryz.prog 168 #[.agg [x.v].toArray,.int .i64 (i:Int)] w (PruP Γ w (pruneN N i)):=by
 have M:=bx (MM.start ok)
 have HG:=bx h
 have LN:=bx h.n
 have IS:Bx (∀Γ w,Ok Γ w->Calls Tryz.prog 61 #[.agg [x.v].toArray,.int .i64 (i:Int)] w fun e w'=>e=.returned (.bool true)/\Ext Γ w Γ w'):=⟨fun Γ w ok=>by
  have:=Ac9 Γ x i w ok
  rwa [h.n,AcB (by omega) (by omega)]at this⟩
 have AN:=bx (fun(k:Nat) w ok=>AbU Γ x N (i:Int) (k:Int) w ok h hk hb)
 have PS:=bx (AeX N i)
 have PL:=bx (Ahq N i)
 have UP:=bx (fun(k:Nat) (h:k<N.length)=>AnU hk h (i:=i))
 have HB:=bx hb
 have HPN:Bx (pruneN N i=(prTo N i N.length).1):=⟨rfl⟩
 clear ok h hk hb
 generalize pruneN N i=res at *
 change Calls Tryz.prog _ #[.agg (fl [[x.v]]).toArray,_] _ _
 go_enter Tryz.func168,Tryz.ntmps168
 go_wp2_with (first|(refine zBXo ?_;clear M;intro w' g M)|(refine zALo (Aaj) ?_;clear M;intro w' g M)|refine zLAo ?_)
 refine zCA M (IS.out _ _ M.ok) ?_;clear M;intro w1 M
 go_wp2_with (refine zALo (Aaj) ?_;clear M;intro w' g M)
 rename_i gt _ gres _ _
 go_loopw [8,9] (fun o j wr=>∃(k:Nat) (A1 A2:Option Addr) (c1 c2:Nat),k<=N.length/\j=.int .i64 k/\o=.slice A1 k c1/\MM Γ w Γ wr [⟨g,[[.slice A2 (prTo N i k).1.length c2]],[1]⟩,⟨gres,[[.slice none 0 0]],[1]⟩,⟨gt,[[x.v]],[1]⟩] [⟨.slice A1 k c1,3,1,k,ints .i64 (prTo N i k).2⟩,⟨.slice A2 (prTo N i k).1.length c2,67,240,(prTo N i k).1.length,(prTo N i k).1.flatMap nox⟩]) (fun _ j _=>N.length-(intOf j).toNat)
 case atStart=>exact⟨0,none,none,0,0,Nat.zero_le _,rfl,rfl,(M.out.row0 _ _).row0 _ _⟩
 case round=>
  obtain⟨k,A1,A2,c1,c2,hk,rfl,rfl,hM⟩:=hrel
  clear M
  have M:=bx hM
  clear hM
  obtain⟨pl1,pl2⟩:=PL.out k
  have hb:=HB.out
  by_cases hkn:k<N.length
  .obtain⟨gn,hA,hf⟩:=HG.out.fz (f:=noP) AaO rfl k hkn
   have HA:=bx hA
   have F1:=bx hf
   have PS':=bx (PS.out k)
   have UP':=bx (UP.out k hkn)
   have AN':=bx (AN.out k)
   have ND:Bx (N.getD k n0=N[k]):=⟨nget hkn⟩
   have hki:(k:Int)<(x.n:Int):=by rw[LN.out];omega
   have hk0:0<=(k:Int):=by omega
   have hk5:k<4096:=by omega
   clear hA hf PS UP AN PL
   unfold prS at PS'
   rw[ND.out]at PS'
   generalize prTo N i k=s at *
   generalize hpk:prTo N i (k+1)=s' at *
   generalize N[k]=y at *
   cases ha:ancI N i k with
   |false=>
    rw[ha]at AN' PS'
    have P1:Bx (s'=(s.1,s.2 ++ [-1])):=⟨PS'.out.trans (by simp)⟩
    clear PS' ha UP'
    go_wp2_with (refine zLAo ?_)
    refine zCA M (AN'.out _ M.ok) ?_;clear M;intro w1 M
    go_wp2_with (first|((with_reducible apply Aa6 M.out AbP);rfl;rfl;rfl;rfl;intro w' g M' hb';(replace M:=bx M';clear M');clear hb')|(at_builtin;(with_reducible apply AaW M.out AbP);rfl;exact Abj _ _;(unfold maxLen;omega);omega;rfl;rfl;rfl;rfl;intro A' c' w' M';(replace M:=bx M';clear M')))
    go_roundw
    case rel=>exact⟨k+1,A',A2,c',c2,by omega,by go_num,by go_num,by rw[hpk,P1.out];have:=M.out;rw[ints_push];exact this⟩
    case measure=>simp[intOf]<;>omega
   |true=>
    rw[ha]at AN' PS'
    have PS2:Bx (s'=(s.1 ++ [{y with up:=if k=i then -1 else s.2.getD y.up.toNat (-1)}],s.2 ++ [(s.1.length:Int)])):=⟨PS'.out.trans (by simp)⟩
    clear PS'
    have UP2:=bx (UP'.out ha)
    clear UP' ha
    have hsl:s.1.length<=4096:=by omega
    by_cases hki2:k=i
    .have e1:((k:Int)==(i:Int))=true:=by simp[hki2]
     have e2:(k==i)=true:=by simp[hki2]
     have P1:Bx (s'=(s.1 ++ [{y with up:=-1}],s.2 ++ [(s.1.length:Int)])):=⟨PS2.out.trans (by rw[if_pos hki2])⟩
     clear PS2 hki2 UP2
     go_wp2_with (refine zLAo ?_)
     refine zCA M (AN'.out _ M.ok) ?_;clear M;intro w1 M
     go_wp2_with (first|refine zLHo HA ?_|refine zRFo F1 ?_|(refine zSSo M 0 (noP y) (noP y) (AaO _) (Abm _) ?_;clear M;intro w' M)|(refine zS1o M 0 (.int .i64 (-1)) (noP {y with up:=-1}) ?_;clear M;intro w' M)|((with_reducible apply Aa6 M.out AbP);rfl;rfl;rfl;rfl;intro w' g M' hb';(replace M:=bx M';clear M');clear hb')|(at_builtin;(with_reducible apply AaW M.out AbP);rfl;exact Abj _ _;(unfold maxLen;omega);omega;rfl;rfl;rfl;rfl;intro A' c' w' M';(replace M:=bx M';clear M'))|((with_reducible apply Abk M.out elNo);rfl;rfl;rfl;rfl;exact AaO _;rfl;intro w' g M' hb';(replace M:=bx M';clear M');clear hb')|(at_builtin;(with_reducible apply AaW M.out.rswap elNo);rfl;exact Abm _;(unfold maxLen;omega);omega;rfl;rfl;rfl;rfl;intro A' c' w' M';(replace M:=bx M';clear M'))|(refine zS1o M 1 (.slice A' (s.1.length+1) c') [[.slice A' (s.1.length+1) c']] ?_;clear M;intro w' M)|(refine zALo (ztNo) ?_;clear M;intro w' g M)|refine zLAo ?_)
     go_roundw
     case rel=>exact⟨k+1,_,A',_,c',by omega,by go_num,by go_num,by
      rw[hpk,P1.out]
      have M1:=M.out.tail.rswap
      simp only[ints_push,List.flatMap_append,List.flatMap_cons,List.flatMap_nil,List.append_nil,List.length_append,List.length_cons,List.length_nil,Nat.zero_add]
      exact M1⟩
     case measure=>simp[intOf]<;>omega
    .have e1:((k:Int)==(i:Int))=false:=beq_eq_false_iff_ne.2 (by omega)
     obtain⟨yb,yup,yst⟩:=y
     obtain⟨u1,u2⟩:=UP2.out hki2
     simp only at u1 u2 PS2
     obtain⟨yu,rfl⟩:∃n:Nat,yup=(n:Int):=⟨yup.toNat,by omega⟩
     simp only[Int.toNat_natCast]at PS2
     obtain⟨g1,uv,rfl,hx,hc⟩:=M.out.rowAt (j:=yu) (by omega)
     have hxu:s.2[yu]? = some (s.2.getD yu (-1)):=by
      have:yu<s.2.length:=by omega
      simp[List.getD,List.getElem?_eq_getElem this]
     have HX:Bx ((ints .i64 s.2)[yu]? = some (.int .i64 (s.2.getD yu (-1)))):=⟨by unfold ints;rw[List.getElem?_map,hxu];rfl⟩
     have P1:Bx (s'=(s.1 ++ [⟨yb,s.2.getD yu (-1),yst⟩],s.2 ++ [(s.1.length:Int)])):=⟨PS2.out.trans (by rw[if_neg hki2])⟩
     have hyk:(yu:Int)<(k:Int):=by omega
     have hy0:0<=(yu:Int):=by omega
     generalize s.2.getD yu (-1)=z at *
     clear PS2 hki2 UP2 hx hxu hc
     go_wp2_with (refine zLAo ?_)
     refine zCA M (AN'.out _ M.ok) ?_;clear M;intro w1 M
     go_wp2_with (first|refine zLHo HA ?_|refine zRFo F1 ?_|((with_reducible refine AbR rfl rfl rfl AhM (M.out.cellR HX.out) ?_))|(refine zSSo M 0 (noP ⟨yb,(yu:Int),yst⟩) (noP ⟨yb,(yu:Int),yst⟩) (AaO _) (Abm _) ?_;clear M;intro w' M)|(refine zS1o M 0 (.int .i64 z) (noP ⟨yb,z,yst⟩) ?_;clear M;intro w' M)|((with_reducible apply Aa6 M.out AbP);rfl;rfl;rfl;rfl;intro w' g M' hb';(replace M:=bx M';clear M');clear hb')|(at_builtin;(with_reducible apply AaW M.out AbP);rfl;exact Abj _ _;(unfold maxLen;omega);omega;rfl;rfl;rfl;rfl;intro A' c' w' M';(replace M:=bx M';clear M'))|((with_reducible apply Abk M.out elNo);rfl;rfl;rfl;rfl;exact AaO _;rfl;intro w' g M' hb';(replace M:=bx M';clear M');clear hb')|(at_builtin;(with_reducible apply AaW M.out.rswap elNo);rfl;exact Abm _;(unfold maxLen;omega);omega;rfl;rfl;rfl;rfl;intro A' c' w' M';(replace M:=bx M';clear M'))|(refine zS1o M 1 (.slice A' (s.1.length+1) c') [[.slice A' (s.1.length+1) c']] ?_;clear M;intro w' M)|(refine zALo (ztNo) ?_;clear M;intro w' g M)|refine zLAo ?_)
     go_roundw
     case rel=>exact⟨k+1,_,A',_,c',by omega,by go_num,by go_num,by
      rw[hpk,P1.out]
      have M1:=M.out.tail.rswap
      simp only[ints_push,List.flatMap_append,List.flatMap_cons,List.flatMap_nil,List.append_nil,List.length_append,List.length_cons,List.length_nil,Nat.zero_add]
      exact M1⟩
     case measure=>simp[intOf]<;>omega
  .have hki:(x.n:Int)<=(k:Int):=by rw[LN.out];omega
   obtain rfl:k=N.length:=by omega
   rw[<-HPN.out]at M
   go_wp2_with (first|(refine zSSo M 1 [[.slice A2 res.length c2]] [[.slice A2 res.length c2]] (by rfl) (Aal _ _ _) ?_;clear M;intro w' M)|refine zLAo ?_)
   obtain⟨Γ',h1,h2,h3,h4⟩:=M.out.rtail.frz
   (try refine zsm ?_);refine bodyPost_ret (Aa0 (by rfl) _ h4.at1 (by rfl) Aav rfl) rfl ?_
   exact⟨⟨A2,res.length,c2⟩,_,Γ',rfl,⟨rfl,h1,h2⟩,h4.ext⟩
end Go.Proofs.YtmgeheaneohldaaGreat
namespace Go.Proofs.YtmgeheaneohldaaGreat
open Go.RowKit
theorem MM.lswap{Γ0 Γ:Gam}{w0 w:World}{L:List Ent}{R:List RowE}{a b:Ent}(M:MM Γ0 w0 Γ w (a::b::L) R):MM Γ0 w0 Γ w (b::a::L) R:=by
 have sw:∀{p:Ent},p∈b::a::L->p∈a::b::L:=fun h=>by
  simp only[List.mem_cons]at h |-;exact h.elim (fun h=>.inr (.inl h)) fun h=>h.elim .inl fun h=>.inr (.inr h)
 obtain⟨h1,h2⟩:=List.pairwise_cons.1 M.nd
 obtain⟨h3,h4⟩:=List.pairwise_cons.1 h2
 refine⟨M.ext,fun p h=>M.has p (sw h),fun p h=>M.len p (sw h),fun p h=>M.off p (sw h),fun p h=>M.lo p (sw h),List.pairwise_cons.2 ⟨fun p hp=>?_,List.pairwise_cons.2 ⟨fun p hp=>h1 p (List.mem_cons_of_mem _ hp),h4⟩⟩,M.rows,fun r h g hg=>⟨(M.roff r h g hg).1,fun p hp=>(M.roff r h g hg).2 p (sw hp)⟩,M.rnd⟩
 rcases List.mem_cons.1 hp with rfl|hp
 .exact fun e=>h1 b (List.mem_cons_self ..) e.symm
 .exact h3 p hp
theorem Aau{Pg:Program}{w:World}{fn:Func}{p q r:Tmp}{ty ty2:TypeId}(h:fn.results = #[.cell p ty,.cell q ty2,.tmp r])(tmps:Array Value){g n g2 n2:Nat}{P P2:List (List Value)}{ls ls2:List Nat}(H:HL w g P ls)(H2:HL w g2 P2 ls2)(hp:tmps.getD p undef=.pointer (some ⟨g,0,none⟩))(hq:tmps.getD q undef=.pointer (some ⟨g2,0,none⟩))(rt:RowT Pg ty n)(rt2:RowT Pg ty2 n2)(hn:ls.sum=n)(hn2:ls2.sum=n2) :
  (results fn tmps).run Pg w=.ok (.tuple #[.agg (fl P).toArray,.agg (fl P2).toArray,tmps.getD r undef]) w:=by
 obtain⟨d,hu,hd⟩:=rt.ex
 obtain⟨d2,hu2,hd2⟩:=rt2.ex
 have hp':tmps[p]?.getD undef=.pointer (some ⟨g,0,none⟩):=by simpa using hp
 have hq':tmps[q]?.getD undef=.pointer (some ⟨g2,0,none⟩):=by simpa using hq
 have h1:=Abv (P:=Pg) (g:=g) H.has hu (by cases d<;>first|rfl|cases hd) (by rw[rt.n,AbA H.len,hn])
 have h2:=Abv (P:=Pg) (g:=g2) H2.has hu2 (by cases d2<;>first|rfl|cases hd2) (by rw[rt2.n,AbA H2.len,hn2])
 simp[results,h,hp',hq',asAddr,h1,h2]
section
variable {Γ0 Γ:Gam}{w0 w:World}{L:List Ent}{R:List RowE}
theorem MM.at6{a b c d e f:Ent}{g:Nat}{P:List (List Value)}{ls:List Nat}(M:MM Γ0 w0 Γ w (a::b::c::d::e::f::⟨g,P,ls⟩::L) R):HL w g P ls:=⟨M.has ⟨g,P,ls⟩ (by simp),M.len ⟨g,P,ls⟩ (by simp)⟩
end
end Go.Proofs.YtmgeheaneohldaaGreat
namespace Go.Proofs.YtmgeheaneohldaaGreat
open Go.RowKit Go.Proofs.YtmgeheaneohldaaGreat.Old
def statR(N:List Nod)(r:Rt)(st:Int):Bool:=decide (0<=fndI N r)&&decide ((N.getD (fndI N r).toNat n0).st=st)
theorem Ahh{N:List Nod}{r:Rt}{st:Int}(h:fndI N r = -1):statR N r st=false:=by unfold statR;rw[h];rfl
theorem Ahi{N:List Nod}{r:Rt}{st:Int}{k:Nat}(h:fndI N r=(k:Int))(hk:k<N.length):statR N r st=decide (N[k].st=st):=by
 unfold statR;rw[h,decide_eq_true (show(0:Int)<=(k:Int)by omega),Int.toNat_natCast,nget hk];rfl
theorem AcD(N:List Nod)(r:Rt):fndI N r = -1\/∃k:Nat,∃_:k<N.length,fndI N r=(k:Int):=by
 rcases Aa2 (fun n:Nod=>decide (n.b.root=r)) N with⟨h1,_⟩|⟨k,hk,h1,_⟩
 .exact .inl h1
 .exact .inr ⟨k,hk,h1⟩
theorem Abs(Γ:Gam)(z:Zst)(x:Zls)(r:Rt)(w:World)(ok:Ok Γ w)(h:ZsG Γ x z) :
  Calls Tryz.prog 142 #[.agg (fl (zsP z x)).toArray,.agg (rc r).toArray] w fun e w'=>e=.returned (.bool (statR z.s.nodes r 0))/\Ext Γ w Γ w':=by
 have M:=bx (MM.start ok)
 have FI:=bx (fun w ok=>AaT Γ x.s.nodes z.s.nodes r w ok h.s.nodes)
 have HG:=bx h
 have LN:=bx h.s.nodes.n
 clear ok h
 change Calls Tryz.prog _ #[_,.agg (fl [rc r]).toArray] _ _
 rcases AcD z.s.nodes r with n1|⟨k,hk,n1⟩
 .have HR:=bx (Ahh (st:=0) n1)
  rw[n1]at FI
  clear n1
  go_enter Tryz.func142,Tryz.ntmps142
  (go_wp2_with (first|(refine zBXo ?_;clear M;intro w' g M)|refine zLAo ?_))
  refine zCA M (FI.out _ M.ok) ?_;clear M;intro w1 M
  (go_wp2_with (go_skip))
  go_ret
  exact⟨by rw[HR.out];rfl,M.out.ext⟩
 .have HR:=bx (Ahi (st:=0) n1 hk)
  rw[n1]at FI
  obtain⟨gn,hA,hf⟩:=HG.out.s.nodeAt k hk
  have HA:=bx hA
  have F1:=bx hf
  have hki:(k:Int)<(x.s.nodes.n:Int):=by rw[LN.out];omega
  have hk0:0<=(k:Int):=by omega
  clear n1 hA hf
  generalize z.s.nodes[k]=y at *
  by_cases hs:y.st=0
  .have b1:(y.st==0)=true:=by rw[hs];rfl
   replace HR:=bx (HR.out.trans (decide_eq_true hs))
   clear hs
   go_enter Tryz.func142,Tryz.ntmps142
   (go_wp2_with (first|(refine zBXo ?_;clear M;intro w' g M)|refine zLAo ?_))
   refine zCA M (FI.out _ M.ok) ?_;clear M;intro w1 M
   (go_wp2_with (first|refine zLHo HA ?_|refine zRFo F1 ?_))
   go_ret
   exact⟨by rw[HR.out];rfl,M.out.ext⟩
  .have b1:(y.st==0)=false:=beq_eq_false_iff_ne.2 hs
   replace HR:=bx (HR.out.trans (decide_eq_false hs))
   clear hs
   go_enter Tryz.func142,Tryz.ntmps142
   (go_wp2_with (first|(refine zBXo ?_;clear M;intro w' g M)|refine zLAo ?_))
   refine zCA M (FI.out _ M.ok) ?_;clear M;intro w1 M
   (go_wp2_with (first|refine zLHo HA ?_|refine zRFo F1 ?_))
   go_ret
   exact⟨by rw[HR.out];rfl,M.out.ext⟩
def safeR(s:Sto):Rt:=if statR s.nodes s.just.r 1=true then s.just.r else r0
theorem ztRt:ZeroT Tryz.prog 29 [rc r0] [32]:=⟨fun w=>by kernel_rfl,lenR _⟩
theorem AkR(Γ:Gam)(s:Sto)(v:Sls)(w:World)(ok:Ok Γ w)(h:StG Γ v s) :
  Calls Tryz.prog 127 #[.agg (fl (stP s v)).toArray] w fun e w'=>e=.returned (.agg (rc (safeR s)).toArray)/\Ext Γ w Γ w':=by
 have M:=bx (MM.start ok)
 have FI:=bx (fun w ok=>AaT Γ v.nodes s.nodes s.just.r w ok h.nodes)
 have HG:=bx h
 have LN:=bx h.nodes.n
 have HD:Bx (safeR s=if statR s.nodes s.just.r 1=true then s.just.r else r0):=⟨rfl⟩
 clear ok h
 generalize safeR s=res at *
 rcases AcD s.nodes s.just.r with n1|⟨k,hk,n1⟩
 .have HR:=bx (HD.out.trans (if_neg (by rw[Ahh n1];exact Bool.false_ne_true)))
  rw[n1]at FI
  clear n1 HD
  go_enter Tryz.func127,Tryz.ntmps127
  (go_wp2_with (first|(refine zBXo ?_;clear M;intro w' g M)|(refine zALo (ztRt) ?_;clear M;intro w' g M)|refine zLAo ?_))
  refine zCA M (FI.out _ M.ok) ?_;clear M;intro w1 M
  (go_wp2_with (first|go_skip|(refine zSSo M 0 [rc r0] [rc r0] (lenR _) (Aah _) ?_;clear M;intro w' M)|refine zLAo ?_|refine zBDo 29 [] (rc r0) (by kernel_rfl) ?_))
  exact zR M.out.at0 ⟨by rw[HR.out];rfl,M.out.ext⟩
 .have HS:=bx (Ahi (st:=1) n1 hk)
  rw[HS.out]at HD
  rw[n1]at FI
  obtain⟨gn,hA,hf⟩:=HG.out.nodeAt k hk
  have HA:=bx hA
  have F1:=bx hf
  have hki:(k:Int)<(v.nodes.n:Int):=by rw[LN.out];omega
  have hk0:0<=(k:Int):=by omega
  clear n1 hA hf HS
  generalize s.nodes[k]=y at *
  by_cases hs:y.st=1
  .have b1:(y.st==1)=true:=by rw[hs];rfl
   have HR:=bx (HD.out.trans (if_pos (decide_eq_true hs)))
   clear hs HD
   go_enter Tryz.func127,Tryz.ntmps127
   (go_wp2_with (first|(refine zBXo ?_;clear M;intro w' g M)|(refine zALo (ztRt) ?_;clear M;intro w' g M)|refine zLAo ?_))
   refine zCA M (FI.out _ M.ok) ?_;clear M;intro w1 M
   (go_wp2_with (first|refine zLHo HA ?_|refine zRFo F1 ?_|(refine zSSo M 0 [rc s.just.r] [rc s.just.r] (lenR _) (Aah _) ?_;clear M;intro w' M)|refine zLAo ?_))
   exact zR M.out.at0 ⟨by rw[HR.out];rfl,M.out.ext⟩
  .have b1:(y.st==1)=false:=beq_eq_false_iff_ne.2 hs
   have HR:=bx (HD.out.trans (if_neg (by rw[decide_eq_false hs];exact Bool.false_ne_true)))
   clear hs HD
   go_enter Tryz.func127,Tryz.ntmps127
   (go_wp2_with (first|(refine zBXo ?_;clear M;intro w' g M)|(refine zALo (ztRt) ?_;clear M;intro w' g M)|refine zLAo ?_))
   refine zCA M (FI.out _ M.ok) ?_;clear M;intro w1 M
   (go_wp2_with (first|refine zLHo HA ?_|refine zRFo F1 ?_|(refine zSSo M 0 [rc r0] [rc r0] (lenR _) (Aah _) ?_;clear M;intro w' M)|refine zLAo ?_|refine zBDo 29 [] (rc r0) (by kernel_rfl) ?_))
   exact zR M.out.at0 ⟨by rw[HR.out];rfl,M.out.ext⟩
theorem AkQ{st fb:Int}:∀{N M:List Nod} {l:List Nat},setF st fb N l=some M->upsN M=upsN N:=by
 intro N M l
 induction l generalizing N with
 |nil=>intro h;simp only[setF,Option.some.injEq]at h;rw[h]
 |cons a t ih=>
  intro h
  simp only[setF]at h
  split at h
  .cases h
  .rw[ih h]
   unfold upsN
   rw[List.map_set]
   rcases Nat.lt_or_ge a N.length with ha|ha
   .rw[nget ha]
    have:=@List.set_getElem_self _ (List.map (fun(x:Nod)=>x.up) N) a (by simpa using ha)
    simpa using this
   .exact List.set_eq_of_length_le (by simpa using ha)
theorem Ai9{N M:List Nod}{i:Int}(h:raiseN N i=(0,M)):upsN M=upsN N/\M.length=N.length:=by
 unfold raiseN stR at h
 split at h
 .split at h
  .simp at h
  .rename_i hs
   injection h with _ h
   subst h
   exact⟨AkQ hs,Afe hs⟩
 .simp at h
def judge2(N:List Nod)(rv rc:Int):Int × List Nod:=if 0<=rv then(if(raiseN N rv).1=0 then condN (raiseN N rv).2 rc else((raiseN N rv).1,[]))else condN N rc
def judgeN(N:List Nod)(i:Int)(v:Vd)(keep:List Int):Int × List Nod:=
 if isI i N.length=false then(10,[])else if v.kind=1 then raiseN N i else if v.kind=3\/v.kind=4 then(0,N)else if v.kind≠2 then(2,[])else
  if keep.any (fun k=>ancI N (reachN N i v.latest).2 k)=true then(21,[])else judge2 N (reachN N i v.latest).1 (reachN N i v.latest).2
theorem TrE.mk{Γ Γ':Gam}{w w':World}{r:Int × List Nod}{x:Sl}{er:Int}(he:r.1=er)(hn:NG Γ' x r.2)(h:Ext Γ w Γ' w'):TrE Γ w r (.returned (.tuple #[.agg (fl [[x.v]]).toArray,.int .i64 er])) w':=by
 subst he;exact⟨x,Γ',rfl,hn,h⟩
theorem AjY(Γ:Gam)(x:Sl)(N:List Nod)(i:Int)(v:Vd)(A:Option Addr)(c:Nat)(keep:List Int)(w:World)(ok:Ok Γ w)(h:NG Γ x N)(hk:Lk (upsN N))(h1:0<N.length)(hb:N.length<=4096)(hkp:SlG Γ A keep.length (ints .i64 keep))(hkb:keep.length<=65535) :
  Calls Tryz.prog 155 #[.agg [x.v].toArray,.int .i64 i,.agg (fl (vdP v)).toArray,.slice A keep.length c] w (TrE Γ w (judgeN N i v keep)):=by
 have M:=bx (MM.start ok)
 have HG:=bx h
 have HK:=bx hkp
 have HKB:=bx hkb
 have IS:Bx (∀Γ w,Ok Γ w->Calls Tryz.prog 61 #[.agg [x.v].toArray,.int .i64 i] w fun e w'=>e=.returned (.bool (isI i N.length))/\Ext Γ w Γ w'):=⟨fun Γ w ok=>by have:=Ac9 Γ x i w ok;rwa [h.n]at this⟩
 have RA:=bx (fun j w ok=>Ai8 Γ x N j w ok h hk h1 hb)
 have RE:=bx (fun w ok=>Ai6 Γ x N i v.latest w ok h hk hb)
 have AN:=bx (fun a b w ok=>AbU Γ x N a b w ok h hk hb)
 have CO:=bx (fun(Γ':Gam) (x':Sl) (M:List Nod) (j:Int) w (ok:Ok Γ' w) (hn:NG Γ' x' M) (hu:upsN M=upsN N/\M.length=N.length)=>AhX Γ' x' M j w ok hn (by rw[hu.1];exact hk) (by omega) (by omega))
 clear ok h hk h1 hb hkp hkb
 change Calls Tryz.prog _ #[.agg (fl [[x.v]]).toArray,_,_,_] _ _
 cases hi:isI i N.length with
 |false=>
  have HR:Bx (judgeN N i v keep=(10,[])):=⟨by unfold judgeN;rw[if_pos hi]⟩
  rw[hi]at IS
  go_enter Tryz.func155,Tryz.ntmps155
  go_wp2_with (first|go_skip|fail|(refine zBXo ?_;clear M;intro w' g M)|(refine zALo (Aaj) ?_;clear M;intro w' g M)|refine zLAo ?_|refine zBDo 46 [] [.slice none 0 0] (by kernel_rfl) ?_)
  refine zCA M (IS.out _ _ M.ok) ?_;clear M;intro w1 M
  go_wp2_with (first|go_skip|(refine zSSo M 0 [[.slice none 0 0]] [[.slice none 0 0]] (by rfl) (Aal _ _ _) ?_;clear M;intro w' M)|(refine zBXo ?_;clear M;intro w' g M)|(refine zALo (Aaj) ?_;clear M;intro w' g M)|refine zLAo ?_|refine zBDo 46 [] [.slice none 0 0] (by kernel_rfl) ?_)
  refine zRt M.out.at0 ?_
  exact TrE.err HR.out M.out.ext
 |true=>
  rw[hi]at IS
  by_cases k1:v.kind=1
  .have HR:Bx (judgeN N i v keep=raiseN N i):=⟨by unfold judgeN;rw[hi,if_neg (by simp),if_pos k1]⟩
   have b1:(v.kind==1)=true:=beq_iff_eq.2 k1
   clear hi k1
   rw[HR.out]
   go_enter Tryz.func155,Tryz.ntmps155
   go_wp2_with (first|go_skip|fail|(refine zBXo ?_;clear M;intro w' g M)|(refine zALo (Aaj) ?_;clear M;intro w' g M)|refine zLAo ?_|refine zBDo 46 [] [.slice none 0 0] (by kernel_rfl) ?_)
   refine zCA M (IS.out _ _ M.ok) ?_;clear M;intro w1 M
   go_wp2_with (first|go_skip|fail|(refine zBXo ?_;clear M;intro w' g M)|(refine zALo (Aaj) ?_;clear M;intro w' g M)|refine zLAo ?_|refine zBDo 46 [] [.slice none 0 0] (by kernel_rfl) ?_)
   refine(RA.out _ _ M.ok).mono ?_
   rintro e3 w3 ⟨x3,Γ3,rfl,hn3,hx3⟩
   replace M:=bx (M.out.call hx3)
   have HN3:=bx hn3
   clear hn3 hx3
   go_wp2_with (first|go_skip|(refine zSSo M 0 [[x3.v]] [[x3.v]] (by rfl) (Aal _ _ _) ?_;clear M;intro w' M)|(refine zBXo ?_;clear M;intro w' g M)|(refine zALo (Aaj) ?_;clear M;intro w' g M)|refine zLAo ?_|refine zBDo 46 [] [.slice none 0 0] (by kernel_rfl) ?_)
   refine zRt M.out.at0 ?_
   exact TrE.mk rfl HN3.out M.out.ext
  by_cases k3:v.kind=3\/v.kind=4
  .have HR:Bx (judgeN N i v keep=(0,N)):=⟨by unfold judgeN;rw[hi,if_neg (by simp),if_neg k1,if_pos k3]⟩
   have b1:(v.kind==1)=false:=beq_eq_false_iff_ne.2 k1
   rw[HR.out]
   rcases k3 with k3|k3
   .have b3:(v.kind==3)=true:=beq_iff_eq.2 k3
    clear hi k1 k3
    go_enter Tryz.func155,Tryz.ntmps155
    go_wp2_with (first|go_skip|fail|(refine zBXo ?_;clear M;intro w' g M)|(refine zALo (Aaj) ?_;clear M;intro w' g M)|refine zLAo ?_|refine zBDo 46 [] [.slice none 0 0] (by kernel_rfl) ?_)
    refine zCA M (IS.out _ _ M.ok) ?_;clear M;intro w1 M
    go_wp2_with (first|go_skip|(refine zSSo M 0 [[x.v]] [[x.v]] (by rfl) (Aal _ _ _) ?_;clear M;intro w' M)|(refine zBXo ?_;clear M;intro w' g M)|(refine zALo (Aaj) ?_;clear M;intro w' g M)|refine zLAo ?_|refine zBDo 46 [] [.slice none 0 0] (by kernel_rfl) ?_)
    refine zRt M.out.at0 ?_
    exact TrE.mk rfl (HG.out.mono M.out.ext.le) M.out.ext
   .have b4:(v.kind==4)=true:=beq_iff_eq.2 k3
    have b3:(v.kind==3)=false:=beq_eq_false_iff_ne.2 (by omega)
    clear hi k1 k3
    go_enter Tryz.func155,Tryz.ntmps155
    go_wp2_with (first|go_skip|fail|(refine zBXo ?_;clear M;intro w' g M)|(refine zALo (Aaj) ?_;clear M;intro w' g M)|refine zLAo ?_|refine zBDo 46 [] [.slice none 0 0] (by kernel_rfl) ?_)
    refine zCA M (IS.out _ _ M.ok) ?_;clear M;intro w1 M
    go_wp2_with (first|go_skip|(refine zSSo M 0 [[x.v]] [[x.v]] (by rfl) (Aal _ _ _) ?_;clear M;intro w' M)|(refine zBXo ?_;clear M;intro w' g M)|(refine zALo (Aaj) ?_;clear M;intro w' g M)|refine zLAo ?_|refine zBDo 46 [] [.slice none 0 0] (by kernel_rfl) ?_)
    refine zRt M.out.at0 ?_
    exact TrE.mk rfl (HG.out.mono M.out.ext.le) M.out.ext
  have b1:(v.kind==1)=false:=beq_eq_false_iff_ne.2 k1
  have b3:(v.kind==3)=false:=beq_eq_false_iff_ne.2 (by omega)
  have b4:(v.kind==4)=false:=beq_eq_false_iff_ne.2 (by omega)
  by_cases k2:v.kind=2
  .have HR:Bx (judgeN N i v keep=if keep.any (fun k=>ancI N (reachN N i v.latest).2 k)=true then(21,[])else judge2 N (reachN N i v.latest).1 (reachN N i v.latest).2):=⟨by unfold judgeN;rw[hi,if_neg (by simp),if_neg k1,if_neg k3,if_neg (by simpa using k2)]⟩
   have b2:(v.kind==2)=true:=beq_iff_eq.2 k2
   clear hi k1 k3 k2
   generalize judgeN N i v keep=res at *
   generalize reachN N i v.latest=rr at *
   obtain⟨rv,rk⟩:=rr
   simp only at HR
   go_enter Tryz.func155,Tryz.ntmps155
   go_wp2_with (first|go_skip|fail|(refine zBXo ?_;clear M;intro w' g M)|(refine zALo (Aaj) ?_;clear M;intro w' g M)|refine zLAo ?_|refine zBDo 46 [] [.slice none 0 0] (by kernel_rfl) ?_)
   refine zCA M (IS.out _ _ M.ok) ?_;clear M;intro w1 M
   go_wp2_with (first|go_skip|fail|(refine zBXo ?_;clear M;intro w' g M)|(refine zALo (Aaj) ?_;clear M;intro w' g M)|refine zLAo ?_|refine zBDo 46 [] [.slice none 0 0] (by kernel_rfl) ?_)
   refine zCA M (RE.out _ M.ok) ?_;clear M;intro w1 M
   go_wp2_with (first|go_skip|fail|(refine zBXo ?_;clear M;intro w' g M)|(refine zALo (Aaj) ?_;clear M;intro w' g M)|refine zLAo ?_|refine zBDo 46 [] [.slice none 0 0] (by kernel_rfl) ?_)
   rename_i gt _ gv _ _ _
   go_loopw [12] (fun j wr=>∃k:Nat,k<=keep.length/\j=.int .i64 k/\(∀j (hj:j<keep.length),j<k->ancI N rk keep[j]=false)/\MM Γ w Γ wr [⟨g,[[.slice none 0 0]],[1]⟩,⟨gv,vdP v,[1,1,32]⟩,⟨gt,[[x.v]],[1]⟩] []) (fun j _=>keep.length-(intOf j).toNat)
   case atStart=>exact⟨0,Nat.zero_le _,rfl,fun j _ hj=>absurd hj (Nat.not_lt_zero _),M.out⟩
   case round=>
    obtain⟨k,hk,rfl,hno,hM⟩:=hrel
    clear M
    have M:=bx hM
    have HNO:=bx hno
    clear hM hno
    have hkb:=HKB.out
    by_cases hkn:k<keep.length
    .obtain⟨gk,rfl,hf⟩:=Aef HK.out k hkn
     have F1:=bx hf
     have hki:(k:Int)<(keep.length:Int):=by omega
     have hk0:0<=(k:Int):=by omega
     have NX:=bx (fun(e:ancI N rk keep[k]=false) j (hj:j<keep.length) (hjk:j<k+1)=>(Nat.lt_or_eq_of_le (Nat.le_of_lt_succ hjk)).elim (HNO.out j hj) (fun h=>by subst h;exact e))
     have YS:=bx (fun(e:ancI N rk keep[k]=true)=>(show keep.any (fun k=>ancI N rk k)=true from List.any_eq_true.2 ⟨_,List.getElem_mem hkn,e⟩))
     have EC:=bx (clsE M.out (AN.out rk keep[k]))
     clear hf
     generalize keep[k]=y at *
     cases ha:ancI N rk y with
     |true=>
      rw[ha]at EC
      have HR':=bx (HR.out.trans (if_pos (YS.out ha)))
      clear NX YS ha
      go_wp2_with (first|go_skip|fail|(refine zBXo ?_;clear M;intro w' g M)|(refine zALo (Aaj) ?_;clear M;intro w' g M)|refine zLAo ?_|refine zBDo 46 [] [.slice none 0 0] (by kernel_rfl) ?_)
      refine zRG ?_;(repeat(first|go_big_quiet_skip|(go_big_quiet_want;first|(refine zQFo F1 ?_;go_big_quiet_on;refine zNM ?_)|(refine zQC (AaI EC.out) Tryz.func34 ?_;go_big_quiet_on;refine zNM ?_)|(refine zQAo ?_;go_big_quiet_on;refine zNM ?_)|(refine zQO ?_;go_big_quiet_on))));(refine zQN ?_;clear M;intro w4 M)
      clear EC
      go_wp2_with (first|go_skip|(refine zSSo M 0 [[.slice none 0 0]] [[.slice none 0 0]] (by rfl) (Aal _ _ _) ?_;clear M;intro w' M)|(refine zBXo ?_;clear M;intro w' g M)|(refine zALo (Aaj) ?_;clear M;intro w' g M)|refine zLAo ?_|refine zBDo 46 [] [.slice none 0 0] (by kernel_rfl) ?_)
      refine zRt M.out.at0 ?_
      exact TrE.err HR'.out M.out.ext
     |false=>
      rw[ha]at EC
      have NX':=bx (NX.out ha)
      clear NX YS ha
      go_wp2_with (first|go_skip|fail|(refine zBXo ?_;clear M;intro w' g M)|(refine zALo (Aaj) ?_;clear M;intro w' g M)|refine zLAo ?_|refine zBDo 46 [] [.slice none 0 0] (by kernel_rfl) ?_)
      refine zRG ?_;(repeat(first|go_big_quiet_skip|(go_big_quiet_want;first|(refine zQFo F1 ?_;go_big_quiet_on;refine zNM ?_)|(refine zQC (AaI EC.out) Tryz.func34 ?_;go_big_quiet_on;refine zNM ?_)|(refine zQAo ?_;go_big_quiet_on;refine zNM ?_)|(refine zQO ?_;go_big_quiet_on))));(refine zQN ?_;clear M;intro w4 M)
      clear EC
      go_wp2_with (first|go_skip|fail|(refine zBXo ?_;clear M;intro w' g M)|(refine zALo (Aaj) ?_;clear M;intro w' g M)|refine zLAo ?_|refine zBDo 46 [] [.slice none 0 0] (by kernel_rfl) ?_)
      go_roundw
      case rel=>exact⟨k+1,by omega,by go_num,NX'.out,M.out⟩
      case measure=>simp[intOf]<;>omega
    .have hki:(keep.length:Int)<=(k:Int):=by omega
     have HR':=bx (HR.out.trans (if_neg (by
      rw[List.any_eq_true]
      rintro⟨y,hy,e⟩
      obtain⟨j,hj,rfl⟩:=List.getElem_of_mem hy
      rw[HNO.out j hj (by omega)]at e
      cases e)))
     clear HR HNO
     unfold judge2 at HR'
     by_cases hv:0<=rv
     .replace HR':=bx (HR'.out.trans (if_pos hv))
      have RA':=bx (RA.out rv)
      cases hr:raiseN N rv with
      |mk e1 N1=>
       rw[hr]at RA' HR'
       simp only at HR'
       go_wp2_with (first|go_skip|fail|(refine zBXo ?_;clear M;intro w' g M)|(refine zALo (Aaj) ?_;clear M;intro w' g M)|refine zLAo ?_|refine zBDo 46 [] [.slice none 0 0] (by kernel_rfl) ?_)
       refine(RA'.out _ M.ok).mono ?_
       rintro e3 w3 ⟨x3,Γ3,rfl,hn3,hx3⟩
       replace M:=bx (M.out.call hx3)
       have HN3:=bx hn3
       clear hn3 hx3
       by_cases he:e1=0
       .subst he
        replace HR':=bx (HR'.out.trans (if_pos rfl))
        have CO':=bx (fun Γ' x' w ok hn=>CO.out Γ' x' N1 rk w ok hn (Ai9 hr))
        clear CO RA' RA RE
        go_wp2_with (first|go_skip|(refine zSSo M 0 [[x3.v]] [[x3.v]] (by rfl) (Aal _ _ _) ?_;clear M;intro w' M)|(refine zSSo M 3 [[x3.v]] [[x3.v]] (by rfl) (Aal _ _ _) ?_;clear M;intro w' M)|(refine zBXo ?_;clear M;intro w' g M)|(refine zALo (Aaj) ?_;clear M;intro w' g M)|refine zLAo ?_|refine zBDo 46 [] [.slice none 0 0] (by kernel_rfl) ?_)
        refine(CO'.out _ x3 _ M.ok HN3.out).mono ?_
        rintro e3 w3 ⟨x4,Γ4,rfl,hn4,hx4⟩
        replace M:=bx (M.out.call hx4)
        have HN4:=bx hn4
        clear hn4 hx4
        go_wp2_with (first|go_skip|(refine zSSo M 1 [[x4.v]] [[x4.v]] (by rfl) (Aal _ _ _) ?_;clear M;intro w' M)|(refine zBXo ?_;clear M;intro w' g M)|(refine zALo (Aaj) ?_;clear M;intro w' g M)|refine zLAo ?_|refine zBDo 46 [] [.slice none 0 0] (by kernel_rfl) ?_)
        refine zRt M.out.at1 ?_
        rw[HR'.out]
        exact TrE.mk rfl HN4.out M.out.ext
       .have heb:(e1==0)=false:=beq_eq_false_iff_ne.2 he
        replace HR':=bx (HR'.out.trans (if_neg he))
        clear he
        go_wp2_with (first|go_skip|(refine zSSo M 0 [[x3.v]] [[x3.v]] (by rfl) (Aal _ _ _) ?_;clear M;intro w' M)|(refine zSSo M 1 [[.slice none 0 0]] [[.slice none 0 0]] (by rfl) (Aal _ _ _) ?_;clear M;intro w' M)|(refine zBXo ?_;clear M;intro w' g M)|(refine zALo (Aaj) ?_;clear M;intro w' g M)|refine zLAo ?_|refine zBDo 46 [] [.slice none 0 0] (by kernel_rfl) ?_)
        refine zRt M.out.at1 ?_
        exact TrE.err HR'.out M.out.ext
     .replace HR':=bx (HR'.out.trans (if_neg hv))
      have CO':=bx (fun w ok=>CO.out Γ x N rk w ok HG.out ⟨rfl,rfl⟩)
      go_wp2_with (first|go_skip|fail|(refine zBXo ?_;clear M;intro w' g M)|(refine zALo (Aaj) ?_;clear M;intro w' g M)|refine zLAo ?_|refine zBDo 46 [] [.slice none 0 0] (by kernel_rfl) ?_)
      refine(CO'.out _ M.ok).mono ?_
      rintro e3 w3 ⟨x4,Γ4,rfl,hn4,hx4⟩
      replace M:=bx (M.out.call hx4)
      have HN4:=bx hn4
      clear hn4 hx4
      go_wp2_with (first|go_skip|(refine zSSo M 0 [[x4.v]] [[x4.v]] (by rfl) (Aal _ _ _) ?_;clear M;intro w' M)|(refine zBXo ?_;clear M;intro w' g M)|(refine zALo (Aaj) ?_;clear M;intro w' g M)|refine zLAo ?_|refine zBDo 46 [] [.slice none 0 0] (by kernel_rfl) ?_)
      refine zRt M.out.at0 ?_
      rw[HR'.out]
      exact TrE.mk rfl HN4.out M.out.ext
  .have HR:Bx (judgeN N i v keep=(2,[])):=⟨by unfold judgeN;rw[hi,if_neg (by simp),if_neg k1,if_neg k3,if_pos k2]⟩
   have b2:(v.kind==2)=false:=beq_eq_false_iff_ne.2 k2
   clear hi k1 k3 k2
   go_enter Tryz.func155,Tryz.ntmps155
   go_wp2_with (first|go_skip|fail|(refine zBXo ?_;clear M;intro w' g M)|(refine zALo (Aaj) ?_;clear M;intro w' g M)|refine zLAo ?_|refine zBDo 46 [] [.slice none 0 0] (by kernel_rfl) ?_)
   refine zCA M (IS.out _ _ M.ok) ?_;clear M;intro w1 M
   go_wp2_with (first|go_skip|(refine zSSo M 0 [[.slice none 0 0]] [[.slice none 0 0]] (by rfl) (Aal _ _ _) ?_;clear M;intro w' M)|(refine zBXo ?_;clear M;intro w' g M)|(refine zALo (Aaj) ?_;clear M;intro w' g M)|refine zLAo ?_|refine zBDo 46 [] [.slice none 0 0] (by kernel_rfl) ?_)
   refine zRt M.out.at0 ?_
   exact TrE.err HR.out M.out.ext
structure TI(N:List Nod):Prop where
 lk:Lk (upsN N)
 pos:0<N.length
 diff:∀i j (hi:i<N.length) (hj:j<N.length),N[i].b.root=N[j].b.root->i=j
 st:∀n∈N,n.st=0\/n.st=1\/n.st=2
 par:∀i u (hi:i<N.length) (hu:u<N.length),N[i].up=(u:Int)->N[u].b.root=N[i].b.parent/\N[u].b.slot.n<N[i].b.slot.n
 cl1:∀i u (hi:i<N.length) (hu:u<N.length),N[i].up=(u:Int)->N[i].st=1->N[u].st=1
 cl2:∀i u (hi:i<N.length) (hu:u<N.length),N[i].up=(u:Int)->N[u].st=2->N[i].st=2
 pay:∀n∈N,n.b.payload=r0->n.st=1
 nz:∀n∈N,n.b.root≠r0
theorem AdE{N:List Nod}(h:Lk (upsN N)){i:Nat}(hi:i<N.length):(i=0/\N[i].up = -1)\/∃u:Nat,u<i/\N[i].up=(u:Int):=by
 have:=h i (by rw[Acd];exact hi)
 rwa [Ac4 hi]at this
theorem Amx{N:List Nod}(h:∀i (hi:i<N.length),(i=0/\N[i].up = -1)\/∃u:Nat,u<i/\N[i].up=(u:Int)):Lk (upsN N):=fun i hi=>by
 rw[Acd]at hi
 rw[Ac4 hi]
 exact h i hi
theorem Adz{N:List Nod}{a b:Nat}(hb:b<N.length):ancI N (a:Int) (b:Int)=true↔a∈pathN (upsN N) b:=by
 unfold ancI pathI
 rw[AcB (by omega) (by omega),decide_eq_true_iff,List.mem_map]
 simp only[if_true,Int.toNat_natCast]
 exact⟨fun⟨x,hx,e⟩=>(show x=a by omega)▸hx,fun h=>⟨a,h,rfl⟩⟩
theorem Aht{N:List Nod}(h:Lk (upsN N)){b u:Nat}(hb:b<N.length)(hu:N[b].up=(u:Int)):u<b/\pathN (upsN N) b=pathN (upsN N) u ++ [b]:=by
 rcases AdE h hb with⟨h1,h2⟩|⟨v,h1,h2⟩
 .omega
 .obtain rfl:v=u:=by omega
  exact⟨h1,AeY h (by rw[Acd];exact hb) (by omega) (by rw[Ac4 hb];exact hu) h1⟩
theorem AdD{N:List Nod}(h:Lk (upsN N)){b:Nat}(hb:b<N.length):ancI N (b:Int) (b:Int)=true:=by
 rw[Adz hb]
 rcases AdE h hb with⟨h1,h2⟩|⟨v,h1,h2⟩
 .subst h1;simp[AfN]
 .rw[(Aht h hb h2).2];simp
theorem Ali{N:List Nod}(h:Lk (upsN N)){a b:Nat}(hb:b<N.length)(ha:ancI N (a:Int) (b:Int)=true):a<=b:=by
 rw[Adz hb]at ha
 have:=(Ace h (i:=(b:Int)) (k:=a) (by unfold pathI;rw[AcB (by omega) (by omega)];simpa using ha)).2
 omega
theorem AcF{N:List Nod}(h:Lk (upsN N)){a b u:Nat}(hb:b<N.length)(hu:N[b].up=(u:Int)):ancI N (a:Int) (b:Int)=true↔a=b\/ancI N (a:Int) (u:Int)=true:=by
 obtain⟨h1,h2⟩:=Aht h hb hu
 rw[Adz hb,Adz (show u<N.length by omega),h2,List.mem_append,List.mem_singleton]
 exact Or.comm
theorem AnV{N:List Nod}(h:Lk (upsN N)):∀{b:Nat},b<N.length->ancI N ((0:Nat):Int) (b:Int)=true:=by
 intro b
 induction b using Nat.strongRecOn with
 |_ b ih=>
  intro hb
  rcases AdE h hb with⟨h1,h2⟩|⟨v,h1,h2⟩
  .subst h1;exact AdD h hb
  .exact(AcF h hb h2).2 (.inr (ih v h1 (by omega)))
theorem Adk{N:List Nod}(h:Lk (upsN N)){a:Nat}(hN:0<N.length)(ha:ancI N (a:Int) ((0:Nat):Int)=true):a=0:=by
 have:=Ali h hN ha;omega
theorem Agz{N:List Nod}(h:Lk (upsN N)){a b:Nat}:∀{c:Nat},c<N.length->ancI N (a:Int) (b:Int)=true->ancI N (b:Int) (c:Int)=true->ancI N (a:Int) (c:Int)=true:=by
 intro c
 induction c using Nat.strongRecOn with
 |_ c ih=>
  intro hc hab hbc
  rcases AdE h hc with⟨h1,h2⟩|⟨v,h1,h2⟩
  .subst h1
   have:=Adk h hc hbc
   subst this;exact hab
  .rcases(AcF h hc h2).1 hbc with rfl|hb
   .exact hab
   .exact(AcF h hc h2).2 (.inr (ih v h1 (by omega) hab hb))
theorem AlO{N M:List Nod}(h:upsN M=upsN N)(a b:Int):ancI M a b=ancI N a b:=by
 have hl:M.length=N.length:=by have:=congrArg List.length h;simpa [upsN]using this
 unfold ancI pathI
 rw[h,hl]
theorem Afv{N:List Nod}{i k:Nat}(hk:k<N.length):k∈descI N i↔ancI N (i:Int) (k:Int)=true:=by
 unfold descI descN isAnc
 rw[List.mem_filter,List.mem_range,Adz hk,decide_eq_true_iff]
 simp only[Ahw]
 exact⟨fun h=>h.2,fun h=>⟨hk,h⟩⟩
theorem Ajc{N:List Nod}(hd:∀i j (hi:i<N.length) (hj:j<N.length),N[i].b.root=N[j].b.root->i=j){k:Nat}(hk:k<N.length):fndI N N[k].b.root=(k:Int):=by
 rcases Aa2 (fun n:Nod=>decide (n.b.root=N[k].b.root)) N with⟨_,h⟩|⟨j,hj,h1,h2,_⟩
 .have:=h N[k] (List.getElem_mem hk);simp at this
 .have:=hd j k hj hk (of_decide_eq_true h2)
  subst this;exact h1
theorem Akw{N:List Nod}{r:Rt}(h:fndI N r<0):∀n∈N,n.b.root≠r:=by
 rcases Aa2 (fun n:Nod=>decide (n.b.root=r)) N with⟨_,h1⟩|⟨j,hj,h1,_⟩
 .intro n hn e;have:=h1 n hn;simp[e]at this
 .unfold fndI at h;omega
theorem TI.one(b:Blk)(h:b.root≠r0):TI [⟨b,-1,1⟩] where
 lk:=fun i hi=>by
  have:i=0:=by simpa [upsN]using hi
  subst this;exact .inl ⟨rfl,rfl⟩
 pos:=by simp
 diff:=fun i j hi hj _=>by simp at hi hj;omega
 st:=fun n hn=>by simp at hn;subst hn;exact .inr (.inl rfl)
 par:=fun i u hi hu e=>by simp at hi;subst hi;simp at e
 cl1:=fun i u hi hu e=>by simp at hi;subst hi;simp at e
 cl2:=fun i u hi hu e=>by simp at hi;subst hi;simp at e
 pay:=fun n hn _=>by simp at hn;subst hn;rfl
 nz:=fun n hn=>by simp at hn;subst hn;exact h
theorem TI.push{N:List Nod}(t:TI N){b:Blk}{u:Nat}(hu:u<N.length)(h1:b.root≠r0)(h2:∀n∈N,n.b.root≠b.root)(h3:N[u].b.root=b.parent)(h4:N[u].b.slot.n<b.slot.n)(h5:N[u].st≠2)(h6:b.payload=r0->N[u].b.payload=r0):TI (N ++ [⟨b,(u:Int),statOf b⟩]):=by
 have hl:(N ++ [⟨b,(u:Int),statOf b⟩]:List Nod).length=N.length+1:=by simp
 have g1:∀i (hi:i<N.length) (hi':i<(N ++ [⟨b,(u:Int),statOf b⟩]:List Nod).length),(N ++ [⟨b,(u:Int),statOf b⟩])[i]=N[i]:=fun i hi _=>List.getElem_append_left hi
 have g2:∀(hi':N.length<(N ++ [⟨b,(u:Int),statOf b⟩]:List Nod).length),(N ++ [⟨b,(u:Int),statOf b⟩])[N.length]=⟨b,(u:Int),statOf b⟩:=fun _=>by rw[List.getElem_append_right (Nat.le_refl _)];simp
 have split:∀{i},i<(N ++ [⟨b,(u:Int),statOf b⟩]:List Nod).length->i<N.length\/i=N.length:=fun h=>by rw[hl]at h;omega
 have hups:∀i (hi:i<N.length) (v:Nat),N[i].up=(v:Int)->v<i:=fun i hi v e=>by
  rcases AdE t.lk hi with⟨_,e'⟩|⟨w,hw,e'⟩<;>omega
 refine⟨Amx fun i hi=>?_,by omega,fun i j hi hj e=>?_,fun n hn=>?_,fun i v hi hv e=>?_,fun i v hi hv e h=>?_,fun i v hi hv e h=>?_,fun n hn hp=>?_,fun n hn=>?_⟩
 .rcases split hi with h|rfl
  .rw[g1 i h hi];exact AdE t.lk h
  .rw[g2 hi];exact .inr ⟨u,hu,rfl⟩
 .rcases split hi with h|rfl
  .rcases split hj with h'|rfl
   .rw[g1 i h hi,g1 j h' hj]at e;exact t.diff i j h h' e
   .rw[g1 i h hi,g2 hj]at e;exact absurd e (h2 _ (List.getElem_mem h))
  .rcases split hj with h'|rfl
   .rw[g2 hi,g1 j h' hj]at e;exact absurd e.symm (h2 _ (List.getElem_mem h'))
   .rfl
 .rcases List.mem_append.1 hn with hn|hn
  .exact t.st n hn
  .have:n=⟨b,(u:Int),statOf b⟩:=by simpa using hn
   subst this;unfold statOf;simp only;split<;>simp
 .rcases split hi with h|rfl
  .rw[g1 i h hi]at e |-
   have hv':=hups i h v e
   rw[g1 v (by omega) hv]
   exact t.par i v h (by omega) e
  .rw[g2 hi]at e |-
   simp only at e |-
   obtain rfl:u=v:=by omega
   rw[g1 u hu hv];exact⟨h3,h4⟩
 .rcases split hi with h'|rfl
  .rw[g1 i h' hi]at e h
   have hv':=hups i h' v e
   rw[g1 v (by omega) hv]
   exact t.cl1 i v h' (by omega) e h
  .rw[g2 hi]at e h
   simp only at e h
   obtain rfl:u=v:=by omega
   rw[g1 u hu hv]
   unfold statOf at h
   split at h
   .rename_i hp;exact t.pay _ (List.getElem_mem hu) (h6 hp)
   .omega
 .rcases split hi with h'|rfl
  .rw[g1 i h' hi]at e |-
   have hv':=hups i h' v e
   rw[g1 v (by omega) hv]at h
   exact t.cl2 i v h' (by omega) e h
  .rw[g2 hi]at e
   simp only at e
   obtain rfl:u=v:=by omega
   rw[g1 u hu hv]at h
   exact absurd h h5
 .rcases List.mem_append.1 hn with hn|hn
  .exact t.pay n hn hp
  .have:n=⟨b,(u:Int),statOf b⟩:=by simpa using hn
   subst this;exact if_pos hp
 .rcases List.mem_append.1 hn with hn|hn
  .exact t.nz n hn
  .have:n=⟨b,(u:Int),statOf b⟩:=by simpa using hn
   subst this;exact h1
theorem AeR{st fb:Int}(hne:st≠fb):∀{N M:List Nod} {l:List Nat},(∀k∈l,k<N.length)->setF st fb N l=some M ->
  M.length=N.length/\(∀k (hk:k<N.length) (hk':k<M.length),M[k]=if k∈l then {N[k]with st:=st}else N[k])/\∀k∈l,∀hk:k<N.length,N[k].st≠fb
 |N,M,[],_,h=>by
  simp only[setF,Option.some.injEq]at h
  subst h
  exact⟨rfl,fun k hk hk'=>by simp,fun k hk=>by simp at hk⟩
 |N,M,a::t,hl,h=>by
  simp only[setF]at h
  have ha:=hl a (by simp)
  rw[nget ha]at h
  split at h
  .cases h
  .rename_i hna
   obtain⟨h1,h2,h3⟩:=AeR hne (fun k hk=>by simp;exact hl k (by simp[hk])) h
   rw[List.length_set]at h1
   refine⟨h1,fun k hk hk'=>?_,fun k hk hkl=>?_⟩
   .rw[h2 k (by simpa using hk) hk',List.getElem_set]
    by_cases hak:a=k
    .subst hak;by_cases hat:a∈t<;>simp[hat]
    .have:¬k=a:=fun e=>hak e.symm
     simp[hak,this]
   .rcases List.mem_cons.1 hk with rfl|hk
    .exact hna
    .have:=h3 k hk (by simpa using hkl)
     rw[List.getElem_set]at this
     by_cases hak:a=k
     .subst hak;exact hna
     .simpa [hak]using this
structure SameB(N M:List Nod):Prop where
 len:M.length=N.length
 b:∀k (hk:k<N.length) (hk':k<M.length),M[k].b=N[k].b/\M[k].up=N[k].up
theorem SameB.refl(N:List Nod):SameB N N:=⟨rfl,fun _ _ _=>⟨rfl,rfl⟩⟩
theorem SameB.trans{N M K:List Nod}(h:SameB N M)(h':SameB M K):SameB N K:=⟨h'.len.trans h.len,fun k hk hk'=>⟨(h'.b k (by rw[h.len];exact hk) hk').1.trans (h.b k hk (by rw[h.len];exact hk)).1,(h'.b k (by rw[h.len];exact hk) hk').2.trans (h.b k hk (by rw[h.len];exact hk)).2⟩⟩
theorem SameB.ups{N M:List Nod}(h:SameB N M):upsN M=upsN N:=by
 apply List.ext_getElem
 .simp[upsN,h.len]
 .intro k h1 h2
  simp[upsN]at h1 h2 |-
  exact(h.b k h2 h1).2
theorem TI.same{N M:List Nod}(t:TI N)(h:SameB N M)(hst:∀n∈M,n.st=0\/n.st=1\/n.st=2)
  (c1:∀i u (hi:i<M.length) (hu:u<M.length),M[i].up=(u:Int)->M[i].st=1->M[u].st=1) (c2:∀i u (hi:i<M.length) (hu:u<M.length),M[i].up=(u:Int)->M[u].st=2->M[i].st=2)
  (hp:∀k (hk:k<N.length) (hk':k<M.length),N[k].b.payload=r0->M[k].st=1):TI M where
 lk:=by rw[h.ups];exact t.lk
 pos:=by rw[h.len];exact t.pos
 diff:=fun i j hi hj e=>t.diff i j (by rw[<-h.len];exact hi) (by rw[<-h.len];exact hj) (by rwa [(h.b i _ hi).1,(h.b j _ hj).1]at e)
 st:=hst
 par:=fun i u hi hu e=>by
  have hi':i<N.length:=by rw[<-h.len];exact hi
  have hu':u<N.length:=by rw[<-h.len];exact hu
  rw[(h.b i hi' hi).2]at e
  rw[(h.b i hi' hi).1,(h.b u hu' hu).1]
  exact t.par i u hi' hu' e
 cl1:=c1
 cl2:=c2
 pay:=fun n hn e=>by
  obtain⟨k,hk,rfl⟩:=List.getElem_of_mem hn
  have hk':k<N.length:=by rw[<-h.len];exact hk
  exact hp k hk' hk (by rwa [(h.b k hk' hk).1]at e)
 nz:=fun n hn=>by
  obtain⟨k,hk,rfl⟩:=List.getElem_of_mem hn
  have hk':k<N.length:=by rw[<-h.len];exact hk
  rw[(h.b k hk' hk).1]
  exact t.nz _ (List.getElem_mem hk')
structure Judged(N M:List Nod):Prop where
 t:TI M
 same:SameB N M
theorem Ahm{N M:List Nod}{i:Nat}(t:TI N)(hi:i<N.length)(h:raiseN N (i:Int)=(0,M)):Judged N M/\∀k (hk:k<N.length) (hk':k<M.length),N[k].st≠2->M[k].st≠2:=by
 unfold raiseN at h
 rw[AcB (by omega) (by omega),if_pos rfl]at h
 unfold stR at h
 split at h
 .simp at h
 .rename_i M' hs
  injection h with _ h
  subst h
  have hmem:∀k,k∈pathI N (i:Int)↔ancI N (k:Int) (i:Int)=true:=fun k=>by
   unfold ancI
   rw[decide_eq_true_iff,List.mem_map]
   exact⟨fun h=>⟨k,h,rfl⟩,fun⟨x,hx,e⟩=>(show x=k by omega)▸hx⟩
  obtain⟨h1,h2,h3⟩:=AeR (by decide) (fun k hk=>(Ace t.lk hk).1) hs
  have hb:SameB N M':=⟨h1,fun k hk hk'=>by rw[h2 k hk hk'];split<;>exact⟨rfl,rfl⟩⟩
  have hst:∀k (hk:k<N.length) (hk':k<M'.length),M'[k].st=if ancI N (k:Int) (i:Int)=true then 1 else N[k].st:=fun k hk hk'=>by
   rw[h2 k hk hk']
   by_cases hm:ancI N (k:Int) (i:Int)=true
   .rw[if_pos ((hmem k).2 hm),if_pos hm]
   .rw[if_neg (fun e=>hm ((hmem k).1 e)),if_neg hm]
  refine⟨⟨t.same hb (fun n hn=>?_) (fun a u ha hu e e1=>?_) (fun a u ha hu e e2=>?_) (fun k hk hk' hp=>?_),hb⟩,fun k hk hk' hn=>?_⟩
  .obtain⟨k,hk,rfl⟩:=List.getElem_of_mem hn
   rw[hst k (by omega) hk]
   split
   .simp
   .exact t.st _ (List.getElem_mem _)
  .rw[hst a (by omega) ha]at e1
   rw[hst u (by omega) hu]
   rw[(hb.b a (by omega) ha).2]at e
   split
   .rfl
   .rename_i hu'
    by_cases hm:ancI N (a:Int) (i:Int)=true
    .exact absurd (Agz t.lk hi ((AcF t.lk (by omega) e).2 (.inr (AdD t.lk (by omega)))) hm) hu'
    .rw[if_neg hm]at e1
     exact t.cl1 a u (by omega) (by omega) e e1
  .rw[hst u (by omega) hu]at e2
   rw[hst a (by omega) ha]
   rw[(hb.b a (by omega) ha).2]at e
   by_cases hm:ancI N (u:Int) (i:Int)=true
   .rw[if_pos hm]at e2;omega
   .rw[if_neg hm]at e2
    have:=t.cl2 a u (by omega) (by omega) e e2
    split
    .rename_i ha'
     exact absurd this (h3 a ((hmem a).2 ha') (by omega))
    .exact this
  .rw[hst k hk hk']
   split
   .rfl
   .exact t.pay _ (List.getElem_mem hk) hp
  .rw[hst k hk hk']
   split
   .omega
   .exact hn
theorem Ajt{N M:List Nod}{i:Nat}(t:TI N)(hi:i<N.length)(h:condN N (i:Int)=(0,M)):Judged N M/\∀k (hk:k<N.length) (hk':k<M.length),ancI N (i:Int) (k:Int)=false->M[k].st=N[k].st:=by
 unfold condN at h
 rw[AcB (by omega) (by omega),if_pos rfl,Int.toNat_natCast]at h
 unfold stR at h
 split at h
 .simp at h
 .rename_i M' hs
  injection h with _ h
  subst h
  obtain⟨h1,h2,h3⟩:=AeR (by decide) (fun k hk=>AiD hk) hs
  have hb:SameB N M':=⟨h1,fun k hk hk'=>by rw[h2 k hk hk'];split<;>exact⟨rfl,rfl⟩⟩
  have hst:∀k (hk:k<N.length) (hk':k<M'.length),M'[k].st=if ancI N (i:Int) (k:Int)=true then 2 else N[k].st:=fun k hk hk'=>by
   rw[h2 k hk hk']
   by_cases hm:ancI N (i:Int) (k:Int)=true
   .rw[if_pos ((Afv hk).2 hm),if_pos hm]
   .rw[if_neg (fun e=>hm ((Afv hk).1 e)),if_neg hm]
  have hno:∀k (hk:k<N.length),ancI N (i:Int) (k:Int)=true->N[k].st≠1:=fun k hk hm=>h3 k ((Afv hk).2 hm) hk
  refine⟨⟨t.same hb (fun n hn=>?_) (fun a u ha hu e e1=>?_) (fun a u ha hu e e2=>?_) (fun k hk hk' hp=>?_),hb⟩,fun k hk hk' hn=>?_⟩
  .obtain⟨k,hk,rfl⟩:=List.getElem_of_mem hn
   rw[hst k (by omega) hk]
   split
   .simp
   .exact t.st _ (List.getElem_mem _)
  .rw[hst a (by omega) ha]at e1
   rw[hst u (by omega) hu]
   rw[(hb.b a (by omega) ha).2]at e
   by_cases hm:ancI N (i:Int) (a:Int)=true
   .rw[if_pos hm]at e1;omega
   .rw[if_neg hm]at e1
    rw[if_neg (fun hx=>hm ((AcF t.lk (by omega) e).2 (.inr hx)))]
    exact t.cl1 a u (by omega) (by omega) e e1
  .rw[hst u (by omega) hu]at e2
   rw[hst a (by omega) ha]
   rw[(hb.b a (by omega) ha).2]at e
   by_cases hm:ancI N (i:Int) (u:Int)=true
   .rw[if_pos ((AcF t.lk (by omega) e).2 (.inr hm))]
   .rw[if_neg hm]at e2
    split
    .rfl
    .exact t.cl2 a u (by omega) (by omega) e e2
  .rw[hst k hk hk']
   have:=t.pay _ (List.getElem_mem hk) hp
   split
   .rename_i hm;exact absurd this (hno k hk hm)
   .exact this
  .rw[hst k hk hk',hn];simp
theorem Ako{N M:List Nod}{i:Nat}{v:Vd}{keep:List Nat}(t:TI N)(hi:i<N.length)(h:judgeN N (i:Int) v (keep.map fun(k:Nat)=>(k:Int))=(0,M)):Judged N M/\∀k∈keep,∀(hk:k<N.length) (hk':k<M.length),N[k].st≠2->M[k].st≠2:=by
 unfold judgeN at h
 rw[AcB (by omega) (by omega)]at h
 simp only[Bool.true_eq_false,if_false]at h
 split at h
 .obtain⟨h1,h2⟩:=Ahm t hi h
  exact⟨h1,fun k _ hk hk'=>h2 k hk hk'⟩
 .split at h
  .injection h with _ h
   subst h
   exact⟨⟨t,SameB.refl _⟩,fun k _ hk hk' e=>e⟩
  .split at h
   .simp at h
   .split at h
    .simp at h
    .rename_i hk
     have hkk:∀k∈keep,ancI N (reachN N (i:Int) v.latest).2 (k:Int)=false:=fun k hkm=>by
      simp only[List.any_map,List.any_eq_true,not_exists,not_and,Function.comp_apply,Bool.not_eq_true]at hk
      exact hk k hkm
     generalize(reachN N (i:Int) v.latest).2=rc at *
     generalize(reachN N (i:Int) v.latest).1=rv at *
     have C:∀{N' M:List Nod},TI N'->condN N' rc=(0,M)->∃c:Nat,rc=(c:Int)/\c<N'.length:=fun {N' M} t' h=>by
      unfold condN at h
      split at h
      .rename_i hc
       obtain⟨c1,c2⟩:=Ab5 hc
       exact⟨rc.toNat,by omega,by omega⟩
      .simp at h
     unfold judge2 at h
     split at h
     .split at h
      .rename_i hrv hr0
       obtain⟨r,rfl⟩:∃r:Nat,rv=(r:Int):=⟨rv.toNat,by omega⟩
       obtain⟨M1,hM1⟩:∃M1,raiseN N (r:Int)=(0,M1):=⟨(raiseN N (r:Int)).2,by rw[<-hr0]⟩
       rw[hM1]at h
       simp only at h
       have hr:r<N.length:=by
        unfold raiseN at hM1
        split at hM1
        .rename_i hx;have:=Ab5 hx;omega
        .simp at hM1
       obtain⟨j1,j2⟩:=Ahm t hr hM1
       obtain⟨c,rfl,hc⟩:=C j1.t h
       obtain⟨k1,k2⟩:=Ajt j1.t hc h
       refine⟨⟨k1.t,j1.same.trans k1.same⟩,fun k hkm hkl hkl' hn=>?_⟩
       have hkM:k<M1.length:=by rw[j1.same.len];exact hkl
       rw[k2 k hkM hkl' (by rw[AlO j1.same.ups];exact hkk k hkm)]
       exact j2 k hkl hkM hn
      .rename_i hne
       injection h with h _
       exact absurd h hne
     .obtain⟨c,rfl,hc⟩:=C t h
      obtain⟨k1,k2⟩:=Ajt t hc h
      exact⟨k1,fun k hkm hkl hkl' hn=>by rw[k2 k hkl hkl' (hkk k hkm)];exact hn⟩
structure PrI(N:List Nod)(i k:Nat)(s:List Nod × List Int):Prop where
 len:s.2.length=k
 yes:∀j,(hj:j<N.length)->j<k->ancI N (i:Int) (j:Int)=true->∃p:Nat,∃hp:p<s.1.length,s.2.getD j (-1)=(p:Int)/\s.1[p] = {N[j]with up:=if j=i then -1 else s.2.getD N[j].up.toNat (-1)}
 src:∀p,p<s.1.length->∃j,j<k/\∃hj:j<N.length,ancI N (i:Int) (j:Int)=true/\s.2.getD j (-1)=(p:Int)
 mono:∀j j',(hj:j'<N.length)->j<j'->j'<k->ancI N (i:Int) (j:Int)=true->ancI N (i:Int) (j':Int)=true->s.2.getD j (-1)<s.2.getD j' (-1)
theorem Abb{l:List Int}{x:Int}{j:Nat}(h:j<l.length):(l ++ [x]).getD j (-1)=l.getD j (-1):=by simp[List.getD,List.getElem?_append_left h]
theorem Afs{l:List Int}{x:Int}:(l ++ [x]).getD l.length (-1)=x:=by simp[List.getD]
theorem prI{N:List Nod}(t:TI N){i:Nat}:∀k,k<=N.length->PrI N i k (prTo N i k)
 |0,_=>⟨by simp[prTo],fun j hj h=>by omega,fun p hp=>by simp[prTo]at hp,fun j j' hj h1 h2=>by omega⟩
 |k+1,hk=>by
  have ih:=prI t (i:=i) k (by omega)
  rw[AeX]
  generalize prTo N i k=s at *
  obtain⟨X,I⟩:=s
  have hI:I.length=k:=ih.len
  unfold prS
  rw[nget (show k<N.length by omega)]
  by_cases ha:ancI N (i:Int) (k:Int)=true
  .rw[if_pos ha]
   have hup:k≠i->∃u:Nat,N[k].up=(u:Int)/\u<k/\ancI N (i:Int) (u:Int)=true:=fun hne=>by
    rcases AdE t.lk (show k<N.length by omega)with⟨h1,_⟩|⟨u,h1,h2⟩
    .subst h1;exact absurd (Adk t.lk t.pos ha).symm hne
    .rcases(AcF t.lk (by omega) h2).1 ha with rfl|h3
     .exact absurd rfl hne
     .exact⟨u,h2,h1,h3⟩
   refine⟨by simp[hI],fun j hj hjk hja=>?_,fun p hp=>?_,fun j j' hj h1 h2 ha1 ha2=>?_⟩
   .rcases Nat.lt_or_ge j k with hlt|hge
    .obtain⟨p,hp,e1,e2⟩:=ih.yes j hj hlt hja
     simp only at hp e1 e2 |-
     refine⟨p,by simp;omega,by rw[Abb (by omega)];exact e1,?_⟩
     rw[List.getElem_append_left hp,e2]
     by_cases hji:j=i
     .rw[if_pos hji,if_pos hji]
     .rw[if_neg hji,if_neg hji,Abb]
      rcases AdE t.lk hj with⟨h1,h2⟩|⟨u,h1,h2⟩
      .subst h1;rw[h2];simp;omega
      .rw[h2,Int.toNat_natCast];omega
    .obtain rfl:j=k:=by omega
     refine⟨X.length,by simp,by simp only;rw[<-hI];exact Afs,?_⟩
     simp only
     rw[List.getElem_append_right (Nat.le_refl _)]
     simp only[Nat.sub_self,List.getElem_cons_zero]
     by_cases hji:j=i
     .rw[if_pos hji,if_pos hji]
     .rw[if_neg hji,if_neg hji]
      obtain⟨u,hu,hul,_⟩:=hup hji
      rw[hu,Int.toNat_natCast,Abb (by omega)]
   .simp only[List.length_append,List.length_singleton]at hp
    rcases Nat.lt_or_ge p X.length with hlt|hge
    .obtain⟨j,hj,hjl,hja,e⟩:=ih.src p hlt
     exact⟨j,by omega,hjl,hja,by simp only;rw[Abb (by omega)];exact e⟩
    .obtain rfl:p=X.length:=by omega
     exact⟨k,by omega,by omega,ha,by simp only;rw[<-hI];exact Afs⟩
   .simp only
    rcases Nat.lt_or_ge j' k with hlt|hge
    .rw[Abb (by omega),Abb (by omega)]
     exact ih.mono j j' hj h1 hlt ha1 ha2
    .obtain rfl:j'=k:=by omega
     rw[Abb (by omega)]
     obtain⟨p,hp,e1,_⟩:=ih.yes j (by omega) h1 ha1
     simp only at e1 hp
     have e2:(I ++ [(X.length:Int)]).getD j' (-1)=(X.length:Int):=by rw[<-hI];exact Afs
     rw[e2]
     omega
  .rw[if_neg ha]
   refine⟨by simp[hI],fun j hj hjk hja=>?_,fun p hp=>?_,fun j j' hj h1 h2 ha1 ha2=>?_⟩
   .have hlt:j<k:=by
     rcases Nat.lt_or_ge j k with h|h
     .exact h
     .obtain rfl:j=k:=by omega
      exact absurd hja ha
    obtain⟨p,hp,e1,e2⟩:=ih.yes j hj hlt hja
    simp only at hp e1 e2 |-
    refine⟨p,hp,by rw[Abb (by omega)];exact e1,?_⟩
    rw[e2]
    by_cases hji:j=i
    .rw[if_pos hji,if_pos hji]
    .rw[if_neg hji,if_neg hji,Abb]
     rcases AdE t.lk hj with⟨h1,h2⟩|⟨u,h1,h2⟩
     .subst h1;rw[h2];simp;omega
     .rw[h2,Int.toNat_natCast];omega
   .obtain⟨j,hj,hjl,hja,e⟩:=ih.src p hp
    exact⟨j,by omega,hjl,hja,by rw[Abb (show j<I.length by omega)];exact e⟩
   .have hlt:j'<k:=by
     rcases Nat.lt_or_ge j' k with h|h
     .exact h
     .obtain rfl:j'=k:=by omega
      exact absurd ha2 ha
    simp only
    rw[Abb (by omega),Abb (by omega)]
    exact ih.mono j j' hj h1 hlt ha1 ha2
structure Pruned(N:List Nod)(i:Nat)(P:List Nod):Prop where
 t:TI P
 first:∀(hi:i<N.length) (h:0<P.length),P[0] = {N[i]with up:=-1}
 src:∀n∈P,∃m∈N,n.b=m.b/\n.st=m.st
 has:∀j (hj:j<N.length),ancI N (i:Int) (j:Int)=true->∃p,∃hp:p<P.length,P[p].b=N[j].b/\P[p].st=N[j].st
 len:P.length<=N.length
theorem Ahp{N:List Nod}(t:TI N){i:Nat}(hi:i<N.length):Pruned N i (pruneN N i):=by
 have h:=prI t (i:=i) N.length (Nat.le_refl _)
 have hlen:=(Ahq N i N.length).1
 unfold pruneN
 generalize prTo N i N.length=s at *
 obtain⟨X,I⟩:=s
 simp only at hlen |-
 have pick:∀p,(hp:p<X.length)->∃j,∃hj:j<N.length,ancI N (i:Int) (j:Int)=true/\I.getD j (-1)=(p:Int)/\X[p] = {N[j]with up:=if j=i then -1 else I.getD N[j].up.toNat (-1)}:=fun p hp=>by
  obtain⟨j,_,hj,ha,e⟩:=h.src p hp
  obtain⟨q,hq,e1,e2⟩:=h.yes j hj hj ha
  simp only at e e1 e2 hq
  obtain rfl:q=p:=by omega
  exact⟨j,hj,ha,e,e2⟩
 have inj:∀j j',j<N.length->j'<N.length->ancI N (i:Int) (j:Int)=true->ancI N (i:Int) (j':Int)=true->I.getD j (-1)=I.getD j' (-1)->j=j':=fun j j' hj hj' ha ha' e=>by
  rcases Nat.lt_trichotomy j j' with hlt|heq|hgt
  .have:=h.mono j j' hj' hlt hj' ha ha';simp only at this;omega
  .exact heq
  .have:=h.mono j' j hj hgt hj ha' ha;simp only at this;omega
 obtain⟨p0,hp0,e0,x0⟩:=h.yes i hi hi (AdD t.lk hi)
 simp only at hp0 e0 x0
 have hp00:p0=0:=by
  rcases Nat.eq_zero_or_pos p0 with h0|h0
  .exact h0
  .obtain⟨j,hj,ha,e,_⟩:=pick 0 (by omega)
   have hij:=Ali t.lk hj ha
   rcases Nat.lt_or_ge i j with hlt|hge
   .have:=h.mono i j hj hlt hj (AdD t.lk hi) ha;simp only at this;omega
   .obtain rfl:i=j:=by omega
    omega
 subst hp00
 have upq:∀p (hp:p<X.length) (q:Nat),X[p].up=(q:Int)->∃j u,∃hj:j<N.length,∃hu:u<N.length,N[j].up=(u:Int)/\X[p].b=N[j].b/\X[p].st=N[j].st/\∃hq:q<X.length,X[q].b=N[u].b/\X[q].st=N[u].st/\q<p:=fun p hp q e=>by
  obtain⟨j,hj,ha,ej,xj⟩:=pick p hp
  rw[xj]at e
  simp only at e
  by_cases hji:j=i
  .rw[if_pos hji]at e;omega
  .rw[if_neg hji]at e
   rcases AdE t.lk hj with⟨h1,h2⟩|⟨u,h1,h2⟩
   .subst h1;exact absurd (Adk t.lk t.pos ha).symm hji
   .rcases(AcF t.lk hj h2).1 ha with rfl|hu
    .exact absurd rfl hji
    .rw[h2,Int.toNat_natCast]at e
     obtain⟨q',hq',e1,e2⟩:=h.yes u (by omega) (by omega) hu
     simp only at e1 e2 hq'
     obtain rfl:q'=q:=by omega
     have hlt:=h.mono u j hj h1 hj hu ha
     simp only at hlt
     exact⟨j,u,hj,by omega,h2,by rw[xj],by rw[xj],hq',by rw[e2],by rw[e2],by omega⟩
 refine⟨⟨Amx fun p hp=>?_,by omega,fun p p' hp hp' e=>?_,fun n hn=>?_,fun p q hp hq e=>?_,fun p q hp hq e e1=>?_,fun p q hp hq e e1=>?_,fun n hn hpay=>?_,fun n hn=>?_⟩,fun _ _=>?_,fun n hn=>?_,fun j hj ha=>?_,hlen⟩
 .obtain⟨j,hj,ha,ej,xj⟩:=pick p hp
  by_cases hji:j=i
  .subst hji
   refine .inl ⟨by omega,?_⟩
   rw[xj];simp
  .refine .inr ?_
   rcases AdE t.lk hj with⟨h1,h2⟩|⟨u,h1,h2⟩
   .subst h1;exact absurd (Adk t.lk t.pos ha).symm hji
   .rcases(AcF t.lk hj h2).1 ha with rfl|hu
    .exact absurd rfl hji
    .obtain⟨q',hq',e1,e2⟩:=h.yes u (by omega) (by omega) hu
     simp only at e1 e2 hq'
     have hlt:=h.mono u j hj h1 hj hu ha
     simp only at hlt
     refine⟨q',by omega,?_⟩
     rw[xj]
     simp only
     rw[if_neg hji,h2,Int.toNat_natCast]
     exact e1
 .obtain⟨j,hj,ha,ej,xj⟩:=pick p hp
  obtain⟨j',hj',ha',ej',xj'⟩:=pick p' hp'
  rw[xj,xj']at e
  have:=t.diff j j' hj hj' e
  subst this
  omega
 .obtain⟨p,hp,rfl⟩:=List.getElem_of_mem hn
  obtain⟨j,hj,ha,ej,xj⟩:=pick p hp
  rw[xj];exact t.st N[j] (List.getElem_mem hj)
 .obtain⟨j,u,hj,hu,e1,e2,e3,_,e4,e5,_⟩:=upq p hp q e
  rw[e2,e4];exact t.par j u hj hu e1
 .obtain⟨j,u,hj,hu,e1',e2,e3,_,e4,e5,_⟩:=upq p hp q e
  rw[e5];rw[e3]at e1;exact t.cl1 j u hj hu e1' e1
 .obtain⟨j,u,hj,hu,e1',e2,e3,_,e4,e5,_⟩:=upq p hp q e
  rw[e3];rw[e5]at e1;exact t.cl2 j u hj hu e1' e1
 .obtain⟨p,hp,rfl⟩:=List.getElem_of_mem hn
  obtain⟨j,hj,ha,ej,xj⟩:=pick p hp
  rw[xj]at hpay |-;exact t.pay N[j] (List.getElem_mem hj) hpay
 .obtain⟨p,hp,rfl⟩:=List.getElem_of_mem hn
  obtain⟨j,hj,ha,ej,xj⟩:=pick p hp
  rw[xj];exact t.nz N[j] (List.getElem_mem hj)
 .rw[x0];simp
 .obtain⟨p,hp,rfl⟩:=List.getElem_of_mem hn
  obtain⟨j,hj,ha,ej,xj⟩:=pick p hp
  exact⟨N[j],List.getElem_mem hj,by rw[xj],by rw[xj]⟩
 .obtain⟨q',hq',e1,e2⟩:=h.yes j hj hj ha
  simp only at e1 e2 hq'
  exact⟨q',hq',by rw[e2],by rw[e2]⟩
end Go.Proofs.YtmgeheaneohldaaGreat
