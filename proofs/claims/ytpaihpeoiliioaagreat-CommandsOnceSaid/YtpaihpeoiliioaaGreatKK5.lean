/- Texts joined: what the walks of this claim stand on (part 5). -/
import Derived.Test.YtpaihpeoiliioaaGreatKK4
set_option linter.all false
set_option maxRecDepth 20000
set_option maxHeartbeats 40000000
namespace Go.Proofs.YtpaihpeoiliioaaGreat
section
open Go.RowKit Old
def stR(r:Option (List Nod)):Int × List Nod:=match r with|none=>(21,[])|some M=>(0,M)
def raiseN(N:List Nod)(i:Int):Int × List Nod:=if isI i N.length=true then stR (setF 1 2 N (pathI N i))else(10,[])
theorem Alz(Γ:Gam)(x:Sl)(N:List Nod)(i:Int)(w:World)(ok:Ok Γ w)(h:NG Γ x N)(hk:Lk (upsN N))(h1:0<N.length)(hb:N.length<=4096) :
  Calls Tryz.prog 200 #[.agg [x.v].toArray,.int .i64 i] w (TrE Γ w (raiseN N i)):=by
 have M:=bx (MM.start ok)
 have ht:([[x.v]]:List (List Value)).map List.length = [1]:=rfl
 have IS:Bx (∀Γ w,Ok Γ w->Calls Tryz.prog 88 #[.agg [x.v].toArray,.int .i64 i] w fun e w'=>e=.returned (.bool (isI i N.length))/\Ext Γ w Γ w'):=⟨fun Γ w ok=>by have:=Adu Γ x i w ok;rwa [h.n]at this⟩
 have PA:=bx (fun w ok=>Add Γ x N i w ok h hk hb)
 have HG:=bx h
 clear ok
 change Calls Tryz.prog _ #[.agg (fl [[x.v]]).toArray,_] _ _
 cases hi:isI i N.length with
 |false=>
  have HR:Bx (raiseN N i=(10,[])):=⟨by unfold raiseN;rw[hi];rfl⟩
  rw[hi]at IS
  clear h hk h1 hb hi
  go_enter Tryz.func200,Tryz.ntmps200
  go_wp2_with (first|((first|refine zBYo (ht) ?_|refine zALo (Aa1) ?_);clear M;intro w' g M)|refine zLDo (M.o.at1) ?_)
  refine zCA M (IS.o _ _ M.ok) ?_;clear M;intro w1 M
  go_wp2_with (first|refine zBDo 46 [] [.slice none 0 0] (by kernel_rfl) ?_|(refine zSSo M 0 [[.slice none 0 0]] [[.slice none 0 0]] (by rfl) (Aak _ _ _) ?_;clear M;intro w' M))
  (try refine zsm ?_);refine bodyPost_ret (AaN (by rfl) _ M.o.at0 (by rfl) Aap rfl) rfl ?_
  exact TrE.err HR.o M.o.ext
 |true=>
  have HR:Bx (raiseN N i=stR (setF 1 2 N (pathI N i))):=⟨by unfold raiseN;rw[if_pos hi]⟩
  rw[hi]at IS
  have SE:=bx (fun Γ' A c w ok h hl=>Aj8 Γ' x N A c (pathI N i) 1 2 w ok h h1 hb hl (fun k hm=>(Ac4 hk hm).1) (Nat.le_trans (AeO hk i) (by omega)))
  clear h hk h1 hb hi
  generalize setF 1 2 N (pathI N i)=r at *
  generalize pathI N i=K at *
  go_enter Tryz.func200,Tryz.ntmps200
  go_wp2_with (first|((first|refine zBYo (ht) ?_|refine zALo (Aa1) ?_);clear M;intro w' g M)|refine zLDo (M.o.at1) ?_)
  refine zCA M (IS.o _ _ M.ok) ?_;clear M;intro w1 M
  go_wp2_with (fail)
  refine AaB [9] (.steps [(0,0),(0,1),(1,2)] (.fork 3 (.fork 4 (.steps [(1,5),(1,6),(1,7),(2,8),(3,9),(1,10)] .leaf) 8 (.steps [(2,4),(1,5),(1,6),(1,7),(3,9),(1,10)] .leaf)) 8 (.steps [(2,3),(2,4),(1,5),(1,6),(1,7),(3,9),(1,10)] .leaf))) (by kernel_rfl) (by kernel_rfl) ?_
  simp only[MixT6,MT.steps,stepAt,List.getD_cons_zero,List.getD_cons_succ]
  replace M:=bx (M.o.drew)
  have Q1:=bx M.o.at1.cls
  (repeat(first|(with_reducible refine wpQuiet_nil ?_)|((go_big_quiet_want;first|(refine zQL Q1.o ht ?_;go_big_quiet_on;refine zNM ?_)|(refine zQO ?_;go_big_quiet_on)))))
  clear Q1
  refine⟨?_,?_⟩
  .refine zMC (PA.o _ M.ok) Tryz.func49 ?_;rintro e2 w2 ⟨A2,c2,Γ2,rfl,hcap2,hsl2,hx2⟩;refine⟨_,rfl,hx2.bel,?_⟩;replace M:=bx (M.o.call hx2);have HS2:=bx hsl2;clear hcap2 hsl2 hx2;refine zNM ?_
   refine⟨?_,?_⟩
   focus
    refine zMC (SE.o _ A2 c2 _ M.ok (HG.o.mono M.o.ext.le) HS2.o) Tryz.func213 ?_;rintro e3 w3 ⟨x3,Γ3,rfl,hn3,hx3⟩;refine⟨_,rfl,hx3.bel,?_⟩;replace M:=bx (M.o.call hx3);have HN3:=bx hn3;clear hn3 hx3;refine zNM ?_
    (repeat(first|(with_reducible refine wpQuiet_nil ?_)|((go_big_quiet_want;(refine zQO ?_;go_big_quiet_on)))))
    refine AaA (AaR rfl Aa1) rfl ?_;refine⟨ext_alloc _ _,?_⟩;replace M:=bx (M.o.alloc (P:=[[.slice none 0 0]]) (ls:=[1]) rfl rfl 46);refine zNM ?_
   rotate_left
   focus
    refine AaA (AaR rfl Aa1) rfl ?_;refine⟨ext_alloc _ _,?_⟩;replace M:=bx (M.o.alloc (P:=[[.slice none 0 0]]) (ls:=[1]) rfl rfl 46);refine zNM ?_
    refine zMC (SE.o _ A2 c2 _ M.ok (HG.o.mono M.o.ext.le) HS2.o) Tryz.func213 ?_;rintro e3 w3 ⟨x3,Γ3,rfl,hn3,hx3⟩;refine⟨_,rfl,hx3.bel,?_⟩;replace M:=bx (M.o.call hx3);have HN3:=bx hn3;clear hn3 hx3;refine zNM ?_
    (repeat(first|(with_reducible refine wpQuiet_nil ?_)|((go_big_quiet_want;(refine zQO ?_;go_big_quiet_on)))))
   all_goals
    refine Aam M.o 0 [[x3.v]] [[x3.v]] rfl rfl rfl rfl Aap rfl rfl (Aak _ _ _) rfl rfl ?_;intro w7 M';(simp only[List.set_cons_zero]at M');(replace M:=bx M';clear M');refine zNM ?_;(repeat(first|(with_reducible refine wpQuiet_nil ?_)|((go_big_quiet_want;(refine zQO ?_;go_big_quiet_on)))));refine NoPanic.normal ?_;cases r with|none=>((go_wp2_with (first|refine zBDo 46 [] [.slice none 0 0] (by kernel_rfl) ?_|(refine zSSo M 1 [[.slice none 0 0]] [[.slice none 0 0]] (by rfl) (Aak _ _ _) ?_;clear M;intro w' M)));(try refine zsm ?_);refine bodyPost_ret (AaN (by rfl) _ M.o.at1 (by rfl) Aap rfl) rfl ?_;exact TrE.err HR.o M.o.ext)|some N'=>((go_wp2_with (first|refine zLDo (M.o.at0) ?_|(refine zSSo M 1 [[x3.v]] [[x3.v]] (by rfl) (Aak _ _ _) ?_;clear M;intro w' M)));(try refine zsm ?_);refine bodyPost_ret (AaN (by rfl) _ M.o.at1 (by rfl) Aap rfl) rfl ?_;rw[HR.o];exact⟨x3,_,rfl,HN3.o,M.o.ext⟩)
  .refine AaA (AaR rfl Aa1) rfl ?_;refine⟨ext_alloc _ _,?_⟩;replace M:=bx (M.o.alloc (P:=[[.slice none 0 0]]) (ls:=[1]) rfl rfl 46);refine zNM ?_
   refine zMC (PA.o _ M.ok) Tryz.func49 ?_;rintro e2 w2 ⟨A2,c2,Γ2,rfl,hcap2,hsl2,hx2⟩;refine⟨_,rfl,hx2.bel,?_⟩;replace M:=bx (M.o.call hx2);have HS2:=bx hsl2;clear hcap2 hsl2 hx2;refine zNM ?_
   refine zMC (SE.o _ A2 c2 _ M.ok (HG.o.mono M.o.ext.le) HS2.o) Tryz.func213 ?_;rintro e3 w3 ⟨x3,Γ3,rfl,hn3,hx3⟩;refine⟨_,rfl,hx3.bel,?_⟩;replace M:=bx (M.o.call hx3);have HN3:=bx hn3;clear hn3 hx3;refine zNM ?_
   (repeat(first|(with_reducible refine wpQuiet_nil ?_)|((go_big_quiet_want;(refine zQO ?_;go_big_quiet_on)))))
   refine Aam M.o 0 [[x3.v]] [[x3.v]] rfl rfl rfl rfl Aap rfl rfl (Aak _ _ _) rfl rfl ?_;intro w7 M';(simp only[List.set_cons_zero]at M');(replace M:=bx M';clear M');refine zNM ?_;(repeat(first|(with_reducible refine wpQuiet_nil ?_)|((go_big_quiet_want;(refine zQO ?_;go_big_quiet_on)))));refine NoPanic.normal ?_;cases r with|none=>((go_wp2_with (first|refine zBDo 46 [] [.slice none 0 0] (by kernel_rfl) ?_|(refine zSSo M 1 [[.slice none 0 0]] [[.slice none 0 0]] (by rfl) (Aak _ _ _) ?_;clear M;intro w' M)));(try refine zsm ?_);refine bodyPost_ret (AaN (by rfl) _ M.o.at1 (by rfl) Aap rfl) rfl ?_;exact TrE.err HR.o M.o.ext)|some N'=>((go_wp2_with (first|refine zLDo (M.o.at0) ?_|(refine zSSo M 1 [[x3.v]] [[x3.v]] (by rfl) (Aak _ _ _) ?_;clear M;intro w' M)));(try refine zsm ?_);refine bodyPost_ret (AaN (by rfl) _ M.o.at1 (by rfl) Aap rfl) rfl ?_;rw[HR.o];exact⟨x3,_,rfl,HN3.o,M.o.ext⟩)
def condN(N:List Nod)(i:Int):Int × List Nod:=if isI i N.length=true then stR (setF 2 1 N (descI N i.toNat))else(10,[])
theorem AjU(Γ:Gam)(x:Sl)(N:List Nod)(i:Int)(w:World)(ok:Ok Γ w)(h:NG Γ x N)(hk:Lk (upsN N))(h1:0<N.length)(hb:N.length<=4096) :
  Calls Tryz.prog 202 #[.agg [x.v].toArray,.int .i64 i] w (TrE Γ w (condN N i)):=by
 have M:=bx (MM.start ok)
 have ht:([[x.v]]:List (List Value)).map List.length = [1]:=rfl
 have IS:Bx (∀Γ w,Ok Γ w->Calls Tryz.prog 88 #[.agg [x.v].toArray,.int .i64 i] w fun e w'=>e=.returned (.bool (isI i N.length))/\Ext Γ w Γ w'):=⟨fun Γ w ok=>by have:=Adu Γ x i w ok;rwa [h.n]at this⟩
 have PA0:=bx (fun w ok=>AmW Γ x N i.toNat w ok h hk hb)
 have HG:=bx h
 clear ok
 change Calls Tryz.prog _ #[.agg (fl [[x.v]]).toArray,_] _ _
 cases hi:isI i N.length with
 |false=>
  have HR:Bx (condN N i=(10,[])):=⟨by unfold condN;rw[hi];rfl⟩
  rw[hi]at IS
  clear h hk h1 hb hi
  go_enter Tryz.func202,Tryz.ntmps202
  go_wp2_with (first|((first|refine zBYo (ht) ?_|refine zALo (Aa1) ?_);clear M;intro w' g M)|refine zLDo (M.o.at1) ?_)
  refine zCA M (IS.o _ _ M.ok) ?_;clear M;intro w1 M
  go_wp2_with (first|refine zBDo 46 [] [.slice none 0 0] (by kernel_rfl) ?_|(refine zSSo M 0 [[.slice none 0 0]] [[.slice none 0 0]] (by rfl) (Aak _ _ _) ?_;clear M;intro w' M))
  (try refine zsm ?_);refine bodyPost_ret (AaN (by rfl) _ M.o.at0 (by rfl) Aap rfl) rfl ?_
  exact TrE.err HR.o M.o.ext
 |true=>
  have HR:Bx (condN N i=stR (setF 2 1 N (descI N i.toNat))):=⟨by unfold condN;rw[if_pos hi]⟩
  rw[hi]at IS
  have PA:Bx (∀w,Ok Γ w->Calls Tryz.prog 109 #[.agg [x.v].toArray,.int .i64 i] w (NisP Γ w (descI N i.toNat))):=⟨fun w ok=>by have e:((i.toNat:Nat):Int)=i:=(by have:=AcF hi;omega);have:=PA0.o w ok;rwa [e]at this⟩
  clear PA0
  have SE:=bx (fun Γ' A c w ok h hl=>Aj8 Γ' x N A c (descI N i.toNat) 2 1 w ok h h1 hb hl (fun k hm=>AkU hm) (Nat.le_trans (Amp N _) (by omega)))
  clear h hk h1 hb hi
  generalize setF 2 1 N (descI N i.toNat)=r at *
  generalize descI N i.toNat=K at *
  go_enter Tryz.func202,Tryz.ntmps202
  go_wp2_with (first|((first|refine zBYo (ht) ?_|refine zALo (Aa1) ?_);clear M;intro w' g M)|refine zLDo (M.o.at1) ?_)
  refine zCA M (IS.o _ _ M.ok) ?_;clear M;intro w1 M
  go_wp2_with (fail)
  refine AaB [9] (.steps [(0,0),(0,1),(1,2)] (.fork 3 (.fork 4 (.steps [(1,5),(1,6),(1,7),(2,8),(3,9),(1,10)] .leaf) 8 (.steps [(2,4),(1,5),(1,6),(1,7),(3,9),(1,10)] .leaf)) 8 (.steps [(2,3),(2,4),(1,5),(1,6),(1,7),(3,9),(1,10)] .leaf))) (by kernel_rfl) (by kernel_rfl) ?_
  simp only[MixT6,MT.steps,stepAt,List.getD_cons_zero,List.getD_cons_succ]
  replace M:=bx (M.o.drew)
  have Q1:=bx M.o.at1.cls
  (repeat(first|(with_reducible refine wpQuiet_nil ?_)|((go_big_quiet_want;first|(refine zQL Q1.o ht ?_;go_big_quiet_on;refine zNM ?_)|(refine zQO ?_;go_big_quiet_on)))))
  clear Q1
  refine⟨?_,?_⟩
  .refine zMC (PA.o _ M.ok) Tryz.func109 ?_;rintro e2 w2 ⟨A2,c2,Γ2,rfl,hcap2,hsl2,hx2⟩;refine⟨_,rfl,hx2.bel,?_⟩;replace M:=bx (M.o.call hx2);have HS2:=bx hsl2;clear hcap2 hsl2 hx2;refine zNM ?_
   refine⟨?_,?_⟩
   focus
    refine zMC (SE.o _ A2 c2 _ M.ok (HG.o.mono M.o.ext.le) HS2.o) Tryz.func213 ?_;rintro e3 w3 ⟨x3,Γ3,rfl,hn3,hx3⟩;refine⟨_,rfl,hx3.bel,?_⟩;replace M:=bx (M.o.call hx3);have HN3:=bx hn3;clear hn3 hx3;refine zNM ?_
    (repeat(first|(with_reducible refine wpQuiet_nil ?_)|((go_big_quiet_want;(refine zQO ?_;go_big_quiet_on)))))
    refine AaA (AaR rfl Aa1) rfl ?_;refine⟨ext_alloc _ _,?_⟩;replace M:=bx (M.o.alloc (P:=[[.slice none 0 0]]) (ls:=[1]) rfl rfl 46);refine zNM ?_
   rotate_left
   focus
    refine AaA (AaR rfl Aa1) rfl ?_;refine⟨ext_alloc _ _,?_⟩;replace M:=bx (M.o.alloc (P:=[[.slice none 0 0]]) (ls:=[1]) rfl rfl 46);refine zNM ?_
    refine zMC (SE.o _ A2 c2 _ M.ok (HG.o.mono M.o.ext.le) HS2.o) Tryz.func213 ?_;rintro e3 w3 ⟨x3,Γ3,rfl,hn3,hx3⟩;refine⟨_,rfl,hx3.bel,?_⟩;replace M:=bx (M.o.call hx3);have HN3:=bx hn3;clear hn3 hx3;refine zNM ?_
    (repeat(first|(with_reducible refine wpQuiet_nil ?_)|((go_big_quiet_want;(refine zQO ?_;go_big_quiet_on)))))
   all_goals
    refine Aam M.o 0 [[x3.v]] [[x3.v]] rfl rfl rfl rfl Aap rfl rfl (Aak _ _ _) rfl rfl ?_;intro w7 M';(simp only[List.set_cons_zero]at M');(replace M:=bx M';clear M');refine zNM ?_;(repeat(first|(with_reducible refine wpQuiet_nil ?_)|((go_big_quiet_want;(refine zQO ?_;go_big_quiet_on)))));refine NoPanic.normal ?_;cases r with|none=>((go_wp2_with (first|refine zBDo 46 [] [.slice none 0 0] (by kernel_rfl) ?_|(refine zSSo M 1 [[.slice none 0 0]] [[.slice none 0 0]] (by rfl) (Aak _ _ _) ?_;clear M;intro w' M)));(try refine zsm ?_);refine bodyPost_ret (AaN (by rfl) _ M.o.at1 (by rfl) Aap rfl) rfl ?_;exact TrE.err HR.o M.o.ext)|some N'=>((go_wp2_with (first|refine zLDo (M.o.at0) ?_|(refine zSSo M 1 [[x3.v]] [[x3.v]] (by rfl) (Aak _ _ _) ?_;clear M;intro w' M)));(try refine zsm ?_);refine bodyPost_ret (AaN (by rfl) _ M.o.at1 (by rfl) Aap rfl) rfl ?_;rw[HR.o];exact⟨x3,_,rfl,HN3.o,M.o.ext⟩)
  .refine AaA (AaR rfl Aa1) rfl ?_;refine⟨ext_alloc _ _,?_⟩;replace M:=bx (M.o.alloc (P:=[[.slice none 0 0]]) (ls:=[1]) rfl rfl 46);refine zNM ?_
   refine zMC (PA.o _ M.ok) Tryz.func109 ?_;rintro e2 w2 ⟨A2,c2,Γ2,rfl,hcap2,hsl2,hx2⟩;refine⟨_,rfl,hx2.bel,?_⟩;replace M:=bx (M.o.call hx2);have HS2:=bx hsl2;clear hcap2 hsl2 hx2;refine zNM ?_
   refine zMC (SE.o _ A2 c2 _ M.ok (HG.o.mono M.o.ext.le) HS2.o) Tryz.func213 ?_;rintro e3 w3 ⟨x3,Γ3,rfl,hn3,hx3⟩;refine⟨_,rfl,hx3.bel,?_⟩;replace M:=bx (M.o.call hx3);have HN3:=bx hn3;clear hn3 hx3;refine zNM ?_
   (repeat(first|(with_reducible refine wpQuiet_nil ?_)|((go_big_quiet_want;(refine zQO ?_;go_big_quiet_on)))))
   refine Aam M.o 0 [[x3.v]] [[x3.v]] rfl rfl rfl rfl Aap rfl rfl (Aak _ _ _) rfl rfl ?_;intro w7 M';(simp only[List.set_cons_zero]at M');(replace M:=bx M';clear M');refine zNM ?_;(repeat(first|(with_reducible refine wpQuiet_nil ?_)|((go_big_quiet_want;(refine zQO ?_;go_big_quiet_on)))));refine NoPanic.normal ?_;cases r with|none=>((go_wp2_with (first|refine zBDo 46 [] [.slice none 0 0] (by kernel_rfl) ?_|(refine zSSo M 1 [[.slice none 0 0]] [[.slice none 0 0]] (by rfl) (Aak _ _ _) ?_;clear M;intro w' M)));(try refine zsm ?_);refine bodyPost_ret (AaN (by rfl) _ M.o.at1 (by rfl) Aap rfl) rfl ?_;exact TrE.err HR.o M.o.ext)|some N'=>((go_wp2_with (first|refine zLDo (M.o.at0) ?_|(refine zSSo M 1 [[x3.v]] [[x3.v]] (by rfl) (Aak _ _ _) ?_;clear M;intro w' M)));(try refine zsm ?_);refine bodyPost_ret (AaN (by rfl) _ M.o.at1 (by rfl) Aap rfl) rfl ?_;rw[HR.o];exact⟨x3,_,rfl,HN3.o,M.o.ext⟩)
def reach1(N:List Nod)(l:List Nat):Option (Int × Int):=(l.find? fun k=>decide ((N.getD k n0).b.payload≠r0)).map fun k=>((N.getD k n0).up,(k:Int))
def reach2(N:List Nod)(l:List Nat)(p:Rt):Nat->Option (Int × Int)
 |0=>none
 |m+1=>if(N.getD (l.getD m 0) n0).b.payload=p then some ((l.getD m 0:Int),(l.getD (m+1) 0:Int))else reach2 N l p m
def reachN(N:List Nod)(i:Int)(p:Rt):Int × Int:=
 if pathI N i = []then(-1,-1)else if p=r0 then(reach1 N (pathI N i)).getD (-1,i)else(reach2 N (pathI N i) p ((pathI N i).length-1)).getD (-1,i)
theorem AkK{l:List Nat}{k:Nat}(h:k<l.length):l.getD k 0=l[k]:=by simp[List.getD,List.getElem?_eq_getElem h]
theorem Ai8{N:List Nod}{l:List Nat}(h:∀j (hj:j<l.length),(N.getD l[j] n0).b.payload=r0):reach1 N l=none:=by
 unfold reach1
 rw[List.find?_eq_none.2 fun k hk=>by
  obtain⟨j,hj,rfl⟩:=List.getElem_of_mem hk
  simpa using h j hj]
 rfl
theorem Ai7{N:List Nod}{l:List Nat}{k:Nat}(hk:k<l.length)(h:∀j (hj:j<k),(N.getD (l[j]'(by omega)) n0).b.payload=r0)(hp:(N.getD l[k] n0).b.payload≠r0):reach1 N l=some ((N.getD l[k] n0).up,(l[k]:Int)):=by
 unfold reach1
 have:l.find? (fun k=>decide ((N.getD k n0).b.payload≠r0))=some l[k]:=List.find?_eq_some_iff_getElem.2 ⟨by simpa using hp,k,hk,rfl,fun j hj=>by simpa using h j hj⟩
 rw[this];rfl
theorem Alx(Γ:Gam)(x:Sl)(N:List Nod)(i:Int)(p:Rt)(w:World)(ok:Ok Γ w)(h:NG Γ x N)(hk:Lk (upsN N))(hb:N.length<=4096) :
  Calls Tryz.prog 201 #[.agg [x.v].toArray,.int .i64 i,.agg (rc p).toArray] w fun e w'=>e=.returned (.tuple #[.int .i64 (reachN N i p).1,.int .i64 (reachN N i p).2])/\Ext Γ w Γ w':=by
 have M:=bx (MM.start ok)
 have OK:=bx ok
 have ht:([[x.v]]:List (List Value)).map List.length = [1]:=rfl
 have hr:([rc p]:List (List Value)).map List.length = [32]:=by simp[Aav]
 have LN:=bx h.n
 have HG:=bx h
 have PA:=bx (fun w ok=>Add Γ x N i w ok h hk hb)
 have PL:=bx (fun k (hm:k∈pathI N i)=>(Ac4 hk hm).1)
 have PN:=bx (Nat.le_trans (AeO hk i) hb)
 have RN:Bx (reachN N i p=if pathI N i = []then(-1,-1)else if p=r0 then(reach1 N (pathI N i)).getD (-1,i)else(reach2 N (pathI N i) p ((pathI N i).length-1)).getD (-1,i)):=⟨rfl⟩
 clear ok h hk hb
 generalize pathI N i=K at *
 generalize reachN N i p=r at *
 have hq:=Aa5 p r0
 change Calls Tryz.prog _ #[.agg (fl [[x.v]]).toArray,_,.agg (fl [rc p]).toArray] _ _
 go_enter Tryz.func201,Tryz.ntmps201
 go_wp2_with (first|((first|refine zBYo (ht) ?_|refine zBYo (hr) ?_);clear M;intro w' g M)|refine zLDo (M.o.at1) ?_)
 rename_i gt _ _ _ _
 refine(PA.o _ M.ok).mono ?_
 rintro e1 w1 ⟨A,c,Γ',rfl,hcap,hsl,hx⟩
 replace M:=bx (M.o.call hx)
 have HG':Bx (NG Γ' x N):=⟨HG.o.mono hx.le⟩
 have HS:=bx hsl
 clear hcap hsl hx PA HG
 have hkl:K.length<=4096:=PN.o
 rcases Nat.eq_zero_or_pos K.length with h0|h0
 .have HR:Bx (r=(-1,-1)):=⟨by rw[RN.o,if_pos (List.eq_nil_of_length_eq_zero h0)]⟩
  clear RN
  rw[h0]
  go_wp2_with fail
  go_ret2
  rw[HR.o]
  exact⟨rfl,Ext.below OK.o M.bel⟩
 .have RN':=bx (RN.o.trans (if_neg (fun e=>by rw[e]at h0;exact absurd h0 (Nat.lt_irrefl _))))
  have hne:((K.length:Int)==0)=false:=beq_eq_false_iff_ne.2 (by omega)
  clear RN
  by_cases hp:p=r0
  .rw[decide_eq_true hp]at hq
   have RN:=bx (RN'.o.trans (if_pos hp))
   clear RN' hp
   go_wp2_with (first|refine zLDo (M.o.at0) ?_|refine zBDo 29 [] (rc r0) (by kernel_rfl) ?_)
   go_loopw [9] (fun j wr=>∃k:Nat,k<=K.length/\j=.int .i64 k/\(∀m (hm:m<K.length),m<k->(N.getD K[m] n0).b.payload=r0)/\MM Γ w Γ' wr [⟨g,[rc p],[32]⟩,⟨gt,[[x.v]],[1]⟩] []) (fun j _=>K.length-(intOf j).toNat)
   case atStart=>exact⟨0,Nat.zero_le _,rfl,fun j _ hj=>absurd hj (Nat.not_lt_zero _),M.o⟩
   case round=>
    obtain⟨k,hk,rfl,hno,hM⟩:=hrel
    clear M
    have M:=bx hM
    have HNO:=bx hno
    clear hM hno
    by_cases hkn:k<K.length
    .obtain⟨gk,rfl,hc⟩:=Aet HS.o k hkn
     have hyN:=PL.o _ (List.getElem_mem hkn)
     have SM:=bx (fun e=>Ai7 (N:=N) hkn (fun j hj=>HNO.o j (Nat.lt_trans hj hkn) hj) e)
     have NX:=bx (fun(e:(N.getD K[k] n0).b.payload=r0) m (hm:m<K.length) (hmk:m<k+1)=>(Nat.lt_or_eq_of_le (Nat.le_of_lt_succ hmk)).elim (HNO.o m hm) (fun h=>by subst h;exact e))
     generalize K[k]=y at *
     rw[nget hyN]at SM NX
     obtain⟨gn,hA,hcn⟩:=HG'.o.at (fun x _=>AbH x) y hyN
     have HA:=bx (Aei hA)
     have hq2:=Aa5 N[y].b.payload r0
     have hki:(k:Int)<(K.length:Int):=by omega
     have hk0:0<=(k:Int):=by omega
     have hyi:(y:Int)<(x.n:Int):=by rw[LN.o];omega
     have hy0:0<=(y:Int):=by omega
     have HKN:=bx hkn
     have HC:=bx hc
     have HCN:=bx hcn
     have Q1:=bx M.o.at1.cls
     have QC:=bx (CL.cls (ls:=[1]) hc rfl M.ok)
     have QN:=bx (CL.cls hcn (AaK _) M.ok)
     clear hc hcn hA
     generalize N[y]=z at *
     by_cases hz:z.b.payload=r0
     .rw[decide_eq_true hz]at hq2
      have NX':=bx (NX.o hz)
      clear NX SM hz
      go_wp2_with fail
      refine zRG ?_
      (repeat((go_big_quiet_want;first|(first|((first|refine zQE Q1.o (HA.o) ?_|refine zQR QC.o rfl ?_|refine zQR QN.o (AaK _) ?_|((with_reducible refine AaT 29 _ rfl [] (rc r0) ?_ (by kernel_rfl) ?_);rfl));go_big_quiet_on;refine zNM ?_))|(refine zQO ?_;go_big_quiet_on))))
      (refine zQN ?_;clear M;intro w4 M)
      clear Q1 QC QN
      go_wp2_with fail
      go_roundw
      case rel=>exact⟨k+1,by omega,by go_num,NX'.o,M.o⟩
      case measure=>have:=HKN.o;simp[intOf];omega
     .rw[decide_eq_false hz]at hq2
      have SM':=bx (SM.o hz)
      clear NX SM hz
      go_wp2_with fail
      refine zRG ?_
      (repeat((go_big_quiet_want;first|(first|((first|refine zQE Q1.o (HA.o) ?_|refine zQR QC.o rfl ?_|refine zQR QN.o (AaK _) ?_|((with_reducible refine AaT 29 _ rfl [] (rc r0) ?_ (by kernel_rfl) ?_);rfl));go_big_quiet_on;refine zNM ?_))|(refine zQO ?_;go_big_quiet_on))))
      (refine zQN ?_;clear M;intro w4 M)
      clear Q1 QC QN
      have Q1:=bx M.o.at1.cls
      have QC:=bx (CL.cls (ls:=[1]) HC.o rfl M.ok)
      have QN:=bx (CL.cls HCN.o (AaK _) M.ok)
      go_wp2_with fail
      refine zRG ?_
      (repeat((go_big_quiet_want;first|(first|((first|refine zQE Q1.o (HA.o) ?_|refine zQR QC.o rfl ?_|refine zQR QN.o (AaK _) ?_);go_big_quiet_on;refine zNM ?_))|(refine zQO ?_;go_big_quiet_on))))
      (refine zQN ?_;clear M;intro w4 M)
      clear Q1 QC QN
      go_wp2_with fail
      go_ret2
      rw[RN.o,SM'.o]
      exact⟨rfl,Ext.below OK.o M.bel⟩
    .obtain rfl:k=K.length:=by omega
     have HR:=bx (RN.o.trans (by rw[Ai8 (fun j hj=>HNO.o j hj hj)];rfl:_=((-1:Int),i)))
     go_wp2_with fail
     go_ret2
     rw[HR.o]
     exact⟨rfl,Ext.below OK.o M.bel⟩
  .rw[decide_eq_false hp]at hq
   have RN:=bx (RN'.o.trans (if_neg hp))
   clear RN' hp
   go_wp2_with (first|refine zLDo (M.o.at0) ?_|refine zBDo 29 [] (rc r0) (by kernel_rfl) ?_)
   have hi0:Bx ((K.length:Int)-2=((K.length-1:Nat):Int)-1):=⟨by omega⟩
   go_loopw [10] (fun j wr=>∃m:Nat,m<=K.length-1/\j=.int .i64 ((m:Int)-1)/\reach2 N K p m=reach2 N K p (K.length-1)/\MM Γ w Γ' wr [⟨g,[rc p],[32]⟩,⟨gt,[[x.v]],[1]⟩] []) (fun j _=>(intOf j+1).toNat)
   case atStart=>exact⟨K.length-1,Nat.le_refl _,by rw[hi0.o],rfl,M.o⟩
   case round=>
    obtain⟨m,hm,rfl,hre,hM⟩:=hrel
    clear M
    have M:=bx hM
    have RE:=bx hre
    clear hM hre
    rcases Nat.eq_zero_or_pos m with h0|hm0
    .subst h0
     have HR:=bx (RN.o.trans (by rw[<-RE.o];rfl:_=((-1:Int),i)))
     go_wp2_with fail
     go_ret2
     rw[HR.o]
     exact⟨rfl,Ext.below OK.o M.bel⟩
    .obtain⟨k,rfl⟩:∃k,m=k+1:=⟨m-1,by omega⟩
     have hki1:(((k+1:Nat):Int)-1)=(k:Int):=by omega
     rw[hki1]
     have hkn:k<K.length:=by omega
     have hkn1:k+1<K.length:=by omega
     obtain⟨gk,rfl,hc⟩:=Aet HS.o k hkn
     obtain⟨gk',e',hc1⟩:=Aet HS.o (k+1) hkn1
     injection e' with e'
     injection e' with e'
     subst e'
     have hyN:=PL.o _ (List.getElem_mem hkn)
     have R2:Bx (reach2 N K p (k+1)=if(N.getD K[k] n0).b.payload=p then some ((K[k]:Int),(K[k+1]:Int))else reach2 N K p k):=⟨by rw[reach2,AkK hkn,AkK hkn1]⟩
     generalize K[k]=y at *
     generalize K[k+1]=y1 at *
     rw[nget hyN]at R2
     obtain⟨gn,hA,hcn⟩:=HG'.o.at (fun x _=>AbH x) y hyN
     have HA:=bx (Aei hA)
     have hq2:=Aa5 N[y].b.payload p
     have hki:(k:Int)<(K.length:Int):=by omega
     have hk1i:(k:Int)+1<(K.length:Int):=by omega
     have hk0:0<=(k:Int):=by omega
     have hyi:(y:Int)<(x.n:Int):=by rw[LN.o];omega
     have hy0:0<=(y:Int):=by omega
     have F1:Bx (Fz _ _ _ _ _):=⟨hc,len1 _⟩
     have F2:Bx (Fz _ _ _ _ _):=⟨hc1,len1 _⟩
     have F3:Bx (Fz _ _ _ _ _):=⟨hcn,AaK _⟩
     clear hc hc1 hcn hA
     generalize N[y]=z at *
     by_cases hz:z.b.payload=p
     .rw[decide_eq_true hz]at hq2
      have HR:=bx (RN.o.trans (by rw[<-RE.o,R2.o,if_pos hz];rfl:_=((y:Int),(y1:Int))))
      clear R2 hz RE
      go_wp2_with fail
      refine zRG ?_;(repeat((go_big_quiet_want;first|((first|refine zQE M.o.at1.cls (HA.o) ?_|refine zQFo F1 ?_|refine zQFo F3 ?_|refine zQAo ?_);go_big_quiet_on;refine zNM ?_)|(refine zQO ?_;go_big_quiet_on))));(refine zQN ?_;clear M;intro w4 M)
      go_wp2_with fail
      refine zRG ?_;(repeat((go_big_quiet_want;first|((first|refine zQFo F1 ?_|refine zQFo F2 ?_);go_big_quiet_on;refine zNM ?_)|(refine zQO ?_;go_big_quiet_on))));(refine zQN ?_;clear M;intro w4 M)
      go_wp2_with fail
      go_ret2
      rw[HR.o]
      exact⟨rfl,Ext.below OK.o M.bel⟩
     .rw[decide_eq_false hz]at hq2
      have RE':Bx (reach2 N K p k=reach2 N K p (K.length-1)):=⟨by rw[<-RE.o,R2.o,if_neg hz]⟩
      clear R2 hz RE
      go_wp2_with fail
      refine zRG ?_;(repeat((go_big_quiet_want;first|((first|refine zQE M.o.at1.cls (HA.o) ?_|refine zQFo F1 ?_|refine zQFo F3 ?_|refine zQAo ?_);go_big_quiet_on;refine zNM ?_)|(refine zQO ?_;go_big_quiet_on))));(refine zQN ?_;clear M;intro w4 M)
      go_wp2_with fail
      go_roundw
      case rel=>exact⟨k,by omega,by go_num,RE'.o,M.o⟩
      case measure=>simp[intOf]<;>omega
def VTo(l:List Int)(n:Int)(k:Nat):Prop:=∀j (hj:j<l.length),j<k->(0<=l[j]/\l[j]<n)/\∀(_:0<j),l[j-1]<l[j]
def VList(l:List Int)(n:Int):Prop:=l ≠ []/\VTo l n l.length
theorem VTo.zero(l:List Int)(n:Int):VTo l n 0:=fun _ _ h=>absurd h (Nat.not_lt_zero _)
theorem VTo.succ{l:List Int}{n:Int}{k:Nat}(h:VTo l n k)(hk:k<l.length)(h1:0<=l[k])(h2:l[k]<n)(h3:∀_:0<k,l[k-1]<l[k]):VTo l n (k+1):=fun j hj hjk=>by
 rcases Nat.lt_or_eq_of_le (Nat.le_of_lt_succ hjk)with h4|rfl
 .exact h j hj h4
 .exact⟨⟨h1,h2⟩,h3⟩
theorem Afk{Γ:Gam}{A:Option Addr}{l:List Int}(h:SlG Γ A l.length (ints .i64 l))(i:Nat)(hi:i<l.length):∃g,A=some ⟨g,0,none⟩/\Fz Γ g i [[.int .i64 l[i]]] [1]:=by
 have h':SlG Γ A l.length (l.flatMap fun x=>[Value.int .i64 x]):=by rw[<-List.map_eq_flatMap];exact h
 obtain⟨g,h1,h2⟩:=h'.at (k:=1) (fun x _=>rfl) rfl i hi
 exact⟨g,h1,by rw[Nat.mul_one]at h2;exact h2,rfl⟩
theorem Aco(Γ:Gam)(A:Option Addr)(c:Nat)(l:List Int)(n:Int)(w:World)(ok:Ok Γ w)(h:SlG Γ A l.length (ints .i64 l))(hb:l.length<=4611686018427387904) :
  Calls Tryz.prog 182 #[.slice A l.length c,.int .i64 n] w fun e w'=>∃er:Int,e=.returned (.int .i64 er)/\((er=0↔VList l n)/\er≠21)/\Ext Γ w Γ w':=by
 have M:=bx (MM.start ok)
 have HS:=bx h
 have HB:=bx hb
 have LN:Bx (l.length=0->¬VList l n):=⟨fun e h=>h.1 (List.eq_nil_of_length_eq_zero e)⟩
 clear ok h
 go_enter Tryz.func182,Tryz.ntmps182
 rcases Nat.eq_zero_or_pos l.length with h0|h0
 .have LN':=bx (LN.o h0)
  clear LN
  rw[h0]
  (go_wp2_with (fail))
  go_ret
  exact⟨2,rfl,⟨⟨fun e=>(by cases e),fun h=>absurd h LN'.o⟩,by decide⟩,M.o.ext⟩
 .have hne:((l.length:Int)==0)=false:=beq_eq_false_iff_ne.2 (by omega)
  have VL:Bx (VTo l n l.length->VList l n):=⟨fun h=>⟨fun e=>by rw[e]at h0;exact absurd h0 (Nat.lt_irrefl _),h⟩⟩
  clear LN
  (go_wp2_with (fail))
  go_loopw [5] (fun j wr=>∃k:Nat,k<=l.length/\j=.int .i64 k/\VTo l n k/\MM Γ w Γ wr [] []) (fun j _=>l.length-(intOf j).toNat)
  case atStart=>exact⟨0,Nat.zero_le _,rfl,VTo.zero _ _,M.o⟩
  case round=>
   obtain⟨k,hk,rfl,hv,hM⟩:=hrel
   clear M
   have M:=bx hM
   have HV:=bx hv
   clear hM hv
   by_cases hkn:k<l.length
   .obtain⟨gk,rfl,hc⟩:=Afk HS.o k hkn
    have F1:=bx hc
    have NX:=bx (HV.o.succ hkn)
    have NO1:Bx (¬(0<=l[k]/\l[k]<n)->¬VList l n):=⟨fun h h'=>h (h'.2 k hkn hkn).1⟩
    have NO2:Bx (∀_:0<k,¬l[k-1]<l[k]->¬VList l n):=⟨fun h0 h h'=>h ((h'.2 k hkn hkn).2 h0)⟩
    have hki:(k:Int)<(l.length:Int):=by omega
    have hk0:0<=(k:Int):=by omega
    clear hc
    by_cases h1:l[k]<0
    .have NO:=bx (NO1.o (by omega))
     generalize l[k]=y at *
     clear NX NO1 NO2 VL
     (go_wp2_with (refine zRFo F1 ?_))
     go_ret
     exact⟨3,rfl,⟨⟨fun e=>(by cases e),fun h=>absurd h NO.o⟩,by decide⟩,M.o.ext⟩
    by_cases h2:n<=l[k]
    .have NO:=bx (NO1.o (by omega))
     generalize l[k]=y at *
     clear NX NO1 NO2 VL
     (go_wp2_with (refine zRFo F1 ?_))
     go_ret
     exact⟨3,rfl,⟨⟨fun e=>(by cases e),fun h=>absurd h NO.o⟩,by decide⟩,M.o.ext⟩
    rcases Nat.eq_zero_or_pos k with hk00|hkp
    .subst hk00
     have NX':=bx (NX.o (by omega) (by omega) (fun h=>absurd h (Nat.lt_irrefl _)))
     generalize l[0]=y at *
     clear NX NO1 NO2
     (go_wp2_with (refine zRFo F1 ?_))
     refine zRG ?_;(repeat(first|go_big_quiet_skip|(go_big_quiet_want;(refine zQO ?_;go_big_quiet_on))));(refine zQN ?_;clear M;intro w4 M)
     (go_wp2_with (fail))
     go_roundw
     case rel=>exact⟨1,by omega,by go_num,NX'.o,M.o⟩
     case measure=>simp[intOf]<;>omega
    .obtain⟨k',rfl⟩:∃k',k=k'+1:=⟨k-1,by omega⟩
     obtain⟨gk',e',hc1⟩:=Afk HS.o k' (by omega)
     injection e' with e'
     injection e' with e'
     subst e'
     have F2:=bx hc1
     have hkk:((k'+1:Nat):Int)-1=(k':Int):=by omega
     have hkg:(0:Int)<((k'+1:Nat):Int):=by omega
     have NO2':Bx (¬l[k']<l[k'+1]->¬VList l n):=⟨fun b=>NO2.o hkp b⟩
     clear NO2
     by_cases h3:l[k']<l[k'+1]
     .have NX':=bx (NX.o (by omega) (by omega) (fun h=>h3))
      have h3':¬l[k'+1]<=l[k']:=by omega
      generalize l[k'+1]=y at *
      generalize l[k']=y1 at *
      clear NX NO1 NO2' hc1
      (go_wp2_with (refine zRFo F1 ?_))
      refine zRG ?_;(repeat((go_big_quiet_want;first|((first|refine zQFo F1 ?_|refine zQFo F2 ?_);go_big_quiet_on;refine zNM ?_)|(refine zQO ?_;go_big_quiet_on))));(refine zQN ?_;clear M;intro w4 M)
      (go_wp2_with (fail))
      go_roundw
      case rel=>exact⟨k'+1+1,by omega,by go_num,NX'.o,M.o⟩
      case measure=>simp[intOf]<;>omega
     .have NO:=bx (NO2'.o h3)
      have h3':l[k'+1]<=l[k']:=by omega
      generalize l[k'+1]=y at *
      generalize l[k']=y1 at *
      clear NX NO1 NO2' hc1
      (go_wp2_with (refine zRFo F1 ?_))
      refine zRG ?_;(repeat((go_big_quiet_want;first|((first|refine zQFo F1 ?_|refine zQFo F2 ?_);go_big_quiet_on;refine zNM ?_)|(refine zQO ?_;go_big_quiet_on))));(refine zQN ?_;clear M;intro w4 M)
      (go_wp2_with (fail))
      go_ret
      exact⟨8,rfl,⟨⟨fun e=>(by cases e),fun h=>absurd h NO.o⟩,by decide⟩,M.o.ext⟩
   .obtain rfl:k=l.length:=by omega
    have HR:=bx (VL.o HV.o)
    (go_wp2_with (fail))
    go_ret
    exact⟨0,rfl,⟨⟨fun _=>HR.o,fun _=>rfl⟩,by decide⟩,M.o.ext⟩
end
section
open Go.RowKit
def U64(l:List Int):Prop:=∀x∈l,0<=x/\x<18446744073709551616
def k_addV(a b:Int):Int:=if a+b<18446744073709551616 then a+b else 0
def k_addE(a b:Int):Int:=if a+b<18446744073709551616 then 0 else 4
theorem AmO(a b:Int)(ha:0<=a)(ha':a<18446744073709551616)(hb:0<=b)(hb':b<18446744073709551616)(w:World) :
  Calls Tryz.prog 107 #[.int .u64 a,.int .u64 b] w fun e w'=>e=.returned (.tuple #[.int .u64 (k_addV a b),.int .i64 (k_addE a b)])/\w=w':=by
 go_enter Tryz.func107,Tryz.ntmps107
 go_wp2
 .have h:18446744073709551615-b<a:=by assumption
  go_ret2
  unfold k_addV k_addE
  rw[if_neg (by omega),if_neg (by omega)]
  exact⟨rfl,rfl⟩
 .have h:a<=18446744073709551615-b:=by assumption
  go_ret2
  unfold k_addV k_addE
  rw[if_pos (by omega),if_pos (by omega)]
  exact⟨rfl,rfl⟩
def k_sumV(l:List Int):Int:=if l.sum<18446744073709551616 then l.sum else 0
def k_sumE(l:List Int):Int:=if l.sum<18446744073709551616 then 0 else 4
theorem Adc{l:List Int}(h:U64 l):0<=l.sum:=by
 induction l with
 |nil=>simp
 |cons a l ih=>
  have h1:=h a (by simp)
  have h2:=ih (fun x hx=>h x (by simp[hx]))
  simp only[List.sum_cons];omega
theorem AhK{l:List Int}(h:U64 l)(k:Nat):(l.take k).sum<=l.sum:=by
 have h1:(l.take k).sum+(l.drop k).sum=l.sum:=by rw[<-List.sum_append_int,List.take_append_drop]
 have h2:0<=(l.drop k).sum:=Adc fun x hx=>h x (List.mem_of_mem_drop hx)
 omega
theorem Afj{l:List Int}{k:Nat}(hk:k<l.length):(l.take (k+1)).sum=(l.take k).sum+l[k]:=by
 rw[List.take_succ_eq_append_getElem hk,List.sum_append_int];simp
theorem AmN(B:Nat)(A:Option Addr)(n c:Nat)(l:List Int)(w:World)(hr:Row w B 1 A n (ints .u64 l))(hl:U64 l)(hn:n<=9223372036854775807) :
  Calls Tryz.prog 70 #[.slice A n c] w fun e w'=>e=.returned (.tuple #[.int .u64 (k_sumV l),.int .i64 (k_sumE l)])/\w=w':=by
 have hlen:l.length=n:=by have:=hr.1;simpa [ints]using this
 go_enter Tryz.func70,Tryz.ntmps70
 go_wp2
 go_loop [4,5] (fun s i=>∃k:Nat,k<=n/\i=.int .i64 k/\s=.int .u64 (l.take k).sum/\(l.take k).sum<18446744073709551616) (fun _ i=>n-(intOf i).toNat)
 case atStart=>exact⟨0,Nat.zero_le _,rfl,by simp,by simp⟩
 case round=>
  obtain⟨k,hk,rfl,rfl,hlt⟩:=hrel
  have h0:0<=(l.take k).sum:=Adc fun x hx=>hl x (List.mem_of_mem_take hx)
  by_cases hkn:k<n
  .have hkl:k<l.length:=by omega
   have hu:(ints .u64 l)[k]? = some (.int .u64 l[k]):=by unfold ints;rw[List.getElem?_map,List.getElem?_eq_getElem hkl];rfl
   obtain⟨ad,rfl,hb,hc⟩:=hr.at_ hu
   have hx:=hl l[k] (List.getElem_mem hkl)
   have hs:Hid ((l.take (k+1)).sum=(l.take k).sum+l[k]):=Afj hkl
   have HC:=Lib.hid (fun w=>AmO (l.take k).sum l[k] h0 hlt hx.1 hx.2 w)
   have htot:Hid ((l.take (k+1)).sum<=l.sum):=AhK hl _
   have hlen':=Lib.hid hlen
   clear hlen hu
   generalize(l.take k).sum=s at *
   generalize l[k]=x at *
   by_cases hov:s+x<18446744073709551616
   .have hv:k_addV s x=s+x:=by unfold k_addV;rw[if_pos hov]
    have he:k_addE s x=0:=by unfold k_addE;rw[if_pos hov]
    rw[hv,he]at HC
    clear hv he
    go_wp2_with (go_at_call 107;refine(HC.out _).mono ?_;rintro e w' ⟨rfl,rfl⟩)
    go_round
    case rel=>exact⟨k+1,by omega,by go_num,by rw[hs.out],by rw[hs.out];exact hov⟩
    case measure=>simp[intOf];omega
   .have hv:k_addV s x=0:=by unfold k_addV;rw[if_neg hov]
    have he:k_addE s x=4:=by unfold k_addE;rw[if_neg hov]
    rw[hv,he]at HC
    clear hv he
    go_wp2_with (go_at_call 107;refine(HC.out _).mono ?_;rintro e w' ⟨rfl,rfl⟩)
    go_ret2
    have h1:=hs.out
    have h2:=htot.out
    unfold k_sumV k_sumE
    rw[if_neg (by omega),if_neg (by omega)]
    exact⟨rfl,rfl⟩
  .have hkk:k=n:=by omega
   subst hkk
   have hfull:l.take k=l:=List.take_of_length_le (by omega)
   rw[hfull]at hlt |-
   have hv:k_sumV l=l.sum:=by unfold k_sumV;rw[if_pos hlt]
   have he:k_sumE l=0:=by unfold k_sumE;rw[if_pos hlt]
   have HV:=Lib.hid hv
   have HE:=Lib.hid he
   clear hv he hlen hfull
   go_wp2
   go_ret2
   rw[HV.out,HE.out]
   exact⟨rfl,rfl⟩
def totV(l:List Int):Int:=if l.sum<=4611686018427387904 then l.sum else 0
def tbc(c:Ck)(s:Value):List Value:=ckc c ++ [s]
theorem All{c:Ck}(h:c.2.length=32)(s:Value):(tbc c s)[33]? = some s:=by
 unfold tbc
 rw[List.getElem?_append_right (by rw[Am7 h];exact Nat.le_refl _),Am7 h];rfl
def valE(l:List Int)(n v:Int):Int:=if n=v then(if l.sum<=4611686018427387904 then 0 else 4)else 2
theorem AfV(B:Nat)(c:Ck)(hc:c.2.length=32)(A:Option Addr)(n cap:Nat)(v:Int)(l:List Int)(w:World)(hB:B<=w.heap.size)(hr:Row w B 1 A n (ints .u64 l))(hl:U64 l)(hn:n<=9223372036854775807) :
  Calls Tryz.prog 64 #[.agg (tbc c (.slice A n cap)).toArray,.int .i64 v] w fun e w'=>e=.returned (.int .i64 (valE l n v))/\Below w.heap.size w w':=by
 have XB:=bx (Has.new w (tbc c (.slice A n cap)) 119)
 have hcs:(w.alloc (.cells (tbc c (.slice A n cap)).toArray 119)).cell? ⟨w.heap.size,33,none⟩=some (.slice A n cap):=(XB.out.cell 33).trans (All hc _)
 have EB:=bx (ext_alloc w (.cells (tbc c (.slice A n cap)).toArray 119))
 have SU:=bx (AmN B A n cap l _ (hr.below (EB.out.mono hB)) hl hn)
 have S0:=bx (Adc hl)
 clear hr hl
 by_cases hnv:(n:Int)=v
 .subst hnv
  go_enter Tryz.func64,Tryz.ntmps64
  go_wp2_with fail
  refine SU.out.mono ?_;rintro e w' ⟨rfl,rfl⟩
  have hs0:=S0.out
  by_cases h1:l.sum<18446744073709551616
  .have HV:Bx (k_sumV l=l.sum/\k_sumE l=0):=⟨by unfold k_sumV k_sumE;rw[if_pos h1,if_pos h1];exact⟨rfl,rfl⟩⟩
   rw[HV.out.1,HV.out.2]
   by_cases h2:l.sum<=4611686018427387904
   .have HE:Bx (valE l n n=0):=⟨by unfold valE;rw[if_pos rfl,if_pos h2]⟩
    clear HV
    generalize l.sum=s at *
    have hng:¬4611686018427387904<s:=by omega
    go_wp2_with fail
    go_ret
    exact⟨by rw[HE.out];rfl,EB.out⟩
   .have HE:Bx (valE l n n=4):=⟨by unfold valE;rw[if_pos rfl,if_neg h2]⟩
    clear HV
    generalize l.sum=s at *
    have hg:4611686018427387904<s:=by omega
    go_wp2_with fail
    go_ret
    exact⟨by rw[HE.out];rfl,EB.out⟩
  .have HV:Bx (k_sumE l=4):=⟨by unfold k_sumE;rw[if_neg h1]⟩
   have HE:Bx (valE l n n=4):=⟨by unfold valE;rw[if_pos rfl,if_neg (by omega)]⟩
   rw[HV.out]
   clear HV
   generalize k_sumV l=s at *
   go_wp2_with fail
   go_ret
   exact⟨by rw[HE.out];rfl,EB.out⟩
 .have hne:((n:Int) != v)=true:=by rw[bne_iff_ne];exact hnv
  have HV:Bx (valE l n v=2):=⟨by unfold valE;rw[if_neg hnv]⟩
  rw[HV.out]
  clear hnv HV
  go_enter Tryz.func64,Tryz.ntmps64
  go_wp2_with fail
  go_ret
  exact⟨rfl,EB.out⟩
end
section
open Go.RowKit Go.Maps
def URow(w:World)(A:Option Addr)(n:Nat)(xs:List Int):Prop:=xs.length=n/\(0<n->∃g post,A=some ⟨g,0,none⟩/\Has w g (ints .u64 xs++post))
theorem URow.below{w w':World}{A:Option Addr}{n:Nat}{xs:List Int}(h:URow w A n xs)(hb:Below w.heap.size w w'):URow w' A n xs:=
 ⟨h.1,fun hn=>by obtain⟨g,post,e,hg⟩:=h.2 hn;exact⟨g,post,e,hg.below hb hg.lt⟩⟩
theorem URow.row{w:World}{A:Option Addr}{n:Nat}{xs:List Int}(h:URow w A n xs):Row w w.heap.size 1 A n (ints .u64 xs):=by
 refine⟨by rw[ints_len,h.1,Nat.mul_one],fun j u hu=>?_⟩
 have hj:j<xs.length:=by have:=(List.getElem?_eq_some_iff.1 hu).1;rwa [ints_len]at this
 obtain⟨g,post,rfl,hg⟩:=h.2 (by have:=h.1;omega)
 refine⟨_,rfl,hg.lt,?_⟩
 rw[Ad5,hg.cell,Nat.zero_add,List.getElem?_append_left (by rw[ints_len];exact hj)]
 exact hu
theorem URow.cell{w:World}{g:Nat}{xs:List Int}{post:List Value}(h:Has w g (ints .u64 xs++post)){k:Nat}(hk:k<xs.length):w.cell? ⟨g,k,none⟩=some (.int .u64 (xs.getD k 0)):=by
 rw[h.cell,List.getElem?_append_left (by rw[ints_len];exact hk),ints,List.getElem?_map,List.getElem?_eq_getElem hk,getD_at hk];rfl
theorem URow.own{w:World}{base:Nat}{e:TypeId}{A:Option Addr}{n c:Nat}{xs:List Int}(hl:xs.length=n)(h:w.ownsRow base e 1 (.slice A n c) n (ints .u64 xs)):URow w A n xs:=
 ⟨hl,fun hn=>by
  obtain⟨g,c',post,e,_,hg⟩:=own_block h hn
  injection e with e1 _ _
  exact⟨g,post,e1,hg⟩⟩
theorem U64.at{l:List Int}(h:U64 l){k:Nat}(hk:k<l.length):0<=l.getD k 0/\l.getD k 0<18446744073709551616:=by
 rw[getD_at hk];exact h _ (List.getElem_mem hk)
abbrev Tb:=Ck × List Int
structure TOk(T:List Tb):Prop where
 ok:∀t∈T,CkOk t.1
 u:∀t∈T,U64 t.2
 nd:T.Pairwise fun s t=>s.1≠t.1
def look(T:List Tb)(c:Ck):Option (List Int):=(T.find? fun t=>decide (t.1=c)).map (·.2)
def zt:List Value:=tbc (0,zroot) (.slice none 0 0)
structure BkMap(P:Nat->Prop)(w:World)(M:Nat)(T:List Tb):Prop where
 ok:TOk T
 ex:∃D,w.ownsMap (H:=Value) Tryz.prog 37 heldR M T.length D/\Tidy D/\Maps.size D=T.length/\(∀kl,has D kl=true↔∃t∈T,kl=kc t.1) /\
  ∀t∈T,∃A cap,(∀z,D.atKey (kc t.1) z=.held (.agg (tbc t.1 (.slice A t.2.length cap)).toArray))/\URow w A t.2.length t.2/\(A=none->cap=0)/\∀ad,A=some ad->P ad.block
def bal(T:List Tb)(c:Ck):List Int:=(look T c).getD []
structure Bk(P:Nat->Prop)(w:World)(B M:Nat)(v lim:Int)(T:List Tb):Prop where
 b:Has w B [.int .i64 v,.int .i64 lim,.map (some M)]
 m:BkMap P w M T
theorem quiet_cell{P:Program}{C:World->Prop}{o:Oper}{a:Act}{K:Act->Prop}(ty:TypeId)(x:Operand)(ho:o.op=.load ty x)(p:Addr)(v:Value)
  (hx:a.eval x=.pointer (some p)) (hr:∀w,C w->(Instr.loadAt ty (.pointer (some p))).run P w=.ok v w) (hk:K (a.put o.dst v)):o.quiet P a C K:=by
 refine⟨_,fun w hw=>?_,hk⟩
 unfold Oper.quietAt execOp
 simp only[ho,hx,hr w hw,Sem.run_bind,Sem.run_pure,Result.andThen_ok]
 exact⟨rfl,rfl⟩
theorem run_allocZ{P:Program}{ty:TypeId}{cs:List Value}(hz:∀w,(zeroValue ty).run P w=.ok (.agg cs.toArray) w){o:Oper}{a:Act}{w:World}(ho:o.op=.alloc ty) :
  (execOp a.eval o).run P w=.ok (.value (.pointer (some ⟨w.heap.size,0,none⟩))) (w.alloc (.cells cs.toArray ty)):=by
 unfold execOp
 simp only[ho]
 simp[Instr.alloc,Sem.run_bind,hz,newVar,Value.cells,newRow]
theorem wpList_allocZ{P:Program}{ops:Array Oper}{rest:List Oper}{o:Oper}{a:Act}{w:World}{Q:Exit->Act->World->Prop}(hg:o.guard=none)(ty:TypeId)(cs:List Value)(hz:∀w,(zeroValue ty).run P w=.ok (.agg cs.toArray) w)
  (ho:o.op=.alloc ty) (h:wpList P ops Q rest (a.put o.dst (.pointer (some ⟨w.heap.size,0,none⟩))) (w.alloc (.cells cs.toArray ty))):wpList P ops Q (o::rest) a w:=
 wpList_plain hg fun K hK=>by
  unfold Oper.wp
  rw[run_allocZ hz ho,Oper.upon_value]
  exact hK _ _ h
theorem info_u64:(Tryz.prog.info? 23).map (fun i=>(i.zero,i.size,i.bytes))=some (some (.int .u64 0),1,8):=by kernel_rfl
def UP(n:Nat)(xs:List Int)(w:World)(e:Ending)(w':World):Prop:=
 ∃(A:Option Addr) (c:Nat),e=.returned (.slice A n c)/\w'.ownsRow w.heap.size 23 1 (.slice A n c) n (ints .u64 xs)/\Below w.heap.size w w'
end
section
open Go.RowKit
theorem Aia:ElT Tryz.prog 30 23 1 8:=Abr Tryz.underlying30 (by kernel_rfl) (by decide) (by decide)
theorem elTb:ElT Tryz.prog 47 119 34 64:=Abr Tryz.underlying47 (by kernel_rfl) (by decide) (by decide)
theorem ztTb:ZeroT Tryz.prog 119 (tbP cp0 (.slice none 0 0)) [1,32,1]:=⟨fun w=>by kernel_rfl,AaS _ _⟩
theorem Alg(l:List U):One (us l):=fun u hu=>by
 obtain⟨x,_,rfl⟩:=List.mem_map.1 hu
 rfl
def CTb(Γ:Gam)(w:World)(t:Tbl)(e:Ending)(w':World):Prop:=∃s Γ',e=.returned (.agg (fl (tbP t.c s)).toArray)/\TbG Γ' (t.c,s) t/\Ext Γ w Γ' w'
theorem AcN(Γ:Gam)(c:Cp)(b:List U)(hb:b.length<=65535)(A:Option Addr)(k:Nat)(w:World)(ok:Ok Γ w)(h:Row w w.heap.size 1 A b.length (us b))(hA:A=none->k=0) :
  Calls Tryz.prog 66 #[.agg (fl (tbP c (.slice A b.length k))).toArray] w (CTb Γ w ⟨c,b⟩):=by
 have M:=bx (MM.start ok)
 have HR:=bx h
 have HA:=bx hA
 clear h ok hA
 go_enter Tryz.func66,Tryz.ntmps66
 go_wp2_with (first|((first|refine zBYo (AaS _ _) ?_|refine zALo (ztTb) ?_);clear M;intro w' g M)|refine zLDo (M.o.at1) ?_|(at_builtin;(with_reducible apply Aae (M.o.row0 23 1) Aia (HR.o.below M.bel |>.more M.bel.size) HA.o);exact Alg _;(unfold maxLen;omega);omega;rfl;rfl;rfl;rfl;intro A' c' w' M';(simp only[Nat.zero_add,List.nil_append]at M');(replace M:=bx M';clear M'))|((first|refine zS1o M 1 (.slice A' b.length c') (tbP c (.slice A' b.length c')) ?_|refine zSSo M 0 (tbP c (.slice A' b.length c')) (tbP c (.slice A' b.length c')) (AaS _ _) (Aeo _ _ _ _) ?_);clear M;intro w' M))
 obtain⟨Γ',h1,h2,h3,h4⟩:=M.o.frz
 exact zRb h4.at0 ⟨_,Γ',rfl,⟨rfl,_,_,rfl,h1,h2⟩,h4.ext⟩
theorem row_len{w:World}{B:Nat}{A:Option Addr}{n:Nat}{k:IntKind}{l:List Int}(h:Row w B 1 A n (ints k l)):l.length=n:=by have:=h.1;simpa [ints]using this
theorem ints_at{k:IntKind}{l:List Int}{i:Nat}(h:i<l.length):(ints k l)[i]? = some (.int k (l.getD i 0)):=by
 unfold ints
 rw[List.getElem?_map,List.getElem?_eq_getElem h,getD_at h]
 rfl
theorem take_more{a b:List Int}{k:Nat}(ha:k<a.length)(hb:k<b.length)(h:a.take k=b.take k)(he:a.getD k 0=b.getD k 0):a.take (k+1)=b.take (k+1):=by
 rw[List.take_succ_eq_append_getElem ha,List.take_succ_eq_append_getElem hb,h,<-getD_at ha,<-getD_at hb,he]
theorem sameNumbers_any(B:Nat)(A A':Option Addr)(n n' c c':Nat)(a b:List Int)(w:World)(hB:B<=w.heap.size)(ha:Row w B 1 A n (ints .u64 a))(hb:Row w B 1 A' n' (ints .u64 b))(hn:n<=9223372036854775807)(hn':n'<=9223372036854775807) :
  Calls Tryz.prog 83 #[.slice A n c,.slice A' n' c'] w fun e w'=>e=.returned (.bool (decide (a=b)))/\Below w.heap.size w w':=by
 have la:=row_len ha
 have lb:=row_len hb
 have HA:=bx ha
 have HB:=bx hb
 have HBB:=bx hB
 clear ha hb hB
 by_cases hnn:n=n'
 .subst hnn
  have LA:=bx la
  have LB:=bx lb
  clear la lb
  go_enter Tryz.func83,Tryz.ntmps83
  go_wp2_with fail
  go_loopw [5] (fun i wr=>∃k:Nat,k<=n/\i=.int .i64 k/\a.take k=b.take k/\Below w.heap.size w wr) (fun i _=>n-(intOf i).toNat)
  case atStart=>exact⟨0,Nat.zero_le _,rfl,rfl,Below.refl _ _⟩
  case round=>
   obtain⟨k,hk,rfl,htk,hbel⟩:=hrel
   have HTK:=bx htk
   have HBEL:=bx hbel
   clear htk hbel
   by_cases hkn:k<n
   .have hka:k<a.length:=by rw[LA.o];exact hkn
    have hkb:k<b.length:=by rw[LB.o];exact hkn
    obtain⟨ad,rfl,hb1,hc1⟩:=(HA.o.below (HBEL.o.mono HBB.o)).at_ (ints_at hka)
    obtain⟨ad',rfl,hb2,hc2⟩:=(HB.o.below (HBEL.o.mono HBB.o)).at_ (ints_at hkb)
    have hki:(k:Int)<(n:Int):=by omega
    have hk0:0<=(k:Int):=by omega
    have HTM:=bx (take_more hka hkb HTK.o)
    have HNE:Bx (a.getD k 0≠b.getD k 0->a≠b):=⟨fun hne he=>hne (by rw[he])⟩
    generalize a.getD k 0=x at *
    generalize b.getD k 0=y at *
    by_cases hxy:x=y
    .subst hxy
     go_wp2_with fail
     go_quiet (fail)
     go_wp2_with fail
     go_roundw
     case rel=>exact⟨k+1,by omega,by go_num,HTM.o (by first|rfl|trivial),AdP HBEL.o _⟩
     case measure=>simp[intOf];omega
    .have hne:(x==y)=false:=by simpa using hxy
     have hne':(x != y)=true:=by simpa using hxy
     have HD:Bx (decide (a=b)=false):=⟨decide_eq_false (HNE.o hxy)⟩
     go_wp2_with fail
     go_quiet (fail)
     go_wp2_with fail
     go_ret
     exact⟨by rw[HD.o];rfl,AdP HBEL.o _⟩
   .have hkk:k=n:=by omega
    subst hkk
    have he:a=b:=by
     have h1:a.take k=a:=List.take_of_length_le (by rw[LA.o];exact Nat.le_refl _)
     have h2:b.take k=b:=List.take_of_length_le (by rw[LB.o];exact Nat.le_refl _)
     rw[<-h1,<-h2];exact HTK.o
    have HD:Bx (decide (a=b)=true):=⟨decide_eq_true he⟩
    clear he
    go_wp2_with fail
    go_ret
    exact⟨by rw[HD.o];rfl,HBEL.o⟩
 .have hne:¬(n:Int)=(n':Int):=by omega
  have HD:Bx (decide (a=b)=false):=⟨decide_eq_false (fun h=>hnn (by rw[<-la,<-lb,h]))⟩
  have hne':((n:Int) != (n':Int))=true:=by simp;omega
  clear la lb
  go_enter Tryz.func83,Tryz.ntmps83
  go_wp2_with fail
  go_ret
  exact⟨by rw[HD.o];rfl,Below.refl _ _⟩
abbrev tbx(x:Cp × Value):List Value:=fl (tbP x.1 x.2)
def TsP(Γ:Gam)(w:World)(T:List Tbl)(e:Ending)(w':World):Prop:=∃(A:Option Addr) (c:Nat) (Γ':Gam),e=.returned (.slice A T.length c)/\CapOk A T.length c/\TsG Γ' A T.length T/\Ext Γ w Γ' w'
theorem AfR{Γ:Gam}{x:Cp × Value}{t:Tbl}(h:TbG Γ x t):One (tbx x):=by
 obtain⟨A,k,e,_⟩:=h.s
 unfold tbx
 rw[e];exact Aeo _ _ _ _
theorem Ama{α β:Type}(X:List α)(x:α)(f:α->List β):(X ++ [x]).flatMap f=X.flatMap f++f x:=by simp
def dropT(T:List Tbl)(e:Nat):List Tbl:=T.filter fun t=>decide (e<=t.c.e.n)
theorem Amn{T:List Tbl}{e k:Nat}(hk:k<T.length)(h:e<=T[k].c.e.n):dropT (T.take (k+1)) e=dropT (T.take k) e ++ [T[k]]:=by
 unfold dropT
 rw[List.take_succ_eq_append_getElem hk,List.filter_append]
 simp[h]
theorem AoP{T:List Tbl}{e k:Nat}(hk:k<T.length)(h:¬e<=T[k].c.e.n):dropT (T.take (k+1)) e=dropT (T.take k) e:=by
 unfold dropT
 rw[List.take_succ_eq_append_getElem hk,List.filter_append]
 simp[h]
theorem Ad3(Γ:Gam)(A:Option Addr)(n c:Nat)(T:List Tbl)(e:Nat)(hn:n<=65535)(w:World)(ok:Ok Γ w)(h:TsG Γ A n T) :
  Calls Tryz.prog 187 #[.slice A n c,.int .u64 e] w (TsP Γ w (dropT T e)):=by
 have M:=bx (MM.start ok)
 have HT:=bx h
 clear h ok
 go_enter Tryz.func187,Tryz.ntmps187
 go_wp2_with fail
 go_loopw [5,6] (fun s i wr=>∃(k:Nat) (X:List (Cp × Value)) (A1:Option Addr) (c1:Nat),k<=n/\i=.int .i64 k/\s=.slice A1 X.length c1/\X.length<=k/\All2 (TbG Γ) X (dropT (T.take k) e)/\MM Γ w Γ wr [] [⟨.slice A1 X.length c1,119,34,X.length,X.flatMap tbx⟩]) (fun _ i _=>n-(intOf i).toNat)
 case atStart=>exact⟨0,[],none,0,Nat.zero_le _,rfl,rfl,Nat.le_refl _,All2.nil,M.o.row0 _ _⟩
 case round=>
  obtain⟨k,X,A1,c1,hk,rfl,rfl,hXk,hX,hM⟩:=hrel
  clear M
  have M:=bx hM
  have HX:=bx hX
  clear hM hX
  by_cases hkn:k<n
  .have hkl:k<T.length:=by rw[HT.o.1];exact hkn
   obtain⟨g,s,rfl,hst,hc⟩:=HT.o.at k hkn
   have HC:=bx hc
   have ST:=bx hst
   have hki:(k:Int)<(n:Int):=by omega
   have hk0:0<=(k:Int):=by omega
   have YES:=bx (Amn (e:=e) hkl)
   have NO:=bx (AoP (e:=e) hkl)
   have HKN:=bx hkn
   have hX5:X.length+1<=65536:=by omega
   clear hst hc
   generalize T[k]=t at *
   by_cases he:e<=t.c.e.n
   .have hei:(e:Int)<=(t.c.e.n:Int):=by omega
    have YES':=bx (YES.o he)
    clear YES NO
    go_wp2_with (first|refine zRD (CL.of HC.o (AaS _ _) M.ok) ?_|((with_reducible apply AbP M.o elTb);rfl;rfl;rfl;rfl;exact AaS _ _;rfl;intro w' g M' hb';(replace M:=bx M';clear M');clear hb')|(at_builtin;(with_reducible apply AaU M.o elTb);rfl;exact AfR ST.o;(unfold maxLen;omega);omega;rfl;rfl;rfl;rfl;intro A' c' w' M';(replace M:=bx M';clear M')))
    go_roundw
    case rel=>exact⟨k+1,X ++ [(t.c,s)],A',c',by omega,by go_num,by simp,by simp;omega,by rw[YES'.o];exact HX.o.app (All2.one ST.o),by rw[Ama,List.length_append];exact M.o⟩
    case measure=>have:=HKN.o;simp[intOf];omega
   .have hei:(t.c.e.n:Int)<(e:Int):=by omega
    have NO':=bx (NO.o he)
    clear YES NO
    go_wp2_with (refine zRD (CL.of HC.o (AaS _ _) M.ok) ?_)
    go_roundw
    case rel=>exact⟨k+1,X,A1,c1,by omega,by go_num,rfl,by omega,by rw[NO'.o];exact HX.o,M.o⟩
    case measure=>have:=HKN.o;simp[intOf];omega
  .obtain rfl:k=n:=by omega
   have hT:T.take k=T:=List.take_of_length_le (by rw[HT.o.1];exact Nat.le_refl _)
   rw[hT]at HX
   clear hT
   go_wp2_with fail
   go_ret
   obtain⟨Γ',h1,h2,h3,h4⟩:=M.o.frz
   have hl:=HX.o.1
   exact⟨A1,c1,Γ',by rw[hl];rfl,hl▸h1,⟨rfl,X,HX.o.imp (fun _ _ h=>h.mono h3),by rw[<-hl];exact h2⟩,h4.ext⟩
end
section
open Go.RowKit Go.Sort
def Lays(w w':World):Prop:=∃q os,w'=grow (w.drewN q) os
theorem Lays.refl(w:World):Lays w w:=⟨0,#[],by simp[grow,World.drewN]⟩
theorem Lays.trans{a b c:World}(h:Lays a b)(k:Lays b c):Lays a c:=by
 obtain⟨q,os,rfl⟩:=h
 obtain⟨p,os',rfl⟩:=k
 exact⟨q+p,os++os',by simp[grow,World.drewN,Nat.add_assoc,Array.append_assoc]⟩
theorem Lays.alloc{a b:World}(h:Lays a b)(o:Obj):Lays a (b.alloc o):=h.trans ⟨0,#[o],by rw[alloc_eq_grow];rfl⟩
theorem Lays.drewN{a b:World}(h:Lays a b)(n:Nat):Lays a (b.drewN n):=h.trans ⟨n,#[],by simp[grow,World.drewN]⟩
theorem Lays.below{a b:World}(h:Lays a b):Below a.heap.size a b:=by
 obtain⟨q,os,rfl⟩:=h
 exact⟨rfl,rfl,rfl,by simp[World.drewN],fun k hk=>heap_grow_old _ _ hk⟩
def cmpI:List Int->List Int->Int
 |a::xs,b::ys=>if a<b then -1 else if b<a then 1 else cmpI xs ys
 |_,_=>0
theorem Ao5{l:List Int}(h:Fit .u8 l):∀x∈l,0<=x/\x<256:=fun x hx=>by
 have:=bounds_u8 (h x hx);omega
theorem AnA{a b:Int}(ha:0<=a/\a<256)(hb:0<=b/\b<256):UInt8.ofNat a.toNat<UInt8.ofNat b.toNat↔a<b:=by
 rw[UInt8.lt_iff_toNat_lt,UInt8.toNat_ofNat',UInt8.toNat_ofNat']
 omega
theorem Adh:∀(a b:List Int),(∀x∈a,0<=x/\x<256)->(∀x∈b,0<=x/\x<256)->a.length=b.length->Lib.compareBytes (Lib.bytesOf a) (Lib.bytesOf b)=cmpI a b
 |[],[],_,_,_=>rfl
 |[],_::_,_,_,h=>by simp at h
 |_::_,[],_,_,h=>by simp at h
 |a::xs,b::ys,ha,hb,h=>by
  have ih:=Adh xs ys (fun x hx=>ha x (by simp[hx])) (fun x hx=>hb x (by simp[hx])) (by simpa using h)
  have h1:=AnA (ha a (by simp)) (hb b (by simp))
  have h2:=AnA (hb b (by simp)) (ha a (by simp))
  simp only[Lib.bytesOf,List.map_cons,Lib.compareBytes,cmpI]at ih |-
  simp only[h1,h2,ih]
theorem Ah0{a b:List Int}{x y:Addr}{n c d:Nat}{w:World}(ha:Fit .u8 a)(hb:Fit .u8 b)(la:a.length=n)(lb:b.length=n)
  (hx:∀j u,(ints .u8 a)[j]? = some u->w.cell? (x.add j)=some u) (hy:∀j u,(ints .u8 b)[j]? = some u->w.cell? (y.add j)=some u) :
  (callFunc 203 #[.slice (some x) n c,.slice (some y) n d]).run Tryz.prog w=.ok (.value (.int .i64 (cmpI a b))) w:=by
 rw[run_callFunc_extern Tryz.func203 (by kernel_rfl) (by kernel_rfl) (by kernel_rfl) (e:=Extern.BytealgCompare.compare) (by kernel_rfl)]
 have l1:=Lib.run_loadBytesX (P:=Tryz.prog) w a x .empty (fun j v hj=>hx j _ (by rw[ints,List.getElem?_map,hj];rfl))
 have l2:=Lib.run_loadBytesX (P:=Tryz.prog) w b y .empty (fun j v hj=>hy j _ (by rw[ints,List.getElem?_map,hj];rfl))
 rw[la]at l1
 rw[lb]at l2
 change Result.andThen (Sem.run Tryz.prog (do pure (goInt (Extern.BytealgCompare.cmp (<-Extern.Bytes.bytesOf (.slice (some x) n c)) (<-Extern.Bytes.bytesOf (.slice (some y) n d))))) w) _=_
 simp only[Extern.Bytes.bytesOf,Sem.run_bind,l1,l2,Sem.run_pure,Result.andThen]
 rw[Lib.cmp_eq]
 have e1:∀l:List Int,(ByteArray.empty.data++(Lib.bytesOf l).toArray).toList=Lib.bytesOf l:=fun l=>by simp
 rw[e1,e1,Adh a b (Ao5 ha) (Ao5 hb) (by omega)]
 rfl
theorem Ahc{a b:List Int}{x y:Addr}{n c d:Nat}{w:World}(ha:Fit .u8 a)(hb:Fit .u8 b)(la:a.length=n)(lb:b.length=n)
  (hx:∀j u,(ints .u8 a)[j]? = some u->w.cell? (x.add j)=some u) (hy:∀j u,(ints .u8 b)[j]? = some u->w.cell? (y.add j)=some u) :
  Calls Tryz.prog 175 #[.slice (some x) n c,.slice (some y) n d] w fun e w'=>e=.returned (.int .i64 (cmpI a b))/\w=w':=by
 have hr:=Ah0 (c:=c) (d:=d) ha hb la lb hx hy
 clear hx hy la lb
 go_enter Tryz.func175,Tryz.ntmps175
 go_wp2
 go_ret
 exact⟨rfl,rfl⟩
theorem Aih{a b:List Int}(ha:Fit .u8 a)(hb:Fit .u8 b)(la:a.length=32)(lb:b.length=32)(w:World) :
  Calls Tryz.prog 135 #[.agg (ints .u8 a).toArray,.agg (ints .u8 b).toArray] w fun e w'=>e=.returned (.int .i64 (cmpI a b))/\Lays w w':=by
 have hx:∀n:Nat,∀j u,(ints .u8 a)[j]? = some u->(((w.alloc (.cells (ints .u8 a).toArray 29)).alloc (.cells (ints .u8 b).toArray 29)).drewN n).cell? ((⟨w.heap.size,0,none⟩:Addr).add j)=some u:=by
  intro n j u hu
  exact(World.cell?_alloc_lt _ _ _ (by rw[AgG];simp)).trans (Acv w _ _ j u hu)
 have hy:∀n:Nat,∀j u,(ints .u8 b)[j]? = some u->(((w.alloc (.cells (ints .u8 a).toArray 29)).alloc (.cells (ints .u8 b).toArray 29)).drewN n).cell? ((⟨w.heap.size+1,0,none⟩:Addr).add j)=some u:=by
  intro n j u hu
  have:=Acv (w.alloc (.cells (ints .u8 a).toArray 29)) (ints .u8 b) 29 j u hu
  simpa using this
 have HC:=Lib.hid (fun n=>Ahc (c:=32) (d:=32) ha hb la lb (hx n) (hy n))
 clear hx hy la lb
 go_enter Tryz.func135,Tryz.ntmps135
 go_wp2
 go_quiet ((go_at_call 175;exact AqZ (HC.out _)))
 go_wp2
 go_ret
 exact⟨rfl,(((Lays.refl _).alloc _).alloc _).drewN _⟩
end
section
open Go.RowKit
theorem Ae8(l:List Int)(k:Nat)(h:k<l.length):l.getD k 0=l[k]:=by simp[List.getD_eq_getElem?_getD,List.getElem?_eq_getElem h]
theorem Am1:∀(k:Nat) (a b:List Int),k<a.length->a.length=b.length->a.take k=b.take k->a.getD k 0<b.getD k 0->cmpI a b = -1
 |0,[],_,h,_,_,_=>by simp at h
 |0,a::xs,b::ys,_,_,_,h=>by simp at h;simp[cmpI,h]
 |0,_::_,[],_,h,_,_=>by simp at h
 |k+1,[],_,h,_,_,_=>by simp at h
 |k+1,_::_,[],_,h,_,_=>by simp at h
 |k+1,a::xs,b::ys,h1,h2,h3,h4=>by
  simp only[List.take_succ_cons,List.cons.injEq]at h3
  obtain⟨rfl,h3⟩:=h3
  have:=Am1 k xs ys (by simpa using h1) (by simpa using h2) h3 (by simpa using h4)
  simp[cmpI,this]
theorem Am2:∀(k:Nat) (a b:List Int),k<a.length->a.length=b.length->a.take k=b.take k->b.getD k 0<a.getD k 0->cmpI a b=1
 |0,[],_,h,_,_,_=>by simp at h
 |0,a::xs,b::ys,_,_,_,h=>by simp at h;simp[cmpI,h];omega
 |0,_::_,[],_,h,_,_=>by simp at h
 |k+1,[],_,h,_,_,_=>by simp at h
 |k+1,_::_,[],_,h,_,_=>by simp at h
 |k+1,a::xs,b::ys,h1,h2,h3,h4=>by
  simp only[List.take_succ_cons,List.cons.injEq]at h3
  obtain⟨rfl,h3⟩:=h3
  have:=Am2 k xs ys (by simpa using h1) (by simpa using h2) h3 (by simpa using h4)
  simp[cmpI,this]
theorem Ago:∀(a:List Int),cmpI a a=0
 |[]=>rfl
 |a::xs=>by simp[cmpI,Ago xs]
theorem Adv:∀(a b:List Int),a.length=b.length->(cmpI a b=0↔a=b)
 |[],[],_=>by simp[cmpI]
 |[],_::_,h=>by simp at h
 |_::_,[],h=>by simp at h
 |a::xs,b::ys,h=>by
  have ih:=Adv xs ys (by simpa using h)
  unfold cmpI
  by_cases h1:a<b
  .simp[h1];intro e;omega
  .by_cases h2:b<a
   .simp[h1,h2];intro e;omega
   .have:a=b:=by omega
    subst this
    simp[h1,ih]
theorem Aez{a b:List Int}(ha:Fit .u8 a)(hb:Fit .u8 b)(la:a.length=32)(lb:b.length=32)(w:World) :
  Calls Tryz.prog 111 #[.agg (ints .u8 a).toArray,.agg (ints .u8 b).toArray] w fun e w'=>e=.returned (.int .i64 (cmpI a b))/\Below w.heap.size w w':=by
 obtain⟨W,hW⟩:∃W,W=(w.alloc (.cells (ints .u8 a).toArray 29)).alloc (.cells (ints .u8 b).toArray 29):=⟨_,rfl⟩
 have hx:∀n k:Nat,∀hk:k<a.length,(W.drewN n).cell? ⟨w.heap.size,k,none⟩=some (.int .u8 a[k]):=by
  intro n k hk
  subst hW
  have h1:=Acv w (ints .u8 a) 29 k (.int .u8 a[k]) (by rw[ints,List.getElem?_map,List.getElem?_eq_getElem hk];rfl)
  have hadd:(⟨w.heap.size,0,none⟩:Addr).add k=⟨w.heap.size,k,none⟩:=by unfold Addr.add;split<;>simp_all
  rw[hadd]at h1
  exact(World.cell?_alloc_lt _ _ _ (by simp)).trans h1
 have hy:∀n k:Nat,∀hk:k<b.length,(W.drewN n).cell? ⟨w.heap.size+1,k,none⟩=some (.int .u8 b[k]):=by
  intro n k hk
  subst hW
  have h1:=Acv (w.alloc (.cells (ints .u8 a).toArray 29)) (ints .u8 b) 29 k (.int .u8 b[k]) (by rw[ints,List.getElem?_map,List.getElem?_eq_getElem hk];rfl)
  have hadd:(⟨w.heap.size+1,0,none⟩:Addr).add k=⟨w.heap.size+1,k,none⟩:=by unfold Addr.add;split<;>simp_all
  simp only[World.size_alloc,hadd]at h1
  exact h1
 have HX:=Lib.hid hx
 have HY:=Lib.hid hy
 have HW:=Lib.hid hW
 have hbel:Hid (∀n,Below w.heap.size w (W.drewN n)):=fun n=>AdP (by subst hW;exact((Below.refl _ _).alloc (Nat.le_refl _) _).alloc (by simp) _) n
 clear hx hy
 go_enter Tryz.func111,Tryz.ntmps111
 go_wp2
 go_loopw [5] (fun i wr=>∃k m:Nat,k<=32/\i=.int .i64 k/\wr=W.drewN m/\a.take k=b.take k) (fun i _=>32-(intOf i).toNat)
 case atStart=>exact⟨0,0,by omega,rfl,by rw[HW.out];rfl,rfl⟩
 case round=>
  obtain⟨k,m,hk,rfl,rfl,hkk⟩:=hrel
  have HK:=Lib.hid hkk
  clear hkk
  by_cases hlt:k<32
  .have h1:∀n,(W.drewN n).cell? ⟨w.heap.size,k,none⟩=some (.int .u8 (a.getD k 0)):=fun n=>by rw[Ae8 a k (by omega)];exact HX.out n k (by omega)
   have h2:∀n,(W.drewN n).cell? ⟨w.heap.size+1,k,none⟩=some (.int .u8 (b.getD k 0)):=fun n=>by rw[Ae8 b k (by omega)];exact HY.out n k (by omega)
   have g1:Hid (a.getD k 0<b.getD k 0->cmpI a b = -1):=fun h=>Am1 k a b (by omega) (by omega) HK.out h
   have g2:Hid (b.getD k 0<a.getD k 0->cmpI a b=1):=fun h=>Am2 k a b (by omega) (by omega) HK.out h
   have g3:Hid (a.getD k 0=b.getD k 0->a.take (k+1)=b.take (k+1)):=fun h=>by
    rw[List.take_succ_eq_append_getElem (by omega),List.take_succ_eq_append_getElem (by omega),HK.out,<-Ae8 a k (by omega),<-Ae8 b k (by omega),h]
   clear hW la lb
   generalize a.getD k 0=x at *
   generalize b.getD k 0=y at *
   by_cases c1:x<y
   .go_wp2
    go_quiet (fail)
    go_wp2
    go_ret
    exact⟨by rw[g1.out c1];rfl,by repeat(first|exact hbel.out _|apply AdP)⟩
   .by_cases c2:y<x
    .go_wp2
     go_quiet (fail)
     go_wp2
     go_quiet (fail)
     go_wp2
     go_ret
     exact⟨by rw[g2.out c2];rfl,by repeat(first|exact hbel.out _|apply AdP)⟩
    .have c3:=g3.out (by omega)
     have H3:=Lib.hid c3
     clear c3
     go_wp2
     go_quiet (fail)
     go_wp2
     go_quiet (fail)
     go_wp2
     go_roundw
     case rel=>exact⟨k+1,_,by omega,by go_num,by first|rfl|(simp only[World.drewN_drewN];rfl),H3.out⟩
     case measure=>simp[intOf];omega
  .have hkk:k=32:=by omega
   subst hkk
   have e:a=b:=by have:=HK.out;rwa [List.take_of_length_le (by omega),List.take_of_length_le (by omega)]at this
   have h0:=Lib.hid ((Adv a b (by omega)).2 e)
   clear e hW la lb
   go_wp2
   go_ret
   exact⟨by rw[h0.out];rfl,hbel.out _⟩
theorem Ajo(r:Rt):Fit .u8 r.l:=fun x hx=>by
 have h:=r.bt x hx
 simp only[Lit.wf,Bool.and_eq_true,decide_eq_true_eq]
 exact⟨h.1,Int.le_of_lt_add_one h.2⟩
def cmpRt(a b:Rt):Int:=cmpI a.l b.l
theorem Aca(a b:Rt)(w:World):Calls Tryz.prog 111 #[.agg (rc a).toArray,.agg (rc b).toArray] w fun e w'=>e=.returned (.int .i64 (cmpRt a b))/\Below w.heap.size w w':=Aez (Ajo a) (Ajo b) a.len b.len w
def cmpCp(a b:Cp):Int:=if a.e.n<b.e.n then -1 else if b.e.n<a.e.n then 1 else cmpRt a.r b.r
theorem Ah3(a b:Cp)(w:World):Calls Tryz.prog 212 #[.agg (fl (cpP a)).toArray,.agg (fl (cpP b)).toArray] w fun e w'=>e=.returned (.int .i64 (cmpCp a b))/\Below w.heap.size w w':=by
 have M:=bx (MM.start (AiD w))
 have C1:=bx (fun h:a.e.n<b.e.n=>show cmpCp a b = -1 by unfold cmpCp;rw[if_pos h])
 have C2:=bx (fun(h:¬a.e.n<b.e.n) (h':b.e.n<a.e.n)=>show cmpCp a b=1 by unfold cmpCp;rw[if_neg h,if_pos h'])
 have C3:=bx (fun(h:¬a.e.n<b.e.n) (h':¬b.e.n<a.e.n)=>show cmpCp a b=cmpRt a.r b.r by unfold cmpCp;rw[if_neg h,if_neg h'])
 by_cases h1:a.e.n<b.e.n
 .have D1:=bx (C1.out h1)
  have hi:(a.e.n:Int)<(b.e.n:Int):=by omega
  clear C1 C2 C3 h1
  go_enter Tryz.func212,Tryz.ntmps212
  go_wp2_with (first|(refine zBYo (AaC _) ?_;clear M;intro w' g M)|refine zLDo (M.out.at0) ?_|refine zLDo (M.out.at1) ?_)
  all_goals
   go_ret
   exact⟨by rw[D1.out];rfl,M.bel⟩
 .by_cases h2:b.e.n<a.e.n
  .have D1:=bx (C2.out h1 h2)
   have hi:¬(a.e.n:Int)<(b.e.n:Int):=by omega
   have hne:((a.e.n:Int) != (b.e.n:Int))=true:=by rw[bne_iff_ne];omega
   clear C1 C2 C3 h1 h2
   go_enter Tryz.func212,Tryz.ntmps212
   go_wp2_with (first|(refine zBYo (AaC _) ?_;clear M;intro w' g M)|refine zLDo (M.out.at0) ?_|refine zLDo (M.out.at1) ?_)
   go_ret
   exact⟨by rw[D1.out];rfl,M.bel⟩
  .have D1:=bx (C3.out h1 h2)
   have hne:((a.e.n:Int) != (b.e.n:Int))=false:=by rw[bne_eq_false_iff_eq];omega
   clear C1 C2 C3 h1 h2
   go_enter Tryz.func212,Tryz.ntmps212
   go_wp2_with (first|(refine zBYo (AaC _) ?_;clear M;intro w' g M)|refine zLDo (M.out.at0) ?_|refine zLDo (M.out.at1) ?_)
   refine(Aca a.r b.r _).mono ?_;rintro e w1 ⟨rfl,hb⟩
   replace M:=bx (M.out.below hb)
   clear hb
   go_wp2_with fail
   go_ret
   exact⟨by rw[D1.out];rfl,M.bel⟩
def addT(T:List Tbl)(t:Tbl):List Tbl:=T.takeWhile (fun x=>decide (cmpCp x.c t.c<0))++t::T.dropWhile (fun x=>decide (cmpCp x.c t.c<0))
theorem Agx{α:Type}{p:α->Bool}:∀{T:List α} {k:Nat},k<=T.length->(∀j (hj:j<T.length),j<k->p T[j]=true)->(∀h:k<T.length,p T[k]=false)->T.takeWhile p=T.take k/\T.dropWhile p=T.drop k
 |[],k,hk,_,_=>by simp
 |x::T,0,_,_,h=>by
  have:=h (Nat.succ_pos _)
  simp only[List.getElem_cons_zero]at this
  simp[List.takeWhile_cons,List.dropWhile_cons,this]
 |x::T,k+1,hk,h1,h2=>by
  have h0:=h1 0 (Nat.succ_pos _) (Nat.succ_pos _)
  simp only[List.getElem_cons_zero]at h0
  obtain⟨e1,e2⟩:=Agx (T:=T) (k:=k) (by simpa using hk) (fun j hj hjk=>h1 (j+1) (Nat.succ_lt_succ hj) (Nat.succ_lt_succ hjk)) (fun h=>h2 (Nat.succ_lt_succ h))
  simp[List.takeWhile_cons,List.dropWhile_cons,h0,e1,e2]
theorem AnX{T:List Tbl}{t:Tbl}{k:Nat}(hk:k<=T.length)(h1:∀j (hj:j<T.length),j<k->cmpCp T[j].c t.c<0)(h2:∀h:k<T.length,¬cmpCp T[k].c t.c<0):addT T t=T.take k++t::T.drop k:=by
 obtain⟨e1,e2⟩:=Agx (p:=fun x=>decide (cmpCp x.c t.c<0)) hk (fun j hj hjk=>decide_eq_true (h1 j hj hjk)) (fun h=>decide_eq_false (h2 h))
 unfold addT
 rw[e1,e2]
theorem AeU{α:Type}{f:α->List Value}{k:Nat}(X:List α)(h:∀x∈X,(f x).length=k)(i:Nat):(X.flatMap f).take (i*k)=(X.take i).flatMap f:=by
 rcases Nat.lt_or_ge i X.length with hi|hi
 .rw[Abv X i hi,List.append_assoc,<-Ac6 X i hi h,List.take_left]
 .rw[List.take_of_length_le hi,List.take_of_length_le]
  rw[Aah X h];exact Nat.mul_le_mul_right _ hi
theorem Afq{α:Type}{f:α->List Value}{k:Nat}(X:List α)(h:∀x∈X,(f x).length=k)(i:Nat):(X.flatMap f).drop (i*k)=(X.drop i).flatMap f:=by
 have h1:=List.take_append_drop (i*k) (X.flatMap f)
 rw[AeU X h i]at h1
 have h2:X.flatMap f=(X.take i).flatMap f++(X.drop i).flatMap f:=by rw[<-List.flatMap_append,List.take_append_drop]
 exact List.append_cancel_left (h1.trans h2)
theorem flat_one{α:Type}{f:α->List Value}{X:List α}(h:∀x∈X,One (f x)):One (X.flatMap f):=fun u hu=>by
 obtain⟨x,hx,hu⟩:=List.mem_flatMap.1 hu
 exact h x hx u hu
theorem All2.left{α β:Type}{r:α->β->Prop}{X:List α}{T:List β}(h:All2 r X T){p:α->Prop}(hp:∀a b,r a b->p a):∀x∈X,p x:=fun x hx=>by
 obtain⟨i,hi,rfl⟩:=List.getElem_of_mem hx
 exact hp _ _ (h.2 i hi (h.1▸hi))
theorem AnW{Γ Γ1 Γ':Gam}{w w':World}{X:List (Cp × Value)}{T:List Tbl}{t:Tbl}{s1:Value}{k n:Nat}{A6:Option Addr}{c6:Nat}(hX:All2 (TbG Γ) X T)(hs:TbG Γ1 (t.c,s1) t)(l1:Le Γ Γ1)(l2:Le Γ1 Γ')(he:addT T t=T.take k++t::T.drop k)(hn:T.length=n)(hk:k<=n)
  (h1:CapOk A6 (k+1+(n-k)) c6) (h2:SlG Γ' A6 (k+1+(n-k)) ((X.flatMap tbx).take (k*34)++fl (tbP t.c s1)++(X.flatMap tbx).drop (k*34))) (h4:Ext Γ w Γ' w') :
  TsP Γ w (addT T t) (.returned (.slice A6 (k+1+(n-k)) c6)) w':=by
 have hl:(addT T t).length=k+1+(n-k):=by rw[he];simp[hn];omega
 refine⟨A6,c6,Γ',by rw[hl],by rw[hl];exact h1,⟨rfl,X.take k ++ [(t.c,s1)]++X.drop k,?_,?_⟩,h4⟩
 .have e:addT T t=(T.take k ++ [t])++T.drop k:=by rw[he];simp
  rw[e]
  exact(((hX.take k).imp fun _ _ h=>h.mono (l1.trans l2)).app (All2.one (hs.mono l2))).app ((hX.drop k).imp fun _ _ h=>h.mono (l1.trans l2))
 .rw[hl]
  rw[AeU X (fun x _=>Ad0 _ _),Afq X (fun x _=>Ad0 _ _)]at h2
  simpa using h2
theorem Air(Γ:Gam)(A:Option Addr)(n c:Nat)(T:List Tbl)(t:Tbl)(s:Value)(hn:n<=65535)(hb:t.b.length<=65535)(w:World)(ok:Ok Γ w)(h:TsG Γ A n T)(hcap:CapOk A n c)(ht:TbG Γ (t.c,s) t) :
  Calls Tryz.prog 198 #[.slice A n c,.agg (fl (tbP t.c s)).toArray] w (TsP Γ w (addT T t)):=by
 have M:=bx (MM.start ok)
 have HT:=bx h
 have HC:=bx hcap
 have HB:=bx hb
 obtain⟨As,ks,hs,hsc,hsr⟩:=ht.s
 simp only at hs
 subst hs
 have HTC:=bx hsc
 have HTR:=bx (fun(Γ':Gam) (w':World) (hl:Le Γ Γ') (o:Ok Γ' w')=>(hsr.mono hl).row (size:=1) (by rw[AcY,Nat.mul_one]) o)
 obtain⟨X,hX,hS⟩:=h.2
 have HX:=bx hX
 have HTb:=bx ht
 have LN:=bx h.1
 have HL:Bx ((X.flatMap tbx).length=n*34):=⟨by rw[Aah X (fun x _=>Ad0 _ _),hX.1,LN.o]⟩
 have HOX:Bx (∀x∈X,One (tbx x)):=⟨hX.left fun _ _ h=>AfR h⟩
 have HO:Bx (∀k,One ((X.flatMap tbx).take (k*34))):=⟨fun k u hu=>flat_one HOX.o u (List.mem_of_mem_take hu)⟩
 have HO2:Bx (∀k,One ((X.flatMap tbx).drop (k*34))):=⟨fun k u hu=>flat_one HOX.o u (List.mem_of_mem_drop hu)⟩
 clear h hcap hb ht hsc hsr hX ok
 go_enter Tryz.func198,Tryz.ntmps198
 go_wp2_with (refine zBYo (AaS _ _) ?_;clear M;intro w' g M)
 go_loopw [5] (fun i wr=>∃k:Nat,k<=n/\i=.int .i64 k/\(∀j (hj:j<T.length),j<k->cmpCp T[j].c t.c<0)/\MM Γ w Γ wr [⟨g,tbP t.c (.slice As t.b.length ks),[1,32,1]⟩] []) (fun i _=>n-(intOf i).toNat)
 case atStart=>exact⟨0,Nat.zero_le _,rfl,fun j _ hj=>absurd hj (Nat.not_lt_zero _),M.o⟩
 case round=>
  obtain⟨k,hk,rfl,hlow,hM⟩:=hrel
  clear M
  have M:=bx hM
  have HLOW:=bx hlow
  clear hM hlow
  have hTk:∀h:k<T.length,k<n:=fun h=>by rw[LN.o]at h;exact h
  by_cases hkn:k<n
  .have hkl:k<T.length:=by rw[LN.o];exact hkn
   obtain⟨g1,s1,rfl,hst,hc1⟩:=HT.o.at k hkn
   have QM:=bx M.o.at0.cls
   have Q1:=bx (CL.cls hc1 (AaS _ _) M.ok)
   have CC:=bx (fun w1 (_:Cls wr.heap.size wr w1)=>Ah3 T[k].c t.c w1)
   have NX:=bx (fun(e:cmpCp T[k].c t.c<0) j (hj:j<T.length) (hjk:j<k+1)=>(Nat.lt_or_eq_of_le (Nat.le_of_lt_succ hjk)).elim (HLOW.o j hj) (fun h=>by subst h;exact e))
   have AT:=bx (fun(e:¬cmpCp T[k].c t.c<0)=>AnX (Nat.le_of_lt hkl) HLOW.o (fun _=>e))
   have hki:(k:Int)<(n:Int):=by omega
   have hk0:0<=(k:Int):=by omega
   clear hst hc1
   generalize T[k].c=tc at *
   generalize cmpCp tc t.c=v at *
   by_cases hv:v<0
   .go_wp2_with fail
    refine Aa3 wr.heap.size (by kernel_rfl) (by kernel_rfl) ?_
    repeat((go_big_quiet_want;first|(first|((first|refine zQL QM.o (AaS _ _) ?_|refine zQR Q1.o (AaS _ _) ?_|refine zQC (AfY CC.o) Tryz.func212 ?_);go_big_quiet_on;refine zNM ?_))|(refine zQO ?_;go_big_quiet_on)))
    (refine zQN ?_;clear M;intro w4 M)
    go_wp2_with fail
    go_roundw
    case rel=>exact⟨k+1,by omega,by go_num,NX.o (by assumption),M.o⟩
    case measure=>simp[intOf];omega
   .have AT':=bx (AT.o hv)
    have hkle:k<=n:=hk
    clear AT NX
    go_wp2_with fail
    refine Aa3 wr.heap.size (by kernel_rfl) (by kernel_rfl) ?_
    repeat((go_big_quiet_want;first|(first|((first|refine zQL QM.o (AaS _ _) ?_|refine zQR Q1.o (AaS _ _) ?_|refine zQC (AfY CC.o) Tryz.func212 ?_);go_big_quiet_on;refine zNM ?_))|(refine zQO ?_;go_big_quiet_on)))
    (refine zQN ?_;clear M;intro w4 M)
    clear Q1 QM CC
    ((go_wp2_with fail);refine AaB [7,11] (.steps [(1,0),(1,1),(1,2),(0,4),(1,8),(1,9),(1,10),(2,3),(2,5),(2,6),(3,7),(3,11),(1,12)] .leaf) (by kernel_rfl) (by kernel_rfl) ?_;simp only[MixT6,MT.steps,stepAt,List.getD_cons_zero,List.getD_cons_succ];replace M:=bx (M.o.drew);have QM:=bx M.o.at0.cls;(repeat(first|(with_reducible refine wpQuiet_nil ?_)|((go_big_quiet_want;first|(first|((first|refine zQL QM.o (AaS _ _) ?_|((refine Acu elTb rfl rfl rfl ?_ ?_);(have:=HC.o.le;omega))|((refine Acs elTb rfl rfl rfl ?_ ?_);omega));go_big_quiet_on;refine zNM ?_))|(refine zQO ?_;go_big_quiet_on)))));clear QM;obtain⟨A1,c1,w1,hr,hM,hb⟩:=Aal elTb M.o 47 (some ⟨g1,0,none⟩) k c _ (((hS.mono M.o.ext.le).row HL.o M.ok).take (size:=34) hk) HC.o.nil (HO.o _) (by unfold maxLen;omega) (by omega);refine AaA (AaE rfl rfl rfl hr) rfl ?_;refine⟨hb,?_⟩;clear M;have M:=bx hM;clear hM hr hb;refine zNM ?_;refine zMC (AcN _ t.c t.b HB.o _ _ _ M.ok (HTR.o _ _ M.o.ext.le M.ok) HTC.o.nil) Tryz.func66 ?_;rintro e w2 ⟨s1,Γ1,rfl,hs1,hx⟩;refine⟨_,rfl,hx.bel,?_⟩;replace M:=bx (M.o.call hx);have HS1:=bx hs1;clear hs1 hx;refine zNM ?_;refine AaA (Aau elTb rfl rfl (v:=.agg (fl (tbP t.c s1)).toArray) (cs:=fl (tbP t.c s1)) rfl (Ad0 _ _)) rfl ?_;refine⟨ext_alloc _ _,?_⟩;replace M:=bx (M.o.alloc (AaS t.c s1) rfl 119);refine zNM ?_;obtain⟨v5,w5,hr,hM⟩:=AaW elTb M.o 47 _ 1 1 _ (Aaf M.o.at0 (m:=1) (size:=34) rfl) (fun h=>by cases h) (AfR HS1.o) (by unfold maxLen;omega) (by omega);refine AaA (AaE rfl rfl rfl hr) rfl ?_;replace M:=bx (hM.tail);clear hr hM;refine zNM ?_;obtain⟨v6,w6,hr,hM⟩:=AaW elTb M.o 47 (cutA (some ⟨g1,0,none⟩) c k 34) (n-k) (c-k) _ (((hS.mono M.o.ext.le).row HL.o M.ok).cut (size:=34) hk HC.o.le) (AcA HC.o) (HO2.o _) (by unfold maxLen;omega) (by omega);refine AaA (AaE rfl rfl rfl hr) rfl ?_;replace M:=bx (hM);clear hr hM;refine zNM ?_;(repeat(first|((go_big_quiet_want;(refine zQO ?_;go_big_quiet_on)))|(with_reducible refine wpQuiet_nil ?_)));refine NoPanic.normal ?_;(go_wp2_with fail);go_ret;(obtain⟨A6,c6,e6⟩:=own_slice (M.o.rows _ (List.mem_cons_self ..));simp only at e6;subst e6;obtain⟨Γ',h1,h2,h3,h4⟩:=M.o.frz;exact AnW HX.o HS1.o M.o.ext.le h3 AT'.o LN.o (by omega) h1 h2 h4.ext))
  .obtain rfl:k=n:=by omega
   have AT':=bx (AnX (T:=T) (t:=t) (k:=k) (by rw[LN.o];exact hk) HLOW.o (fun h=>absurd (hTk h) hkn))
   have QM:=bx M.o.at0.cls
   go_wp2_with fail
   refine Aa3 wr.heap.size (by kernel_rfl) (by kernel_rfl) ?_
   repeat(first|go_big_quiet_skip|(go_big_quiet_want;(refine zQO ?_;go_big_quiet_on)))
   (refine zQN ?_;clear M;intro w4 M)
   clear QM
   ((go_wp2_with fail);refine AaB [7,11] (.steps [(1,0),(1,1),(1,2),(0,4),(1,8),(1,9),(1,10),(2,3),(2,5),(2,6),(3,7),(3,11),(1,12)] .leaf) (by kernel_rfl) (by kernel_rfl) ?_;simp only[MixT6,MT.steps,stepAt,List.getD_cons_zero,List.getD_cons_succ];replace M:=bx (M.o.drew);have QM:=bx M.o.at0.cls;(repeat(first|(with_reducible refine wpQuiet_nil ?_)|((go_big_quiet_want;first|(first|((first|refine zQL QM.o (AaS _ _) ?_|((refine Acu elTb rfl rfl rfl ?_ ?_);(have:=HC.o.le;omega))|((refine Acs elTb rfl rfl rfl ?_ ?_);omega));go_big_quiet_on;refine zNM ?_))|(refine zQO ?_;go_big_quiet_on)))));clear QM;obtain⟨A1,c1,w1,hr,hM,hb⟩:=Aal elTb M.o 47 A k c _ (((hS.mono M.o.ext.le).row HL.o M.ok).take (size:=34) hk) HC.o.nil (HO.o _) (by unfold maxLen;omega) (by omega);refine AaA (AaE rfl rfl rfl hr) rfl ?_;refine⟨hb,?_⟩;clear M;have M:=bx hM;clear hM hr hb;refine zNM ?_;refine zMC (AcN _ t.c t.b HB.o _ _ _ M.ok (HTR.o _ _ M.o.ext.le M.ok) HTC.o.nil) Tryz.func66 ?_;rintro e w2 ⟨s1,Γ1,rfl,hs1,hx⟩;refine⟨_,rfl,hx.bel,?_⟩;replace M:=bx (M.o.call hx);have HS1:=bx hs1;clear hs1 hx;refine zNM ?_;refine AaA (Aau elTb rfl rfl (v:=.agg (fl (tbP t.c s1)).toArray) (cs:=fl (tbP t.c s1)) rfl (Ad0 _ _)) rfl ?_;refine⟨ext_alloc _ _,?_⟩;replace M:=bx (M.o.alloc (AaS t.c s1) rfl 119);refine zNM ?_;obtain⟨v5,w5,hr,hM⟩:=AaW elTb M.o 47 _ 1 1 _ (Aaf M.o.at0 (m:=1) (size:=34) rfl) (fun h=>by cases h) (AfR HS1.o) (by unfold maxLen;omega) (by omega);refine AaA (AaE rfl rfl rfl hr) rfl ?_;replace M:=bx (hM.tail);clear hr hM;refine zNM ?_;obtain⟨v6,w6,hr,hM⟩:=AaW elTb M.o 47 (cutA A c k 34) (k-k) (c-k) _ (((hS.mono M.o.ext.le).row HL.o M.ok).cut (size:=34) hk HC.o.le) (AcA HC.o) (HO2.o _) (by unfold maxLen;omega) (by omega);refine AaA (AaE rfl rfl rfl hr) rfl ?_;replace M:=bx (hM);clear hr hM;refine zNM ?_;(repeat(first|((go_big_quiet_want;(refine zQO ?_;go_big_quiet_on)))|(with_reducible refine wpQuiet_nil ?_)));refine NoPanic.normal ?_;(go_wp2_with fail);go_ret;(obtain⟨A6,c6,e6⟩:=own_slice (M.o.rows _ (List.mem_cons_self ..));simp only at e6;subst e6;obtain⟨Γ',h1,h2,h3,h4⟩:=M.o.frz;exact AnW HX.o HS1.o M.o.ext.le h3 AT'.o LN.o (by omega) h1 h2 h4.ext))
end
section
open Go.RowKit Old
theorem AoH(Γ:Gam)(A:Option Addr)(c:Nat)(l:List Int)(x:Int)(w:World)(ok:Ok Γ w)(h:SlG Γ A l.length (ints .i64 l))(hb:l.length<=9223372036854775807) :
  Calls Tryz.prog 48 #[.slice A l.length c,.int .i64 x] w fun e w'=>e=.returned (.bool (decide (x∈l)))/\Ext Γ w Γ w':=by
 have hr:=h.row (size:=1) (by rw[ints_len,Nat.mul_one]) ok
 refine(AhP w.heap.size A l.length c l x w hr hb).mono ?_
 rintro e w' ⟨he,rfl⟩
 exact⟨he,Ext.refl ok⟩
def IntsP(Γ:Gam)(w:World)(l:List Int)(e:Ending)(w':World):Prop:=∃(A:Option Addr) (c:Nat) (Γ':Gam),e=.returned (.slice A l.length c)/\CapOk A l.length c/\SlG Γ' A l.length (ints .i64 l)/\Ext Γ w Γ' w'
def insI(l:List Int)(n:Int):List Int:=if(l.dropWhile fun x=>decide (x<n)).head? = some n then l else l.takeWhile (fun x=>decide (x<n))++n::l.dropWhile (fun x=>decide (x<n))
theorem AmV{l:List Int}{n:Int}{k:Nat}(hk:k<=l.length)(h1:∀j (hj:j<l.length),j<k->l[j]<n)(h2:∀h:k<l.length,¬l[k]<n):insI l n=if l[k]? = some n then l else l.take k++n::l.drop k:=by
 obtain⟨e1,e2⟩:=Agx (p:=fun x=>decide (x<n)) hk (fun j hj hjk=>decide_eq_true (h1 j hj hjk)) (fun h=>decide_eq_false (h2 h))
 unfold insI
 rw[e1,e2,List.head?_drop]
theorem AkA(l:List Int)(n:Int):(insI l n).length<=l.length+1:=by
 unfold insI
 split
 .omega
 .have:=congrArg List.length (List.takeWhile_append_dropWhile (p:=fun x=>decide (x<n)) (l:=l))
  simp only[List.length_append,List.length_cons]at this |-
  omega
theorem Ae7{Γ Γ':Gam}{w w':World}{l:List Int}{n:Int}{k:Nat}{A6:Option Addr}{c6:Nat}(hk:k<=l.length)(he:insI l n=l.take k++n::l.drop k)
  (h1:CapOk A6 (k+1+(l.length-k)) c6) (h2:SlG Γ' A6 (k+1+(l.length-k)) ((ints .i64 l).take (k*1)++fl [[.int .i64 n]]++(ints .i64 l).drop (k*1))) (h4:Ext Γ w Γ' w') :
  IntsP Γ w (insI l n) (.returned (.slice A6 (k+1+(l.length-k)) c6)) w':=by
 have hl:(insI l n).length=k+1+(l.length-k):=by rw[he];simp;omega
 refine⟨A6,c6,Γ',by rw[hl],by rw[hl];exact h1,?_,h4⟩
 rw[hl,he]
 simpa [ints,fl]using h2
theorem Afl(Γ:Gam)(A:Option Addr)(c:Nat)(l:List Int)(n:Int)(w:World)(ok:Ok Γ w)(h:SlG Γ A l.length (ints .i64 l))(hc:CapOk A l.length c)(hb:l.length<=65535) :
  Calls Tryz.prog 197 #[.slice A l.length c,.int .i64 n] w (IntsP Γ w (insI l n)):=by
 have M:=bx (MM.start ok)
 have HS:=bx h
 have HC:=bx hc
 have HL:Bx ((ints .i64 l).length=l.length*1):=⟨by rw[ints_len,Nat.mul_one]⟩
 have HO:Bx (∀k,One ((ints .i64 l).take (k*1))):=⟨fun k u hu=>One.ints _ _ u (List.mem_of_mem_take hu)⟩
 have HO2:Bx (∀k,One ((ints .i64 l).drop (k*1))):=⟨fun k u hu=>One.ints _ _ u (List.mem_of_mem_drop hu)⟩
 clear ok h hc
 go_enter Tryz.func197,Tryz.ntmps197
 (go_wp2_with (fail))
 go_loopw [5] (fun j wr=>∃k:Nat,k<=l.length/\j=.int .i64 k/\(∀j (hj:j<l.length),j<k->l[j]<n)/\MM Γ w Γ wr [] []) (fun j _=>l.length-(intOf j).toNat)
 case atStart=>exact⟨0,Nat.zero_le _,rfl,fun j _ hj=>absurd hj (Nat.not_lt_zero _),M.o⟩
 case round=>
  obtain⟨k,hk,rfl,hv,hM⟩:=hrel
  clear M
  have M:=bx hM
  have HV:=bx hv
  clear hM hv
  by_cases hkn:k<l.length
  .obtain⟨gk,rfl,hc⟩:=Afk HS.o k hkn
   have F1:=bx hc
   have NX:=bx (fun(e:l[k]<n) j (hj:j<l.length) (hjk:j<k+1)=>(Nat.lt_or_eq_of_le (Nat.le_of_lt_succ hjk)).elim (HV.o j hj) (fun h=>by subst h;exact e))
   have AT:=bx (fun(e:¬l[k]<n)=>AmV (Nat.le_of_lt hkn) HV.o (fun _=>e))
   have hki:(k:Int)<(l.length:Int):=by omega
   have hk0:0<=(k:Int):=by omega
   have EQ:Bx (l[k]? = some l[k]):=⟨List.getElem?_eq_getElem hkn⟩
   clear hc
   generalize l[k]=y at *
   by_cases h1:y<n
   .have NX':=bx (NX.o h1)
    clear NX AT
    (go_wp2_with (refine zRFo F1 ?_))
    go_roundw
    case rel=>exact⟨k+1,by omega,by go_num,NX'.o,M.o⟩
    case measure=>simp[intOf]<;>omega
   .have AT:=bx (AT.o h1)
    clear NX
    by_cases h2:y=n
    .have AT':=bx (AT.o.trans (if_pos (by rw[EQ.o,h2])))
     have h2b:(y==n)=true:=beq_iff_eq.2 h2
     clear AT h2
     (go_wp2_with (refine zRFo F1 ?_))
     go_ret
     unfold IntsP
     rw[AT'.o]
     exact⟨_,c,Γ,rfl,HC.o,HS.o,M.o.ext⟩
    .have AT':=bx (AT.o.trans (if_neg (by rw[EQ.o];exact fun e=>h2 (Option.some.inj e))))
     have h2b:(y==n)=false:=beq_eq_false_iff_ne.2 h2
     clear AT h2
     (go_wp2_with (refine zRFo F1 ?_))
     ((go_wp2_with fail);refine AaB [6,10] (.steps [(1,0),(1,1),(1,2),(1,4),(1,7),(1,8),(1,9)] (.fork 3 (.steps [(2,5),(3,6),(3,10),(1,11)] .leaf) 5 (.steps [(2,3),(3,6),(3,10),(1,11)] .leaf))) (by kernel_rfl) (by kernel_rfl) ?_;(simp only[MixT6,MT.steps,stepAt,List.getD_cons_zero,List.getD_cons_succ]);replace M:=bx (M.o.drew);(repeat(first|refine zM0 ?_|(go_big_quiet_want;first|((first|((refine Acu AbO rfl rfl rfl ?_ ?_);(have:=HC.o.le;omega))|((refine Acs AbO rfl rfl rfl ?_ ?_);omega));go_big_quiet_on;refine zNM ?_)|(refine zQO ?_;go_big_quiet_on))));refine⟨?_,?_⟩;(focus((obtain⟨A1,c1,w1,hr,hM,hb⟩:=Aal AbO M.o 22 (some ⟨gk,0,none⟩) k c _ (((HS.o.mono M.o.ext.le).row HL.o M.ok).take (size:=1) hk) HC.o.nil (HO.o _) (by unfold maxLen;omega) (by omega));refine AaA (AaE rfl rfl rfl hr) rfl ?_;refine⟨hb,?_⟩;clear M;have M:=bx hM;clear hM hr hb;refine zNM ?_;refine AaA (Aau AbO rfl rfl (v:=(.int .i64 n)) (cs:=[(.int .i64 n)]) rfl rfl) rfl ?_;refine⟨ext_alloc _ _,?_⟩;replace M:=bx (M.o.alloc (P:=[[(.int .i64 n)]]) (ls:=[1]) rfl rfl 3);refine zNM ?_;(obtain⟨v5,w5,hr,hM⟩:=AaW AbO M.o 22 _ 1 1 _ (Aaf M.o.at0 (m:=1) rfl) (fun h=>by cases h) (Abk _ _) (by unfold maxLen;omega) (by omega));refine AaA (AaE rfl rfl rfl hr) rfl ?_;replace M:=bx (hM.tail);clear hr hM;refine zNM ?_;(obtain⟨v6,w6,hr,hM⟩:=AaW AbO M.o 22 (cutA (some ⟨gk,0,none⟩) c k 1) (l.length-k) (c-k) _ (((HS.o.mono M.o.ext.le).row HL.o M.ok).cut (size:=1) hk HC.o.le) (AcA HC.o) (HO2.o _) (by unfold maxLen;omega) (by omega));refine AaA (AaE rfl rfl rfl hr) rfl ?_;replace M:=bx (hM);clear hr hM;refine zNM ?_;refine zMRo ?_;refine NoPanic.normal ?_;(go_wp2_with fail);go_ret;(obtain⟨A6,c6,e6⟩:=own_slice (M.o.rows _ (List.mem_cons_self ..));simp only at e6;subst e6;obtain⟨Γ',h1,h2,h3,h4⟩:=M.o.frz);exact Ae7 hk AT'.o h1 h2 h4.ext));(refine AaA (Aau AbO rfl rfl (v:=(.int .i64 n)) (cs:=[(.int .i64 n)]) rfl rfl) rfl ?_;refine⟨ext_alloc _ _,?_⟩;replace M:=bx (M.o.alloc (P:=[[(.int .i64 n)]]) (ls:=[1]) rfl rfl 3);refine zNM ?_;(obtain⟨A1,c1,w1,hr,hM,hb⟩:=Aal AbO M.o 22 (some ⟨gk,0,none⟩) k c _ (((HS.o.mono M.o.ext.le).row HL.o M.ok).take (size:=1) hk) HC.o.nil (HO.o _) (by unfold maxLen;omega) (by omega));refine AaA (AaE rfl rfl rfl hr) rfl ?_;refine⟨hb,?_⟩;clear M;have M:=bx hM;clear hM hr hb;refine zNM ?_;(obtain⟨v5,w5,hr,hM⟩:=AaW AbO M.o 22 _ 1 1 _ (Aaf M.o.at0 (m:=1) rfl) (fun h=>by cases h) (Abk _ _) (by unfold maxLen;omega) (by omega));refine AaA (AaE rfl rfl rfl hr) rfl ?_;replace M:=bx (hM.tail);clear hr hM;refine zNM ?_;(obtain⟨v6,w6,hr,hM⟩:=AaW AbO M.o 22 (cutA (some ⟨gk,0,none⟩) c k 1) (l.length-k) (c-k) _ (((HS.o.mono M.o.ext.le).row HL.o M.ok).cut (size:=1) hk HC.o.le) (AcA HC.o) (HO2.o _) (by unfold maxLen;omega) (by omega));refine AaA (AaE rfl rfl rfl hr) rfl ?_;replace M:=bx (hM);clear hr hM;refine zNM ?_;refine zMRo ?_;refine NoPanic.normal ?_;(go_wp2_with fail);go_ret;(obtain⟨A6,c6,e6⟩:=own_slice (M.o.rows _ (List.mem_cons_self ..));simp only at e6;subst e6;obtain⟨Γ',h1,h2,h3,h4⟩:=M.o.frz);exact Ae7 hk AT'.o h1 h2 h4.ext))
  .have AT':=bx ((AmV hk HV.o (fun h=>absurd h hkn)).trans (if_neg (by rw[List.getElem?_eq_none (by omega)];exact fun e=>by cases e)))
   have hki:(l.length:Int)<=(k:Int):=by omega
   (go_wp2_with (fail))
   ((go_wp2_with fail);refine AaB [6,10] (.steps [(1,0),(1,1),(1,2),(1,4),(1,7),(1,8),(1,9)] (.fork 3 (.steps [(2,5),(3,6),(3,10),(1,11)] .leaf) 5 (.steps [(2,3),(3,6),(3,10),(1,11)] .leaf))) (by kernel_rfl) (by kernel_rfl) ?_;(simp only[MixT6,MT.steps,stepAt,List.getD_cons_zero,List.getD_cons_succ]);replace M:=bx (M.o.drew);(repeat(first|refine zM0 ?_|(go_big_quiet_want;first|((first|((refine Acu AbO rfl rfl rfl ?_ ?_);(have:=HC.o.le;omega))|((refine Acs AbO rfl rfl rfl ?_ ?_);omega));go_big_quiet_on;refine zNM ?_)|(refine zQO ?_;go_big_quiet_on))));refine⟨?_,?_⟩;(focus((obtain⟨A1,c1,w1,hr,hM,hb⟩:=Aal AbO M.o 22 A k c _ (((HS.o.mono M.o.ext.le).row HL.o M.ok).take (size:=1) hk) HC.o.nil (HO.o _) (by unfold maxLen;omega) (by omega));refine AaA (AaE rfl rfl rfl hr) rfl ?_;refine⟨hb,?_⟩;clear M;have M:=bx hM;clear hM hr hb;refine zNM ?_;refine AaA (Aau AbO rfl rfl (v:=(.int .i64 n)) (cs:=[(.int .i64 n)]) rfl rfl) rfl ?_;refine⟨ext_alloc _ _,?_⟩;replace M:=bx (M.o.alloc (P:=[[(.int .i64 n)]]) (ls:=[1]) rfl rfl 3);refine zNM ?_;(obtain⟨v5,w5,hr,hM⟩:=AaW AbO M.o 22 _ 1 1 _ (Aaf M.o.at0 (m:=1) rfl) (fun h=>by cases h) (Abk _ _) (by unfold maxLen;omega) (by omega));refine AaA (AaE rfl rfl rfl hr) rfl ?_;replace M:=bx (hM.tail);clear hr hM;refine zNM ?_;(obtain⟨v6,w6,hr,hM⟩:=AaW AbO M.o 22 (cutA A c k 1) (l.length-k) (c-k) _ (((HS.o.mono M.o.ext.le).row HL.o M.ok).cut (size:=1) hk HC.o.le) (AcA HC.o) (HO2.o _) (by unfold maxLen;omega) (by omega));refine AaA (AaE rfl rfl rfl hr) rfl ?_;replace M:=bx (hM);clear hr hM;refine zNM ?_;refine zMRo ?_;refine NoPanic.normal ?_;(go_wp2_with fail);go_ret;(obtain⟨A6,c6,e6⟩:=own_slice (M.o.rows _ (List.mem_cons_self ..));simp only at e6;subst e6;obtain⟨Γ',h1,h2,h3,h4⟩:=M.o.frz);exact Ae7 hk AT'.o h1 h2 h4.ext));(refine AaA (Aau AbO rfl rfl (v:=(.int .i64 n)) (cs:=[(.int .i64 n)]) rfl rfl) rfl ?_;refine⟨ext_alloc _ _,?_⟩;replace M:=bx (M.o.alloc (P:=[[(.int .i64 n)]]) (ls:=[1]) rfl rfl 3);refine zNM ?_;(obtain⟨A1,c1,w1,hr,hM,hb⟩:=Aal AbO M.o 22 A k c _ (((HS.o.mono M.o.ext.le).row HL.o M.ok).take (size:=1) hk) HC.o.nil (HO.o _) (by unfold maxLen;omega) (by omega));refine AaA (AaE rfl rfl rfl hr) rfl ?_;refine⟨hb,?_⟩;clear M;have M:=bx hM;clear hM hr hb;refine zNM ?_;(obtain⟨v5,w5,hr,hM⟩:=AaW AbO M.o 22 _ 1 1 _ (Aaf M.o.at0 (m:=1) rfl) (fun h=>by cases h) (Abk _ _) (by unfold maxLen;omega) (by omega));refine AaA (AaE rfl rfl rfl hr) rfl ?_;replace M:=bx (hM.tail);clear hr hM;refine zNM ?_;(obtain⟨v6,w6,hr,hM⟩:=AaW AbO M.o 22 (cutA A c k 1) (l.length-k) (c-k) _ (((HS.o.mono M.o.ext.le).row HL.o M.ok).cut (size:=1) hk HC.o.le) (AcA HC.o) (HO2.o _) (by unfold maxLen;omega) (by omega));refine AaA (AaE rfl rfl rfl hr) rfl ?_;replace M:=bx (hM);clear hr hM;refine zNM ?_;refine zMRo ?_;refine NoPanic.normal ?_;(go_wp2_with fail);go_ret;(obtain⟨A6,c6,e6⟩:=own_slice (M.o.rows _ (List.mem_cons_self ..));simp only at e6;subst e6;obtain⟨Γ',h1,h2,h3,h4⟩:=M.o.frz);exact Ae7 hk AT'.o h1 h2 h4.ext))
structure Clm where
 src:U
 tgt:U
 r:Rt
 l:List Int
deriving DecidableEq
def clP(a:Clm)(s:Sl):List (List Value):=[[.int .u64 (a.src.n:Int)],[.int .u64 (a.tgt.n:Int)],rc a.r,[s.v]]
theorem Adi(a:Clm)(s:Sl):(clP a s).map List.length = [1,1,32,1]:=by simp[clP,Aav]
theorem Am3(a:Clm)(s:Sl):One (fl (clP a s)):=One.cons (Abk _ _) (One.cons (Abk _ _) (One.cons (Aac _) (Aak _ _ _)))
structure Slh where
 a:Clm
 b:Clm
deriving DecidableEq
def slP(x:Slh)(s t:Sl):List (List Value):=[[.int .u64 (x.a.src.n:Int)],[.int .u64 (x.a.tgt.n:Int)],rc x.a.r,[s.v],[.int .u64 (x.b.src.n:Int)],[.int .u64 (x.b.tgt.n:Int)],rc x.b.r,[t.v]]
theorem AdY(x:Slh)(s t:Sl):(slP x s t).map List.length = [1,1,32,1,1,1,32,1]:=by simp[slP,Aav]
theorem Als(x:Slh)(s t:Sl):One (fl (slP x s t)):=by
 unfold slP
 repeat(first|exact Aak _ _ _|refine One.cons (Abk _ _) ?_|refine One.cons (Aac _) ?_|refine One.cons (Aak _ _ _) ?_)
structure Vd where
 tag:U
 kind:Int
 latest:Rt
deriving DecidableEq
def vdP(v:Vd):List (List Value):=[[.int .u64 (v.tag.n:Int)],[.int .i64 v.kind],rc v.latest]
theorem Abe(v:Vd):(vdP v).map List.length = [1,1,32]:=by simp[vdP,Aav]
theorem Aen(v:Vd):One (fl (vdP v)):=One.cons (Abk _ _) (One.cons (Abk _ _) (Aac _))
structure OpD where
 kind:Int
 b:Blk
 a:Att
 s:Slh
 t:Tbl
 v:Vd
 wr:Int
 kp:Int
structure OpS where
 a:Sl
 s1:Sl
 s2:Sl
 t:Sl
def opP(o:OpD)(x:OpS):List (List Value):=[[.int .i64 o.kind],[.int .u64 (o.b.pj.e.n:Int)],rc o.b.pj.r,[.int .u64 (o.b.pf.e.n:Int)],rc o.b.pf.r,[.int .u64 (o.b.slot.n:Int)],rc o.b.root,rc o.b.parent,rc o.b.payload,wc o.b.diff,wc o.b.pdiff,[.int .u64 (o.b.just.e.n:Int)],rc o.b.just.r,[.int .u64 (o.b.fin.e.n:Int)],rc o.b.fin.r,[.bool o.b.timely],[.int .u64 (o.a.slot.n:Int)],rc o.a.r,[.int .u64 (o.a.t.e.n:Int)],rc o.a.t.r,[x.a.v],[.int .u64 (o.s.a.src.n:Int)],[.int .u64 (o.s.a.tgt.n:Int)],rc o.s.a.r,[x.s1.v],[.int .u64 (o.s.b.src.n:Int)],[.int .u64 (o.s.b.tgt.n:Int)],rc o.s.b.r,[x.s2.v],[.int .u64 (o.t.c.e.n:Int)],rc o.t.c.r,[x.t.v],[.int .u64 (o.v.tag.n:Int)],[.int .i64 o.v.kind],rc o.v.latest,[.int .i64 o.wr],[.int .i64 o.kp]]
abbrev opL:List Nat:=[1,1,32,1,32,1,32,32,32,4,4,1,32,1,32,1,1,32,1,32,1,1,1,32,1,1,1,32,1,1,32,1,1,1,32,1,1]
theorem Aat(o:OpD)(x:OpS):(opP o x).map List.length=opL:=by simp[opP,Aav,AdR]
theorem AbN(o:OpD)(x:OpS):One (fl (opP o x)):=by
 unfold opP
 repeat(first|exact Abk _ _|refine One.cons (Abk _ _) ?_|refine One.cons (Aac _) ?_|refine One.cons (Adz _) ?_|refine One.cons (Aak _ _ _) ?_|refine One.cons (AjJ _) ?_)
theorem AkZ(a:Clm)(s:Sl):List.take 4 (clP a s)=clP a s:=rfl
theorem AkW(x:Slh)(s t:Sl):List.take 8 (slP x s t)=slP x s t:=rfl
theorem AfD(x:Slh)(s t:Sl):List.take 4 (slP x s t)=clP x.a s:=rfl
theorem AfC(x:Slh)(s t:Sl):List.take 4 (List.drop 4 (slP x s t))=clP x.b t:=rfl
theorem AkV(v:Vd):List.take 3 (vdP v)=vdP v:=rfl
theorem AkY(o:OpD)(x:OpS):List.take 37 (opP o x)=opP o x:=rfl
theorem AfH(o:OpD)(x:OpS):List.take 15 (List.drop 1 (opP o x))=blP o.b:=rfl
theorem AfI(o:OpD)(x:OpS):List.take 5 (List.drop 16 (opP o x))=atP o.a x.a:=rfl
theorem AfG(o:OpD)(x:OpS):List.take 8 (List.drop 21 (opP o x))=slP o.s x.s1 x.s2:=rfl
theorem AfF(o:OpD)(x:OpS):List.take 3 (List.drop 29 (opP o x))=tbP o.t.c x.t.v:=rfl
theorem AfE(o:OpD)(x:OpS):List.take 3 (List.drop 32 (opP o x))=vdP o.v:=rfl
theorem rtCl:RowT Tryz.prog 115 35:=⟨⟨_,Tryz.underlying115,rfl⟩,by kernel_rfl⟩
theorem rtSl:RowT Tryz.prog 117 70:=⟨⟨_,Tryz.underlying117,rfl⟩,by kernel_rfl⟩
theorem rtVd:RowT Tryz.prog 123 34:=⟨⟨_,Tryz.underlying123,rfl⟩,by kernel_rfl⟩
theorem rtOp:RowT Tryz.prog 125 446:=⟨⟨_,Tryz.underlying125,rfl⟩,by kernel_rfl⟩
structure SlG2(Γ:Gam)(x:Slh)(s t:Sl):Prop where
 a:SlR Γ s x.a.l.length (ints .i64 x.a.l)
 b:SlR Γ t x.b.l.length (ints .i64 x.b.l)
theorem SlG2.mono{Γ Γ':Gam}{x:Slh}{s t:Sl}(h:SlG2 Γ x s t)(hl:Le Γ Γ'):SlG2 Γ' x s t:=⟨h.a.mono hl,h.b.mono hl⟩
structure OpG(Γ:Gam)(o:OpD)(x:OpS):Prop where
 a:AtG Γ o.a x.a
 s:SlG2 Γ o.s x.s1 x.s2
 t:SlR Γ x.t o.t.b.length (us o.t.b)
theorem OpG.mono{Γ Γ':Gam}{o:OpD}{x:OpS}(h:OpG Γ o x)(hl:Le Γ Γ'):OpG Γ' o x:=⟨h.a.mono hl,h.s.mono hl,h.t.mono hl⟩
def vd0:Vd:=⟨u0,0,r0⟩
def cl0:Clm:=⟨u0,u0,r0,[]⟩
def slh0:Slh:=⟨cl0,cl0⟩
def at0:Att:=⟨u0,r0,cp0,[]⟩
def tb0:Tbl:=⟨cp0,[]⟩
def op0(k:Int):OpD:=⟨k,b0,at0,slh0,tb0,vd0,0,0⟩
def os0:OpS:=⟨sl0,sl0,sl0,sl0⟩
end
section
open Go.RowKit
def addV(a b:Int):Int:=if a+b<18446744073709551616 then a+b else 0
def addE(a b:Int):Int:=if a+b<18446744073709551616 then 0 else 4
def mulV(a b:Int):Int:=if a*b<18446744073709551616 then a*b else 0
def mulE(a b:Int):Int:=if a*b<18446744073709551616 then 0 else 4
def fitsB(p:Int):Bool:=decide (1<=p/\p<=64)
def epV(n p:Int):Int:=if fitsB p=true then n / p else 0
def epE(p:Int):Int:=if fitsB p=true then 0 else 3
def stV(n p:Int):Int:=if fitsB p=true then mulV n p else 0
def stE(n p:Int):Int:=if fitsB p=true then mulE n p else 3
theorem ref_add(a b:Int)(ha:0<=a)(ha':a<18446744073709551616)(hb:0<=b)(hb':b<18446744073709551616)(w:World) :
  Calls Tryz.prog 107 #[.int .u64 a,.int .u64 b] w fun e w'=>e=.returned (.tuple #[.int .u64 (addV a b),.int .i64 (addE a b)])/\w=w':=by
 go_enter Tryz.func107,Tryz.ntmps107
 go_wp2
 .have h:18446744073709551615-b<a:=by assumption
  go_ret2
  unfold addV addE
  rw[if_neg (by omega),if_neg (by omega)]
  exact⟨rfl,rfl⟩
 .have h:a<=18446744073709551615-b:=by assumption
  go_ret2
  unfold addV addE
  rw[if_pos (by omega),if_pos (by omega)]
  exact⟨rfl,rfl⟩
theorem AoK(p:Int)(hp:0<=p)(hp':p<18446744073709551616)(w:World) :
  Calls Tryz.prog 204 #[.int .u64 p] w fun e w'=>e=.returned (.bool (fitsB p))/\w=w':=by
 unfold fitsB
 by_cases h:1<=p
 .by_cases h':p<=64
  .rw[decide_eq_true ⟨h,h'⟩]
   go_enter Tryz.func204,Tryz.ntmps204
   go_wp2
   go_ret
   exact⟨rfl,rfl⟩
  .rw[decide_eq_false (by omega)]
   go_enter Tryz.func204,Tryz.ntmps204
   go_wp2
   go_ret
   exact⟨rfl,rfl⟩
 .rw[decide_eq_false (by omega)]
  go_enter Tryz.func204,Tryz.ntmps204
  go_wp2
  go_ret
  exact⟨rfl,rfl⟩
theorem Ak8(p:Int)(hp:0<=p)(hp':p<18446744073709551616)(w:World) :
  Calls Tryz.prog 214 #[.int .u64 p] w fun e w'=>e=.returned (.bool (fitsB p))/\w=w':=by
 unfold fitsB
 by_cases h:1<=p
 .by_cases h':p<=64
  .rw[decide_eq_true ⟨h,h'⟩]
   go_enter Tryz.func214,Tryz.ntmps214
   go_wp2
   go_ret
   exact⟨rfl,rfl⟩
  .rw[decide_eq_false (by omega)]
   go_enter Tryz.func214,Tryz.ntmps214
   go_wp2
   go_ret
   exact⟨rfl,rfl⟩
 .rw[decide_eq_false (by omega)]
  go_enter Tryz.func214,Tryz.ntmps214
  go_wp2
  go_ret
  exact⟨rfl,rfl⟩
theorem Aqi(a b:Int)(hb:1<=b):18446744073709551615 / b<a↔¬a*b<18446744073709551616:=by
 rw[Int.ediv_lt_iff_lt_mul (by omega)]
 omega
theorem ApU(a b:Int)(ha:0<=a)(ha':a<18446744073709551616)(hb:0<=b)(hb':b<18446744073709551616)(w:World) :
  Calls Tryz.prog 215 #[.int .u64 a,.int .u64 b] w fun e w'=>e=.returned (.tuple #[.int .u64 (mulV a b),.int .i64 (mulE a b)])/\w=w':=by
 by_cases h0:b=0
 .subst h0
  have hv:mulV a 0=0:=by unfold mulV;simp
  have he:mulE a 0=0:=by unfold mulE;simp
  rw[hv,he]
  clear hv he
  go_enter Tryz.func215,Tryz.ntmps215
  go_wp2
  go_ret2
  exact⟨by simp,rfl⟩
 .have hb1:1<=b:=by omega
  have hle:=Aqi a b hb1
  have hbn:(b != 0)=true:=by simp[h0]
  have hm0:0<=a*b:=Int.mul_nonneg ha hb
  by_cases h:18446744073709551615 / b<a
  .have h1:=hle.1 h
   have hv:mulV a b=0:=by unfold mulV;rw[if_neg h1]
   have he:mulE a b=4:=by unfold mulE;rw[if_neg h1]
   rw[hv,he]
   clear hv he hle h1
   go_enter Tryz.func215,Tryz.ntmps215
   go_wp2
   go_ret2
   exact⟨rfl,rfl⟩
  .have h1:a*b<18446744073709551616:=by
    by_cases g:a*b<18446744073709551616
    .exact g
    .exact absurd (hle.2 g) h
   have hv:mulV a b=a*b:=by unfold mulV;rw[if_pos h1]
   have he:mulE a b=0:=by unfold mulE;rw[if_pos h1]
   rw[hv,he]
   clear hv he hle
   go_enter Tryz.func215,Tryz.ntmps215
   go_wp2
   go_ret2
   exact⟨rfl,rfl⟩
theorem AjQ(n p:Int)(hn:0<=n)(hn':n<18446744073709551616)(hp:0<=p)(hp':p<18446744073709551616)(w:World) :
  Calls Tryz.prog 176 #[.int .u64 n,.int .u64 p] w fun e w'=>e=.returned (.tuple #[.int .u64 (epV n p),.int .i64 (epE p)])/\w=w':=by
 have HC:=Lib.hid (AoK p hp hp')
 unfold epV epE
 by_cases h:fitsB p=true
 .rw[if_pos h,if_pos h]
  have h1:1<=p:=(of_decide_eq_true h).1
  go_enter Tryz.func176,Tryz.ntmps176
  go_wp2_with (go_at_call 204;refine(HC.out _).mono ?_;rintro e w' ⟨rfl,rfl⟩)
  go_ret2
  exact⟨rfl,rfl⟩
 .rw[if_neg h,if_neg h]
  have h':fitsB p=false:=by simpa using h
  clear h
  go_enter Tryz.func176,Tryz.ntmps176
  go_wp2_with (go_at_call 204;refine(HC.out _).mono ?_;rintro e w' ⟨rfl,rfl⟩)
  go_ret2
  exact⟨rfl,rfl⟩
theorem Ai6(n p:Int)(hn:0<=n)(hn':n<18446744073709551616)(hp:0<=p)(hp':p<18446744073709551616)(w:World) :
  Calls Tryz.prog 207 #[.int .u64 n,.int .u64 p] w fun e w'=>e=.returned (.tuple #[.int .u64 (stV n p),.int .i64 (stE n p)])/\w=w':=by
 have HC:=Lib.hid (Ak8 p hp hp')
 have HM:=Lib.hid (ApU n p hn hn' hp hp')
 unfold stV stE
 by_cases h:fitsB p=true
 .rw[if_pos h,if_pos h]
  go_enter Tryz.func207,Tryz.ntmps207
  go_wp2_with (first|(go_at_call 214;refine(HC.out _).mono ?_;rintro e w' ⟨rfl,rfl⟩)|(go_at_call 215;refine(HM.out _).mono ?_;rintro e w' ⟨rfl,rfl⟩))
  go_ret2
  exact⟨rfl,rfl⟩
 .rw[if_neg h,if_neg h]
  have h':fitsB p=false:=by simpa using h
  clear h
  go_enter Tryz.func207,Tryz.ntmps207
  go_wp2_with (go_at_call 214;refine(HC.out _).mono ?_;rintro e w' ⟨rfl,rfl⟩)
  go_ret2
  exact⟨rfl,rfl⟩
structure SpeOk(s:Sto):Prop where
 lo:0<s.c.spe.n
 hi:s.c.spe.n<=64
theorem Aqu{s:Sto}(h:SpeOk s)(k:U):epV (k.n:Int) (s.c.spe.n:Int)=((s.ep k).n:Int):=by
 have h1:=h.lo
 have h2:=h.hi
 unfold epV
 rw[if_pos (by unfold fitsB;simp;omega)]
 rfl
theorem Agc(Γ:Gam)(s:Sto)(v:Sls)(k:U)(hs:SpeOk s)(w:World)(ok:Ok Γ w) :
  Calls Tryz.prog 137 #[.agg (fl (stP s v)).toArray,.int .u64 (k.n:Int)] w fun e w'=>e=.returned (.int .u64 ((s.ep k).n:Int))/\Ext Γ w Γ w':=by
 have M:=bx (MM.start ok)
 have EO:Bx (∀w,Calls Tryz.prog 176 #[.int .u64 (k.n:Int),.int .u64 (s.c.spe.n:Int)] w fun e w'=>e=.returned (.tuple #[.int .u64 ((s.ep k).n:Int),.int .i64 (epE (s.c.spe.n:Int))])/\w=w'):=
  ⟨fun w=>Aqu hs k▸AjQ (k.n:Int) (s.c.spe.n:Int) (by omega) (by have:=k.lt;omega) (by omega) (by have:=s.c.spe.lt;omega) w⟩
 clear ok hs
 go_enter Tryz.func137,Tryz.ntmps137
 go_wp2_with (first|(refine zBYo (AaD s v) ?_;clear M;intro w' g M)|refine zLDo (M.o.at0) ?_)
 refine(EO.o _).mono ?_
 rintro e1 w1 ⟨rfl,rfl⟩
 go_wp2_with fail
 go_ret
 exact⟨rfl,M.o.ext⟩
theorem Aiv(Γ:Gam)(s:Sto)(v:Sls)(i:Int)(hs:SpeOk s)(w:World)(ok:Ok Γ w)(h:StG Γ v s) :
  Calls Tryz.prog 136 #[.agg (fl (stP s v)).toArray,.int .i64 i] w fun e w'=>e=.returned (.agg (fl (cpP (s.src i))).toArray)/\Ext Γ w Γ w':=by
 have M:=bx (MM.start ok)
 have LN:=bx h.nodes.n
 clear ok
 rcases AeP s i with⟨h1,h2⟩|⟨k,hk,rfl,h1,h2⟩
 .have HR:Bx (s.src i=cp0):=⟨by unfold Sto.src;rw[h2]⟩
  have hni:i<0\/(0<=i/\(v.nodes.n:Int)<=i):=by have:=of_decide_eq_false h1;rw[LN.o];omega
  clear h1 h2 h
  rcases hni with hi|⟨hi,hi2⟩
  .go_enter Tryz.func136,Tryz.ntmps136
   go_wp2_with (first|((first|refine zBYo (AaD s v) ?_|refine zALo (Agw) ?_);clear M;intro w' g M)|((with_reducible refine AcM rfl 37 _ rfl [] (fl (cpP cp0)) ?_ (by kernel_rfl) ?_);rfl)|(refine zSSo M 0 (cpP cp0) (cpP cp0) (AaC _) (AaO _) ?_;clear M;intro w' M))
   rw[HR.o]
   exact zRb M.o.at0 ⟨rfl,M.o.ext⟩
  .have hd:decide (i<0)=false:=by simp;omega
   go_enter Tryz.func136,Tryz.ntmps136
   go_wp2_with (first|(refine zBYo (AaD s v) ?_;clear M;intro w' g M)|refine zLDo (M.o.at1) ?_|(refine zALo (Agw) ?_;clear M;intro w' g M)|((with_reducible refine AcM rfl 37 _ rfl [] (fl (cpP cp0)) ?_ (by kernel_rfl) ?_);rfl)|(refine zSSo M 0 (cpP cp0) (cpP cp0) (AaC _) (AaO _) ?_;clear M;intro w' M))
   rw[HR.o]
   exact zRb M.o.at0 ⟨rfl,M.o.ext⟩
 .have HS:Bx (s.src (k:Int)=s.srcN s.nodes[k]):=⟨by unfold Sto.src;rw[h2]⟩
  obtain⟨gn,hA,hc⟩:=h.nodes.at (fun x _=>AbH x) k hk
  have HC:=bx hc
  have HA:=bx (Aei hA)
  have hkn:k<v.nodes.n:=by rw[LN.o];exact hk
  have E1:=bx (fun(Γ:Gam) (x:U) w' (ok:Ok Γ w')=>Agc Γ s v x hs w' ok)
  have HV:Bx (s.srcN s.nodes[k]=if(s.ep s.nodes[k].b.slot).n<(s.ep s.now).n then s.nodes[k].b.pj else s.nodes[k].b.just):=⟨rfl⟩
  clear h1 h2 h hc hs
  generalize s.nodes[k]=x at *
  have hki:(k:Int)<(v.nodes.n:Int):=by omega
  have hk0:0<=(k:Int):=by omega
  have hd:decide ((k:Int)<0)=false:=by simp
  go_enter Tryz.func136,Tryz.ntmps136
  go_wp2_with (first|(refine zBYo (AaD s v) ?_;clear M;intro w' g M)|refine zLE M.o.at1 (HA.o) ?_|refine zRD (CL.of HC.o (AaK _) M.ok) ?_|((first|refine zALo (ztNo) ?_|refine zALo (Agw) ?_);clear M;intro w' g M)|(refine zSSo M 0 (noP x) (noP x) (AaK _) (AbX _) ?_;clear M;intro w' M))
  have Q1:=bx M.o.at2.cls
  have Q0:=bx M.o.at0.cls
  have EC:=bx (fun y:U=>clsE M.o fun w' ok=>E1.o _ y w' ok)
  refine zRG ?_
  repeat((go_big_quiet_want;first|(first|((first|refine zQL Q0.o (AaK _) ?_|refine zQL Q1.o (AaD _ _) ?_|refine zQC (AaJ (EC.o x.b.slot)) Tryz.func137 ?_|refine zQC (AaJ (EC.o s.now)) Tryz.func137 ?_);go_big_quiet_on;refine zNM ?_))|(refine zQO ?_;go_big_quiet_on)))
  (refine zQN ?_;clear M;intro w4 M)
  clear Q1 Q0 EC
  by_cases hlt:(s.ep x.b.slot).n<(s.ep s.now).n
  .have HV':=bx (HV.o.trans (if_pos hlt))
   have hlti:((s.ep x.b.slot).n:Int)<((s.ep s.now).n:Int):=by omega
   clear HV
   go_wp2_with (first|refine zLDo (M.o.at0) ?_|(refine zSSo M 1 (cpP x.b.pj) (cpP x.b.pj) (AaC _) (AaO _) ?_;clear M;intro w' M))
   rw[HS.o,HV'.o]
   exact zRb M.o.at1 ⟨rfl,M.o.ext⟩
  .have HV':=bx (HV.o.trans (if_neg hlt))
   have hlti:((s.ep s.now).n:Int)<=((s.ep x.b.slot).n:Int):=by omega
   clear HV
   go_wp2_with (first|refine zLDo (M.o.at0) ?_|(refine zSSo M 1 (cpP x.b.just) (cpP x.b.just) (AaC _) (AaO _) ?_;clear M;intro w' M))
   rw[HS.o,HV'.o]
   exact zRb M.o.at1 ⟨rfl,M.o.ext⟩
end
section
open Go.RowKit Old
structure StrT(Pg:Program)(t:TypeId)(places:List (Nat × Nat))(Z:List (List Value))(ls:List Nat):Prop where
 eq:∀ps,Pg.built t ps=Instr.fill (places.toArray[·]?) (fl Z).toArray ps
 len:Z.map List.length=ls
theorem Aa9{Pg:Program}{t:TypeId}{places:List (Nat × Nat)}{Z:List (List Value)}{ls:List Nat}{fs:Array Field}(hu:Pg.underlying t=some (.struct fs))(hp:fs.toList.mapM (fun f=>(Pg.info? f.type).map fun i=>(f.offset,i.size))=some places)
  (hz:(Pg.info? t).bind (fun i=>i.zero.map (·.cells))=some (fl Z).toArray) (hl:Z.map List.length=ls):StrT Pg t places Z ls:=by
 refine⟨fun ps=>?_,hl⟩
 cases hi:Pg.info? t with
 |none=>rw[hi]at hz;cases hz
 |some i=>
  rw[hi]at hz
  cases hzz:i.zero with
  |none=>simp[hzz]at hz
  |some z=>
   simp only[Option.bind_some,hzz,Option.map_some,Option.some.injEq]at hz
   simp only[Program.built,hi,hu,hzz,hp,hz]
theorem AaG{place:Nat->Option (Nat × Nat)}{P0 P1 Q:List (List Value)}{ls:List Nat}{i:Nat}{v:Value}{rest:List (Nat × Value)}{o n k j:Nat}{R:Option (Array Value)}(hl:P0.map List.length=ls)(hp:place i=some (o,n))(hf:findPart ls o n=some (k,j))
  (hv:v.cells=(fl Q).toArray) (hQ:Q.map List.length=(ls.drop k).take j) (hP:P0.take k++Q++P0.drop (k+j)=P1) (h:P1.map List.length=ls->Instr.fill place (fl P1).toArray rest=R):Instr.fill place (fl P0).toArray ((i,v)::rest)=R:=by
 subst hP
 obtain⟨pre,post,e,h1,h2,h3⟩:=Aab hl hf
 have hn:(fl Q).length=n:=by rw[AbE hQ,<-AbE (Abh (Ab7 hl k) j),h2]
 have hl2:(P0.take k++Q++P0.drop (k+j)).map List.length=ls:=by
  rw[List.map_append,List.map_append,hQ,Abh hl,Ab7 hl,List.append_assoc,<-List.drop_drop,List.take_append_drop,List.take_append_drop]
 rw[<-h hl2,e,h3 Q]
 have hfold:v.cells.zipIdx.foldl (fun cs (x:Value × Nat)=>cs.setIfInBounds (pre.length+x.2) x.1) (pre++fl ((P0.drop k).take j)++post).toArray=(pre++fl Q++post).toArray:=by
  have:=Ae9 pre.length (fl Q) (fl ((P0.drop k).take j)) pre post 0 (by rw[h2,hn]) (by omega)
  rw[hv,<-Array.foldl_toList,Array.toList_zipIdx]
  exact this
 rw[h1]at hfold
 rw[Instr.fill]
 simp only[hp]
 rw[if_neg (by rw[hv];simp;omega)]
 exact congrArg (fun c=>Instr.fill place c rest) hfold
def vo0:Vo:=⟨false,u0,r0⟩
theorem stVo:StrT Tryz.prog 172 [(0,1),(1,1),(2,32)] (voP vo0) [1,1,32]:=Aa9 Tryz.underlying172 (by kernel_rfl) (by kernel_rfl) (Ac2 _)
theorem AoY(ep:U)(r:Rt):Tryz.prog.built 172 [(0,.bool true),(1,.int .u64 (ep.n:Int)),(2,.agg (rc r).toArray)]=some (vox ⟨true,ep,r⟩).toArray:=by
 rw[stVo.eq]
 refine AaG (Q:=[[.bool true]]) stVo.len rfl rfl rfl rfl rfl fun hl=>?_
 refine AaG (Q:=[[.int .u64 (ep.n:Int)]]) hl rfl rfl rfl rfl rfl fun hl=>?_
 refine AaG (Q:=[rc r]) hl rfl rfl rfl (lenR r) rfl fun hl=>?_
 rfl
end
end Go.Proofs.YtpaihpeoiliioaaGreat
