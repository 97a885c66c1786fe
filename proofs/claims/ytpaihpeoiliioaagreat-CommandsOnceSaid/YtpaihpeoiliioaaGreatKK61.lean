/- Texts joined (KK61). -/
import Derived.Test.YtpaihpeoiliioaaGreatKK60
set_option linter.all false
set_option maxRecDepth 20000
set_option maxHeartbeats 40000000
namespace Go.Proofs.YtpaihpeoiliioaaGreat
open Go.RowKit Old
theorem AkM(n:Int):Fits [.int .i64 0] [.int .i64 n] /\ [Value.int .i64 0].length = [Value.int .i64 n].length:=⟨⟨rfl,trivial⟩,rfl⟩
theorem eqI(m:Nat)(hm:1<=m:=by decide):EqT Tryz.prog m 3 [.int .i64 0]:=(EqT.int Tryz.underlying3 (by kernel_rfl)).mono' hm
theorem eqU(m:Nat)(hm:1<=m:=by decide):EqT Tryz.prog m 23 [.int .u64 0]:=(EqT.int Tryz.underlying23 (by kernel_rfl)).mono' hm
theorem eqB(m:Nat)(hm:1<=m:=by decide):EqT Tryz.prog m 4 [.bool false]:=(EqT.bool Tryz.underlying4 (by kernel_rfl)).mono' hm
def ksVo:List (List Value):=[[.bool false],[.int .u64 0],kRt]
theorem eqVo:EqT Tryz.prog 3 172 (fl ksVo):=by
 refine EqT.struct Tryz.underlying172 (by kernel_rfl) (by kernel_rfl) (by kernel_rfl) ?_
 refine⟨[.bool false],fl (ksVo.drop 1),rfl,by decide,rfl,eqB 2,?_⟩
 refine⟨[.int .u64 0],fl (ksVo.drop 2),rfl,by decide,rfl,eqU 2,?_⟩
 exact⟨kRt,[],by simp[ksVo,fl],by decide,rfl,Adf,rfl⟩
theorem Ara(a:Vo):Fits (fl ksVo) (fl (voP a)):=FitsL.fl ⟨AkN _,AcC _,Abs _,trivial⟩
theorem ApG(a:Vo)(w:World):(Op.equalIn 10000 172 (.agg (fl (voP a)).toArray) (.agg (fl (voP a)).toArray)).run Tryz.prog w=.ok true w:=
 eqVo.same (by omega) (Aa0 Tryz.underlying172) (AaV Tryz.underlying172) (Ara a) (Ara a) (by rw[AcX];rfl) (by rw[AcX];rfl) (by simp) w
def ksRq:List (List Value):=[[.int .u64 0],kRt,[.int .i64 0],[.int .u64 0]]
theorem eqRq:EqT Tryz.prog 3 151 (fl ksRq):=by
 refine EqT.struct Tryz.underlying151 (by kernel_rfl) (by kernel_rfl) (by kernel_rfl) ?_
 refine⟨[.int .u64 0],fl (ksRq.drop 1),rfl,by decide,rfl,eqTg,?_⟩
 refine⟨kRt,fl (ksRq.drop 2),rfl,by decide,rfl,Adf,?_⟩
 refine⟨[.int .i64 0],fl (ksRq.drop 3),rfl,by decide,rfl,eqI 2,?_⟩
 exact⟨[.int .u64 0],[],by simp[ksRq,fl],by decide,rfl,eqU 2,rfl⟩
theorem Arb(a:Rq):Fits (fl ksRq) (fl (rqP a)):=FitsL.fl ⟨AcC _,Abs _,AkM _,AcC _,trivial⟩
theorem ApT(a:Rq)(w:World):(Op.equalIn 10000 151 (.agg (fl (rqP a)).toArray) (.agg (fl (rqP a)).toArray)).run Tryz.prog w=.ok true w:=
 eqRq.same (by omega) (Aa0 Tryz.underlying151) (AaV Tryz.underlying151) (Arb a) (Arb a) (by rw[AbC];rfl) (by rw[AbC];rfl) (by simp) w
theorem Apy(a:Cm)(w:World):(Op.equalIn 10000 52 (.agg (fl (cmP a)).toArray) (.agg (fl (cmP a)).toArray)).run Tryz.prog w=.ok true w:=by
 have:=AjZ a a w
 rwa [decide_eq_true rfl]at this
def ksNo:List (List Value):=ksBl ++ [[.int .i64 0],[.int .i64 0]]
theorem eqNo:EqT Tryz.prog 6 80 (fl ksNo):=by
 refine EqT.struct Tryz.underlying80 (by kernel_rfl) (by kernel_rfl) (by kernel_rfl) ?_
 refine⟨kBl,fl [[.int .i64 0],[.int .i64 0]],rfl,by decide,rfl,eqBl,?_⟩
 refine⟨[.int .i64 0],fl [[.int .i64 0]],rfl,by decide,rfl,eqI 5,?_⟩
 exact⟨[.int .i64 0],[],rfl,by decide,rfl,eqI 5,rfl⟩
theorem Amf(a:Nod):Fits (fl ksNo) (fl (noP a)):=
 FitsL.fl ⟨AcC _,Abs _,AcC _,Abs _,AcC _,Abs _,Abs _,Abs _,AkL _,AkL _,AcC _,Abs _,AcC _,Abs _,AkN _,AkM _,AkM _,trivial⟩
theorem Apf(a:Nod)(w:World):(Op.equalIn 10000 80 (.agg (fl (noP a)).toArray) (.agg (fl (noP a)).toArray)).run Tryz.prog w=.ok true w:=
 eqNo.same (by omega) (Aa0 Tryz.underlying80) (AaV Tryz.underlying80) (Amf a) (Amf a) (by rw[AbH];rfl) (by rw[AbH];rfl) (by simp) w
theorem AqU(Γ:Gam)(x y:Sl)(l:List Vo)(hb:l.length<=4096)(w:World)(ok:Ok Γ w)(hx:SlR Γ x l.length (l.flatMap vox))(hy:SlR Γ y l.length (l.flatMap vox)) :
  Calls Tryz.prog 84 #[x.v,y.v] w fun e w'=>e=.returned (.bool true)/\Ext Γ w Γ w':=by
 have M:=bx (MM.start ok)
 have HX:=bx hx
 have HY:=bx hy
 obtain⟨A,n,c⟩:=x
 obtain rfl:n=l.length:=hx.n
 obtain⟨A2,n2,c2⟩:=y
 obtain rfl:n2=l.length:=hy.n
 obtain⟨nn,hnn⟩:∃n,l.length=n:=⟨_,rfl⟩
 have HNN:=bx hnn
 simp only[hnn]
 rw[hnn]at hb
 clear ok hx hy hnn
 change Calls Tryz.prog _ #[.slice A nn c,.slice A2 nn c2] _ _
 have hnb:(nn:Int)<=4096:=by omega
 go_enter Tryz.func84,Tryz.ntmps84
 (go_wp2_with (first|go_skip|(refine zBXd ?_;clear M;intro w' g M)|fail|refine zLAd ?_))
 go_loopw [5] (fun i wr=>∃k:Nat,k<=nn/\i=.int .i64 (k:Int)/\MM Γ w Γ wr [] []) (fun i _=>nn-(intOf i).toNat)
 case atStart=>exact⟨0,Nat.zero_le _,rfl,M.o⟩
 case round=>
  obtain⟨k,hk,rfl,hM⟩:=hrel
  clear M
  have M:=bx hM
  clear hM
  by_cases hkn:k<nn
  .have hkl:k<l.length:=by rw[HNN.o];exact hkn
   obtain⟨gt,hA,hf⟩:=SlR.fz (f:=voP) (k:=34) HX.o Ac2 rfl k hkl
   obtain⟨gu,hA2,hf2⟩:=SlR.fz (f:=voP) (k:=34) HY.o Ac2 rfl k hkl
   obtain rfl:A=some ⟨gt,0,none⟩:=by injection hA
   obtain rfl:A2=some ⟨gu,0,none⟩:=by injection hA2
   have F1:=bx hf
   have F2:=bx hf2
   have hq:=ApG l[k]
   have hki:(k:Int)<(nn:Int):=by omega
   have hk0:0<=(k:Int):=by omega
   clear hf hf2 hA hA2
   generalize l[k]=y at *
   (go_wp2_with (first|go_skip|(refine zBXd ?_;clear M;intro w' g M)|fail|refine zLAd ?_))
   refine zRG ?_;(repeat(first|go_big_quiet_skip|(go_big_quiet_want;first|((first|refine zQFd F1 ?_|refine zQFd F2 ?_|refine zQAd ?_);go_big_quiet_on;refine zNM ?_)|(refine zQO ?_;go_big_quiet_on))));(refine zQN ?_;clear M;intro w4 M)
   (go_wp2_with (first|go_skip|(refine zBXd ?_;clear M;intro w' g M)|fail|refine zLAd ?_))
   go_roundw
   case rel=>exact⟨k+1,by omega,by go_num,M.o⟩
   case measure=>simp[intOf];omega
  .obtain rfl:k=nn:=by omega
   (go_wp2_with (first|go_skip|(refine zBXd ?_;clear M;intro w' g M)|fail|refine zLAd ?_))
   go_ret
   exact⟨rfl,M.o.ext⟩
theorem AqG(Γ:Gam)(x y:Sl)(l:List Rq)(hb:l.length<=4096)(w:World)(ok:Ok Γ w)(hx:SlR Γ x l.length (l.flatMap rqx))(hy:SlR Γ y l.length (l.flatMap rqx)) :
  Calls Tryz.prog 46 #[x.v,y.v] w fun e w'=>e=.returned (.bool true)/\Ext Γ w Γ w':=by
 have M:=bx (MM.start ok)
 have HX:=bx hx
 have HY:=bx hy
 obtain⟨A,n,c⟩:=x
 obtain rfl:n=l.length:=hx.n
 obtain⟨A2,n2,c2⟩:=y
 obtain rfl:n2=l.length:=hy.n
 obtain⟨nn,hnn⟩:∃n,l.length=n:=⟨_,rfl⟩
 have HNN:=bx hnn
 simp only[hnn]
 rw[hnn]at hb
 clear ok hx hy hnn
 change Calls Tryz.prog _ #[.slice A nn c,.slice A2 nn c2] _ _
 have hnb:(nn:Int)<=4096:=by omega
 go_enter Tryz.func46,Tryz.ntmps46
 (go_wp2_with (first|go_skip|(refine zBXd ?_;clear M;intro w' g M)|fail|refine zLAd ?_))
 go_loopw [5] (fun i wr=>∃k:Nat,k<=nn/\i=.int .i64 (k:Int)/\MM Γ w Γ wr [] []) (fun i _=>nn-(intOf i).toNat)
 case atStart=>exact⟨0,Nat.zero_le _,rfl,M.o⟩
 case round=>
  obtain⟨k,hk,rfl,hM⟩:=hrel
  clear M
  have M:=bx hM
  clear hM
  by_cases hkn:k<nn
  .have hkl:k<l.length:=by rw[HNN.o];exact hkn
   obtain⟨gt,hA,hf⟩:=SlR.fz (f:=rqP) (k:=35) HX.o AaY rfl k hkl
   obtain⟨gu,hA2,hf2⟩:=SlR.fz (f:=rqP) (k:=35) HY.o AaY rfl k hkl
   obtain rfl:A=some ⟨gt,0,none⟩:=by injection hA
   obtain rfl:A2=some ⟨gu,0,none⟩:=by injection hA2
   have F1:=bx hf
   have F2:=bx hf2
   have hq:=ApT l[k]
   have hki:(k:Int)<(nn:Int):=by omega
   have hk0:0<=(k:Int):=by omega
   clear hf hf2 hA hA2
   generalize l[k]=y at *
   (go_wp2_with (first|go_skip|(refine zBXd ?_;clear M;intro w' g M)|fail|refine zLAd ?_))
   refine zRG ?_;(repeat(first|go_big_quiet_skip|(go_big_quiet_want;first|((first|refine zQFd F1 ?_|refine zQFd F2 ?_|refine zQAd ?_);go_big_quiet_on;refine zNM ?_)|(refine zQO ?_;go_big_quiet_on))));(refine zQN ?_;clear M;intro w4 M)
   (go_wp2_with (first|go_skip|(refine zBXd ?_;clear M;intro w' g M)|fail|refine zLAd ?_))
   go_roundw
   case rel=>exact⟨k+1,by omega,by go_num,M.o⟩
   case measure=>simp[intOf];omega
  .obtain rfl:k=nn:=by omega
   (go_wp2_with (first|go_skip|(refine zBXd ?_;clear M;intro w' g M)|fail|refine zLAd ?_))
   go_ret
   exact⟨rfl,M.o.ext⟩
theorem AqH(Γ:Gam)(x y:Sl)(l:List Cm)(hb:l.length<=4096)(w:World)(ok:Ok Γ w)(hx:SlR Γ x l.length (l.flatMap cmx))(hy:SlR Γ y l.length (l.flatMap cmx)) :
  Calls Tryz.prog 22 #[x.v,y.v] w fun e w'=>e=.returned (.bool true)/\Ext Γ w Γ w':=by
 have M:=bx (MM.start ok)
 have HX:=bx hx
 have HY:=bx hy
 obtain⟨A,n,c⟩:=x
 obtain rfl:n=l.length:=hx.n
 obtain⟨A2,n2,c2⟩:=y
 obtain rfl:n2=l.length:=hy.n
 obtain⟨nn,hnn⟩:∃n,l.length=n:=⟨_,rfl⟩
 have HNN:=bx hnn
 simp only[hnn]
 rw[hnn]at hb
 clear ok hx hy hnn
 change Calls Tryz.prog _ #[.slice A nn c,.slice A2 nn c2] _ _
 have hnb:(nn:Int)<=4096:=by omega
 go_enter Tryz.func22,Tryz.ntmps22
 (go_wp2_with (first|go_skip|(refine zBXd ?_;clear M;intro w' g M)|fail|refine zLAd ?_))
 go_loopw [5] (fun i wr=>∃k:Nat,k<=nn/\i=.int .i64 (k:Int)/\MM Γ w Γ wr [] []) (fun i _=>nn-(intOf i).toNat)
 case atStart=>exact⟨0,Nat.zero_le _,rfl,M.o⟩
 case round=>
  obtain⟨k,hk,rfl,hM⟩:=hrel
  clear M
  have M:=bx hM
  clear hM
  by_cases hkn:k<nn
  .have hkl:k<l.length:=by rw[HNN.o];exact hkn
   obtain⟨gt,hA,hf⟩:=SlR.fz (f:=cmP) (k:=96) HX.o Aai rfl k hkl
   obtain⟨gu,hA2,hf2⟩:=SlR.fz (f:=cmP) (k:=96) HY.o Aai rfl k hkl
   obtain rfl:A=some ⟨gt,0,none⟩:=by injection hA
   obtain rfl:A2=some ⟨gu,0,none⟩:=by injection hA2
   have F1:=bx hf
   have F2:=bx hf2
   have hq:=Apy l[k]
   have hki:(k:Int)<(nn:Int):=by omega
   have hk0:0<=(k:Int):=by omega
   clear hf hf2 hA hA2
   generalize l[k]=y at *
   (go_wp2_with (first|go_skip|(refine zBXd ?_;clear M;intro w' g M)|fail|refine zLAd ?_))
   refine zRG ?_;(repeat(first|go_big_quiet_skip|(go_big_quiet_want;first|((first|refine zQFd F1 ?_|refine zQFd F2 ?_|refine zQAd ?_);go_big_quiet_on;refine zNM ?_)|(refine zQO ?_;go_big_quiet_on))));(refine zQN ?_;clear M;intro w4 M)
   (go_wp2_with (first|go_skip|(refine zBXd ?_;clear M;intro w' g M)|fail|refine zLAd ?_))
   go_roundw
   case rel=>exact⟨k+1,by omega,by go_num,M.o⟩
   case measure=>simp[intOf];omega
  .obtain rfl:k=nn:=by omega
   (go_wp2_with (first|go_skip|(refine zBXd ?_;clear M;intro w' g M)|fail|refine zLAd ?_))
   go_ret
   exact⟨rfl,M.o.ext⟩
theorem Aqa{Γ0 Γ:Gam}{w0 w:World}{g:Nat}{P:List (List Value)}{ls:List Nat}{L:List Ent}{R:List RowE}(_:MM Γ0 w0 Γ w (⟨g,P,ls⟩::L) R):∃y,y=g:=⟨g,rfl⟩
theorem AqV(Γ:Gam)(x y:Sl)(l:List Nod)(hb:l.length<=4096)(w:World)(ok:Ok Γ w)(hx:SlR Γ x l.length (l.flatMap nox))(hy:SlR Γ y l.length (l.flatMap nox)) :
  Calls Tryz.prog 85 #[.agg #[x.v],.agg #[y.v]] w fun e w'=>e=.returned (.bool true)/\Ext Γ w Γ w':=by
 have M:=bx (MM.start ok)
 have HX:=bx hx
 have HY:=bx hy
 obtain⟨A,n,c⟩:=x
 obtain rfl:n=l.length:=hx.n
 obtain⟨A2,n2,c2⟩:=y
 obtain rfl:n2=l.length:=hy.n
 obtain⟨nn,hnn⟩:∃n,l.length=n:=⟨_,rfl⟩
 have HNN:=bx hnn
 simp only[hnn]
 rw[hnn]at hb
 clear ok hx hy hnn
 change Calls Tryz.prog _ #[.agg (fl [[.slice A nn c]]).toArray,.agg (fl [[.slice A2 nn c2]]).toArray] _ _
 have hnb:(nn:Int)<=4096:=by omega
 go_enter Tryz.func85,Tryz.ntmps85
 go_upto_region 1 with(first|go_skip|(refine zBXd ?_;clear M;intro w' g M)|refine zLAd ?_)
 (obtain⟨g4,hg0⟩:=Aqa M.o);subst hg0;(obtain⟨g3,hg1⟩:=Aqa M.o.tail);subst hg1
 (go_wp2_with (first|go_skip|(refine zBXd ?_;clear M;intro w' g M)|fail|refine zLAd ?_))
 go_loopw [5] (fun i wr=>∃k:Nat,k<=nn/\i=.int .i64 (k:Int)/\MM Γ w Γ wr [⟨g4,[[.slice A2 nn c2]],[1]⟩,⟨g3,[[.slice A nn c]],[1]⟩] []) (fun i _=>nn-(intOf i).toNat)
 case atStart=>exact⟨0,Nat.zero_le _,rfl,M.o⟩
 case round=>
  obtain⟨k,hk,rfl,hM⟩:=hrel
  clear M
  have M:=bx hM
  clear hM
  by_cases hkn:k<nn
  .have hkl:k<l.length:=by rw[HNN.o];exact hkn
   obtain⟨gt,hA,hf⟩:=SlR.fz (f:=noP) (k:=240) HX.o AaK rfl k hkl
   obtain⟨gu,hA2,hf2⟩:=SlR.fz (f:=noP) (k:=240) HY.o AaK rfl k hkl
   obtain rfl:A=some ⟨gt,0,none⟩:=by injection hA
   obtain rfl:A2=some ⟨gu,0,none⟩:=by injection hA2
   have F1:=bx hf
   have F2:=bx hf2
   have hq:=Apf l[k]
   have hki:(k:Int)<(nn:Int):=by omega
   have hk0:0<=(k:Int):=by omega
   clear hf hf2 hA hA2
   generalize l[k]=y at *
   (go_wp2_with (first|go_skip|(refine zBXd ?_;clear M;intro w' g M)|fail|refine zLAd ?_))
   refine zRG ?_;(repeat(first|go_big_quiet_skip|(go_big_quiet_want;first|((first|refine zQFd F1 ?_|refine zQFd F2 ?_|refine zQAd ?_);go_big_quiet_on;refine zNM ?_)|(refine zQO ?_;go_big_quiet_on))));(refine zQN ?_;clear M;intro w4 M)
   (go_wp2_with (first|go_skip|(refine zBXd ?_;clear M;intro w' g M)|fail|refine zLAd ?_))
   go_roundw
   case rel=>exact⟨k+1,by omega,by go_num,M.o⟩
   case measure=>simp[intOf];omega
  .obtain rfl:k=nn:=by omega
   (go_wp2_with (first|go_skip|(refine zBXd ?_;clear M;intro w' g M)|fail|refine zLAd ?_))
   go_ret
   exact⟨rfl,M.o.ext⟩
theorem Arc(l:List Int):ints .i64 l=l.flatMap fun u=>[.int .i64 u]:=by
 induction l with
 |nil=>rfl
 |cons a t ih=>rw[List.flatMap_cons,<-ih];rfl
theorem ArZ{Γ:Gam}{A:Option Addr}{l:List Int}(h:SlG Γ A l.length (ints .i64 l))(i:Nat)(hi:i<l.length):∃g,A=some ⟨g,0,none⟩/\Chk Γ g i (fl [[.int .i64 l[i]]]):=by
 rw[Arc]at h
 obtain⟨g,h1,h2⟩:=h.at (k:=1) (fun x _=>rfl) rfl i hi
 exact⟨g,h1,by rw[Nat.mul_one]at h2;exact h2⟩
theorem Ak5(Γ:Gam)(A A':Option Addr)(c c':Nat)(l:List Int)(hl:l.length<=65535)(h:SlG Γ A l.length (ints .i64 l))(h':SlG Γ A' l.length (ints .i64 l))(w:World)(ok:Ok Γ w) :
  Calls Tryz.prog 40 #[.slice A l.length c,.slice A' l.length c'] w fun e w'=>e=.returned (.bool true)/\Ext Γ w Γ w':=by
 have M:=bx (MM.start ok)
 have H:=bx h
 have H':=bx h'
 clear ok h h'
 go_enter Tryz.func40,Tryz.ntmps40
 (go_wp2_with (first|go_skip|(refine zBXd ?_;clear M;intro w' g M)|fail|refine zLAd ?_))
 go_loopw [5] (fun i wr=>∃k:Nat,k<=l.length/\i=.int .i64 (k:Int)/\MM Γ w Γ wr [] []) (fun i _=>l.length-(intOf i).toNat)
 case atStart=>exact⟨0,Nat.zero_le _,rfl,M.o⟩
 case round=>
  obtain⟨k,hk,rfl,hM⟩:=hrel
  clear M
  have M:=bx hM
  clear hM
  by_cases hkn:k<l.length
  .obtain⟨g1,rfl,hc1⟩:=ArZ H.o k hkn
   obtain⟨g2,rfl,hc2⟩:=ArZ H'.o k hkn
   have F1:Bx (Fz Γ g1 k [[.int .i64 l[k]]] [1]):=⟨hc1,rfl⟩
   have F2:Bx (Fz Γ g2 k [[.int .i64 l[k]]] [1]):=⟨hc2,rfl⟩
   have hki:(k:Int)<(l.length:Int):=by omega
   have hk0:0<=(k:Int):=by omega
   clear hc1 hc2
   generalize l[k]=y at *
   (go_wp2_with (first|go_skip|(refine zBXd ?_;clear M;intro w' g M)|fail|refine zLAd ?_))
   refine zRG ?_;(repeat(first|go_big_quiet_skip|(go_big_quiet_want;first|((first|refine zQFd F1 ?_|refine zQFd F2 ?_|refine zQAd ?_);go_big_quiet_on;refine zNM ?_)|(refine zQO ?_;go_big_quiet_on))));(refine zQN ?_;clear M;intro w4 M)
   (go_wp2_with (first|go_skip|(refine zBXd ?_;clear M;intro w' g M)|fail|refine zLAd ?_))
   go_roundw
   case rel=>exact⟨k+1,by omega,by go_num,M.o⟩
   case measure=>simp[intOf];omega
  .obtain rfl:k=l.length:=by omega
   (go_wp2_with (first|go_skip|(refine zBXd ?_;clear M;intro w' g M)|fail|refine zLAd ?_))
   go_ret
   exact⟨rfl,M.o.ext⟩
theorem Ak3(Γ:Gam)(A A':Option Addr)(c c':Nat)(l:List U)(hl:l.length<=65535)(h:SlG Γ A l.length (us l))(h':SlG Γ A' l.length (us l))(w:World)(ok:Ok Γ w) :
  Calls Tryz.prog 83 #[.slice A l.length c,.slice A' l.length c'] w fun e w'=>e=.returned (.bool true)/\Ext Γ w Γ w':=by
 have h1:=(Aef h ok).row
 have h2:=(Aef h' ok).row
 refine(sameNumbers_any w.heap.size A A' l.length l.length c c' (ub l) (ub l) w (Nat.le_refl _) h1 h2 (by omega) (by omega)).mono ?_
 rintro e w' ⟨rfl,hb⟩
 exact⟨by simp,Ext.below ok hb⟩
theorem Amw(a:Cp)(w:World):(Op.equalIn 10000 37 (.agg (fl (cpP a)).toArray) (.agg (fl (cpP a)).toArray)).run Tryz.prog w=.ok true w:=by
 have:=Adg a a w
 rwa [decide_eq_true rfl]at this
theorem ApS(a:Rt)(w:World):(Op.equalIn 10000 29 (.agg (rc a).toArray) (.agg (rc a).toArray)).run Tryz.prog w=.ok true w:=by
 have:=Aa5 a a w
 rwa [decide_eq_true rfl]at this
theorem AqI(Γ:Gam)(a:Att)(x y:Sl)(hb:a.l.length<=4096)(w:World)(ok:Ok Γ w)(h:AtG Γ a x)(h':AtG Γ a y) :
  Calls Tryz.prog 87 #[.agg (fl (atP a x)).toArray,.agg (fl (atP a y)).toArray] w fun e w'=>e=.returned (.bool true)/\Ext Γ w Γ w':=by
 have M:=bx (MM.start ok)
 obtain⟨A,n,c⟩:=x
 obtain rfl:n=a.l.length:=h.n
 obtain⟨A2,n2,c2⟩:=y
 obtain rfl:n2=a.l.length:=h'.n
 have SI:=bx (fun w' ok'=>Ak5 Γ A A2 c c2 a.l (by omega) h.sl h'.sl w' ok')
 have hq:=ApS a.r
 have hp:=Amw a.t
 clear ok h h' hb
 go_enter Tryz.func87,Tryz.ntmps87
 (go_wp2_with (first|go_skip|(refine zBXd ?_;clear M;intro w' g M)|refine zLAd ?_))
 (refine(SI.o _ M.ok).mono ?_;rintro e1 w1 ⟨rfl,hx⟩;replace M:=bx (M.o.call hx);clear hx)
 (go_wp2_with (first|go_skip|(refine zBXd ?_;clear M;intro w' g M)|refine zLAd ?_))
 go_ret
 exact⟨rfl,M.o.ext⟩
theorem AqF(Γ:Gam)(t:Tbl)(s s':Value)(hb:t.b.length<=4096)(w:World)(ok:Ok Γ w)(h:TbG Γ (t.c,s) t)(h':TbG Γ (t.c,s') t) :
  Calls Tryz.prog 119 #[.agg (fl (tbP t.c s)).toArray,.agg (fl (tbP t.c s')).toArray] w fun e w'=>e=.returned (.bool true)/\Ext Γ w Γ w':=by
 have M:=bx (MM.start ok)
 obtain⟨A,c,hs,_,hsl⟩:=h.s
 obtain⟨A2,c2,hs',_,hsl'⟩:=h'.s
 simp only at hs hs'
 subst hs hs'
 have SN:=bx (fun w' ok'=>Ak3 Γ A A2 c c2 t.b (by omega) hsl hsl' w' ok')
 have hq:=Amw t.c
 clear ok h h' hb hsl hsl'
 go_enter Tryz.func119,Tryz.ntmps119
 (go_wp2_with (first|go_skip|(refine zBXd ?_;clear M;intro w' g M)|refine zLAd ?_))
 (refine(SN.o _ M.ok).mono ?_;rintro e1 w1 ⟨rfl,hx⟩;replace M:=bx (M.o.call hx);clear hx)
 (go_wp2_with (first|go_skip|(refine zBXd ?_;clear M;intro w' g M)|refine zLAd ?_))
 go_ret
 exact⟨rfl,M.o.ext⟩
theorem ApO(Γ:Gam)(x y:Sl)(T:List Tbl)(hb:T.length<=4096)(hl:∀t∈T,t.b.length<=4096)(w:World)(ok:Ok Γ w)(hx:TabsG Γ x T)(hy:TabsG Γ y T) :
  Calls Tryz.prog 86 #[x.v,y.v] w fun e w'=>e=.returned (.bool true)/\Ext Γ w Γ w':=by
 have M:=bx (MM.start ok)
 obtain⟨A,n,c⟩:=x
 obtain⟨A2,n2,c2⟩:=y
 have HT:Bx (TsG Γ A n T):=⟨hx.2⟩
 have HN:Bx (T.length=n):=⟨hx.2.1⟩
 obtain rfl:n2=n:=hy.2.1.symm.trans HN.o
 have HT2:Bx (TsG Γ A2 n2 T):=⟨hy.2⟩
 have HL:=bx hl
 have hnb:n2<=4096:=by rw[<-HN.o];exact hb
 clear ok hx hy hl hb
 change Calls Tryz.prog _ #[.slice A n2 c,.slice A2 n2 c2] _ _
 go_enter Tryz.func86,Tryz.ntmps86
 (go_wp2_with (first|go_skip|(refine zBXd ?_;clear M;intro w' g M)|fail|refine zLAd ?_))
 go_loopw [5] (fun i wr=>∃k:Nat,k<=n2/\i=.int .i64 (k:Int)/\MM Γ w Γ wr [] []) (fun i _=>n2-(intOf i).toNat)
 case atStart=>exact⟨0,Nat.zero_le _,rfl,M.o⟩
 case round=>
  obtain⟨k,hk,rfl,hM⟩:=hrel
  clear M
  have M:=bx hM
  clear hM
  by_cases hkn:k<n2
  .have hkl:k<T.length:=by rw[HN.o];exact hkn
   have hki:(k:Int)<(n2:Int):=by omega
   have hk0:0<=(k:Int):=by omega
   obtain⟨gt,s,hA,hg,hf⟩:=HT.o.at k hkn
   obtain⟨gu,s2,hA2,hg2,hf2⟩:=HT2.o.at k hkn
   subst hA hA2
   have F1:Bx (Fz Γ gt (k*34) (tbP T[k].c s) [1,32,1]):=⟨hf,AaS _ _⟩
   have F2:Bx (Fz Γ gu (k*34) (tbP T[k].c s2) [1,32,1]):=⟨hf2,AaS _ _⟩
   have ST:=bx (fun w ok=>AqF Γ T[k] s s2 (HL.o _ (List.getElem_mem hkl)) w ok hg hg2)
   clear hf hf2 hg hg2
   generalize T[k]=t at *
   have C0:=bx (clsE M.o fun w' ok'=>ST.o w' ok')
   (go_wp2_with (first|go_skip|(refine zBXd ?_;clear M;intro w' g M)|fail|refine zLAd ?_))
   refine zRG ?_;(repeat(first|go_big_quiet_skip|(go_big_quiet_want;first|((first|refine zQFd F1 ?_|refine zQFd F2 ?_|refine zQC (AaJ C0.o) Tryz.func119 ?_|refine zQAd ?_);go_big_quiet_on;refine zNM ?_)|(refine zQO ?_;go_big_quiet_on))));(refine zQN ?_;clear M;intro w4 M)
   (go_wp2_with (first|go_skip|(refine zBXd ?_;clear M;intro w' g M)|fail|refine zLAd ?_))
   go_roundw
   case rel=>exact⟨k+1,by omega,by go_num,M.o⟩
   case measure=>simp[intOf];omega
  .obtain rfl:k=n2:=by omega
   (go_wp2_with (first|go_skip|(refine zBXd ?_;clear M;intro w' g M)|fail|refine zLAd ?_))
   go_ret
   exact⟨rfl,M.o.ext⟩
def ksLim:List (List Value):=[[.int .i64 0],[.int .i64 0],[.int .i64 0],[.int .i64 0],[.int .i64 0],[.int .u64 0]]
theorem eqLim:EqT Tryz.prog 2 25 (fl ksLim):=by
 refine EqT.struct Tryz.underlying25 (by kernel_rfl) (by kernel_rfl) (by kernel_rfl) ?_
 refine⟨[.int .i64 0],fl (ksLim.drop 1),rfl,by decide,rfl,eqI 1,?_⟩
 refine⟨[.int .i64 0],fl (ksLim.drop 2),rfl,by decide,rfl,eqI 1,?_⟩
 refine⟨[.int .i64 0],fl (ksLim.drop 3),rfl,by decide,rfl,eqI 1,?_⟩
 refine⟨[.int .i64 0],fl (ksLim.drop 4),rfl,by decide,rfl,eqI 1,?_⟩
 refine⟨[.int .i64 0],fl (ksLim.drop 5),rfl,by decide,rfl,eqI 1,?_⟩
 exact⟨[.int .u64 0],[],rfl,by decide,rfl,eqU 1,rfl⟩
def lmP(c:Cf):List (List Value):=[[.int .i64 c.nl],[.int .i64 c.ol],[.int .i64 c.el],[.int .i64 c.tl],[.int .i64 c.rl],[.int .u64 (c.bo.n:Int)]]
theorem fits_lm(a:Cf):Fits (fl ksLim) (fl (lmP a)):=FitsL.fl ⟨AkM _,AkM _,AkM _,AkM _,AkM _,AcC _,trivial⟩
theorem lm_self(a:Cf)(w:World):(Op.equalIn 10000 25 (.agg (fl (lmP a)).toArray) (.agg (fl (lmP a)).toArray)).run Tryz.prog w=.ok true w:=
 eqLim.same (by omega) (Aa0 Tryz.underlying25) (AaV Tryz.underlying25) (fits_lm a) (fits_lm a) rfl rfl (by simp) w
theorem wd_self(a:Wd)(w:World):(Op.equalIn 10000 27 (.agg (wc a).toArray) (.agg (wc a).toArray)).run Tryz.prog w=.ok true w:=
 eqWd.same (by omega) (Adm Tryz.underlying27) (AaV Tryz.underlying27) (AkL a).1 (AkL a).1 (AkL a).2.symm (AkL a).2.symm (by simp) w
theorem eqFin:EqT Tryz.prog 4 39 (kCk++kCk):=by
 refine EqT.struct Tryz.underlying39 (by kernel_rfl) (by kernel_rfl) (by kernel_rfl) ?_
 refine⟨kCk,kCk,rfl,by decide,rfl,eqCk,?_⟩
 exact⟨kCk,[],by simp,by decide,rfl,eqCk,rfl⟩
theorem fn_len(a b:Cp):(fl (cpP a++cpP b)).length=(kCk++kCk).length:=by rw[Acz,List.length_append,Amx,Amx];rfl
theorem fits_fn(a b:Cp):Fits (kCk++kCk) (fl (cpP a++cpP b)):=by rw[Acz];exact Fits.app2 (Amg a) (by rw[Amx];rfl) (Amg b)
theorem fn_self(a b:Cp)(w:World):(Op.equalIn 10000 39 (.agg (fl (cpP a++cpP b)).toArray) (.agg (fl (cpP a++cpP b)).toArray)).run Tryz.prog w=.ok true w:=
 eqFin.same (by omega) (Aa0 Tryz.underlying39) (AaV Tryz.underlying39) (fits_fn a b) (fits_fn a b) (fn_len a b) (fn_len a b) (by simp) w
theorem bl_self(a:Blk)(w:World):(Op.equalIn 10000 78 (.agg (fl (blP a)).toArray) (.agg (fl (blP a)).toArray)).run Tryz.prog w=.ok true w:=by
 have:=Ap6 a a w
 rwa [decide_eq_true rfl]at this
theorem rtLm:RowT Tryz.prog 25 6:=⟨⟨_,Tryz.underlying25,rfl⟩,by kernel_rfl⟩
theorem rtFn:RowT Tryz.prog 39 66:=⟨⟨_,Tryz.underlying39,rfl⟩,by kernel_rfl⟩
theorem wpList_ldV{w:World}{Pg:Program}{ops:Array Oper}{rest:List Oper}{op:Oper}{a:Act}{Q:Exit->Act->World->Prop}{g:Nat}{P:List (List Value)}{ls:List Nat}(H:HL w g P ls)(V:List (List Value)){ty:TypeId}{x:Operand}{o n k j:Nat}(ho:op.op=.load ty x)(hgd:Region.wanted op (yielded ops a.tmps)=true)(hx:a.eval x=.pointer (some ⟨g,o,none⟩))(rt:RowT Pg ty n)
  (hf:findPart ls o n=some (k,j)) (hv:(P.drop k).take j=V) (h:wpList Pg ops Q rest (a.put op.dst (.agg (fl V).toArray)) w):wpList Pg ops Q (op::rest) a w:=Aaw H ho hgd hx rt hf (hv▸h)
theorem sameS_any(Γ:Gam)(s:Sto)(v v':Sls)(hz:SzK s)(w:World)(ok:Ok Γ w)(h:StG Γ v s)(h':StG Γ v' s) :
  Calls Tryz.prog 45 #[.agg (fl (stP s v)).toArray,.agg (fl (stP s v')).toArray] w fun e w'=>e=.returned (.bool true)/\Ext Γ w Γ w':=by
 have M:=bx (MM.start ok)
 have SB:Bx (∀w,Ok Γ w->Calls Tryz.prog 83 #[v.bal.v,v'.bal.v] w fun e w'=>e=.returned (.bool true)/\Ext Γ w Γ w'):=⟨fun w ok=>by
  show Calls _ _ #[.slice v.bal.A v.bal.n v.bal.c,.slice v'.bal.A v'.bal.n v'.bal.c] w _
  have h1:=h.bal.sl;have h2:=h'.bal.sl
  rw[h.bal.n]at h1 |-;rw[h'.bal.n]at h2 |-
  exact Ak3 Γ _ _ _ _ s.bal (by have:=hz.bal;omega) h1 h2 w ok⟩
 have SI:Bx (∀w,Ok Γ w->Calls Tryz.prog 40 #[v.eqv.v,v'.eqv.v] w fun e w'=>e=.returned (.bool true)/\Ext Γ w Γ w'):=⟨fun w ok=>by
  show Calls _ _ #[.slice v.eqv.A v.eqv.n v.eqv.c,.slice v'.eqv.A v'.eqv.n v'.eqv.c] w _
  have h1:=h.eqv.sl;have h2:=h'.eqv.sl
  rw[h.eqv.n]at h1 |-;rw[h'.eqv.n]at h2 |-
  exact Ak5 Γ _ _ _ _ s.eqv (by have:=hz.eqv;omega) h1 h2 w ok⟩
 have SV:=bx (fun w ok=>AqU Γ v.lat v'.lat s.lat hz.lat w ok h.lat h'.lat)
 have SN:=bx (fun w ok=>AqV Γ v.nodes v'.nodes s.nodes hz.nodes w ok h.nodes h'.nodes)
 have ST:=bx (fun w ok=>ApO Γ v.tabs v'.tabs s.tabs hz.tabs hz.tbs w ok h.tabs h'.tabs)
 obtain⟨X,hX,hg,hr⟩:=h.early
 obtain⟨X',hX',hg',hr'⟩:=h'.early
 have XL:X.length=s.early.length:=by rw[<-hX,List.length_map]
 have XL':X'.length=s.early.length:=by rw[<-hX',List.length_map]
 obtain⟨nE,hnE⟩:∃n,s.early.length=n:=⟨_,rfl⟩
 obtain⟨nO,hnO⟩:∃n,s.orph.length=n:=⟨_,rfl⟩
 have HE:Bx (v.early.v=.slice v.early.A nE v.early.c):=⟨by show Value.slice _ v.early.n _=_;rw[hr.n,hnE]⟩
 have HE':Bx (v'.early.v=.slice v'.early.A nE v'.early.c):=⟨by show Value.slice _ v'.early.n _=_;rw[hr'.n,hnE]⟩
 have HO:Bx (v.orph.v=.slice v.orph.A nO v.orph.c):=⟨by show Value.slice _ v.orph.n _=_;rw[h.orph.n,hnO]⟩
 have HO':Bx (v'.orph.v=.slice v'.orph.A nO v'.orph.c):=⟨by show Value.slice _ v'.orph.n _=_;rw[h'.orph.n,hnO]⟩
 rw[<-XL]at hr
 rw[<-XL']at hr'
 have FE:Bx (∀k:Nat,k<nE->∃(a:Att) (x y:Sl) (g g':Nat),v.early.v=.slice (some ⟨g,0,none⟩) nE v.early.c/\v'.early.v=.slice (some ⟨g',0,none⟩) nE v'.early.c/\Fz Γ g (k*67) (atP a x) [1,32,1,32,1]/\Fz Γ g' (k*67) (atP a y) [1,32,1,32,1]/\∀w,Ok Γ w->Calls Tryz.prog 87 #[.agg (fl (atP a x)).toArray,.agg (fl (atP a y)).toArray] w fun e w'=>e=.returned (.bool true)/\Ext Γ w Γ w'):=⟨fun k hk=>by
  have h1:k<X.length:=by omega
  have h2:k<X'.length:=by omega
  have h3:k<s.early.length:=by omega
  obtain⟨g,e1,f1⟩:=SlR.fz (f:=fun a:Att × Sl=>atP a.1 a.2) (k:=67) hr (fun a=>AbB a.1 a.2) rfl k h1
  obtain⟨g',e2,f2⟩:=SlR.fz (f:=fun a:Att × Sl=>atP a.1 a.2) (k:=67) hr' (fun a=>AbB a.1 a.2) rfl k h2
  have q1:X[k].1=s.early[k]:=by simp[<-hX]
  have q2:X'[k].1=s.early[k]:=by simp[<-hX']
  have n1:v.early.n=nE:=by rw[hr.n];omega
  have n2:v'.early.n=nE:=by rw[hr'.n];omega
  rw[n1]at e1
  rw[n2]at e2
  have g1:=hg _ (List.getElem_mem h1)
  have g2:=hg' _ (List.getElem_mem h2)
  rw[q1]at f1 g1
  rw[q2]at f2 g2
  exact⟨s.early[k],X[k].2,X'[k].2,g,g',e1,e2,f1,f2,fun w ok=>AqI Γ _ _ _ (hz.att _ (List.getElem_mem h3)) w ok g1 g2⟩⟩
 have FO:Bx (∀k:Nat,k<nO->∃(a:Blk) (g g':Nat),v.orph.v=.slice (some ⟨g,0,none⟩) nO v.orph.c/\v'.orph.v=.slice (some ⟨g',0,none⟩) nO v'.orph.c/\Fz Γ g (k*238) (blP a) blL/\Fz Γ g' (k*238) (blP a) blL):=⟨fun k hk=>by
  have h3:k<s.orph.length:=by omega
  obtain⟨g,e1,f1⟩:=SlR.fz (f:=blP) (k:=238) h.orph AaZ rfl k h3
  obtain⟨g',e2,f2⟩:=SlR.fz (f:=blP) (k:=238) h'.orph AaZ rfl k h3
  rw[h.orph.n,hnO]at e1
  rw[h'.orph.n,hnO]at e2
  exact⟨s.orph[k],g,g',e1,e2,f1,f2⟩⟩
 have hnb:nE<=4096:=by have:=hz.early;omega
 have hnc:nO<=4096:=by have:=hz.orph;omega
 clear ok h h' hz hX hX' hg hg' hr hr' XL XL' hnE hnO
 have hq1:=lm_self s.c
 have hq2:=wd_self s.c.ttd
 have hq3:=ApS s.c.gen
 have hq4:=fn_self s.just s.fin
 have hq5:=ApS s.boost
 go_enter Tryz.func45,Tryz.ntmps45
 go_upto_region 1 with(first|go_skip|(refine zBXd ?_;clear M;intro w' g M)|refine zLAd ?_)
 (obtain⟨g3,hg0⟩:=Aqa M.o);subst hg0;(obtain⟨g2,hg1⟩:=Aqa M.o.tail);subst hg1
 (go_wp2_with (first|go_skip|(refine zBXd ?_;clear M;intro w' g M)|fail|refine zLAd ?_))
 refine AaF (fun w'=>HL w' g2 (stP s v) stL/\HL w' g3 (stP s v') stL) (.steps [(1,0),(0,1),(1,2),(0,3)] (.fork 4 (.steps [(3,5),(3,6),(3,7)] .leaf) 5 (.steps [(3,4),(3,6),(3,7)] .leaf))) (by kernel_rfl) (by kernel_rfl) ⟨M.o.drew.at1,M.o.drew.at0⟩ ?_;(simp only[MixT7,MT.steps,stepI,List.getD_cons_zero,List.getD_cons_succ]);replace M:=bx (M.o.drew)
 refine zNM ?_
 (repeat(first|refine zM0 ?_|(go_big_quiet_want;first|((first|((with_reducible apply AaM (fun _ h=>h.1) (AaD _ _));rfl;rfl;exact zrts;rfl;rfl)|((with_reducible apply AaL (fun _ h=>h.1));rfl;rfl;exact zots;rfl;rfl)|((with_reducible apply AaI (fun _ h=>h.1) (AaD _ _));rfl;rfl;exact zrts;rfl;refine zCT ?_)|((with_reducible apply AaM (fun _ h=>h.2) (AaD _ _));rfl;rfl;exact zrts;rfl;rfl)|((with_reducible apply AaL (fun _ h=>h.2));rfl;rfl;exact zots;rfl;rfl)|((with_reducible apply AaI (fun _ h=>h.2) (AaD _ _));rfl;rfl;exact zrts;rfl;refine zCT ?_));go_big_quiet_on;refine zNM ?_)|(refine zQO ?_;go_big_quiet_on))))
 refine⟨?_,?_⟩
 focus
  (refine AaA (AaR rfl ztCf) rfl ?_;replace M:=bx (M.o.alloc (P:=cfP cf0 sl0) (ls:=cfL) (AbA _ _) rfl 32);(obtain⟨g5,hg0⟩:=Aqa M.o);rw[<-hg0]at M |-;clear hg0;refine zNM ?_)
  refine⟨⟨M.o.at2,M.o.at1⟩,?_⟩
  refine zMR7 ?_
  (refine AaA (AaR rfl ztCf) rfl ?_;replace M:=bx (M.o.alloc (P:=cfP cf0 sl0) (ls:=cfL) (AbA _ _) rfl 32);(obtain⟨g6,hg0⟩:=Aqa M.o);rw[<-hg0]at M |-;clear hg0;refine zNM ?_)
  refine⟨⟨M.o.at3,M.o.at2⟩,?_⟩
  refine zMR7 ?_
  refine zXS M 1 (cfP s.c v.bal) (cfP s.c v.bal) (AbA _ _) (Ad4 _ _) ?_;clear M;intro w7 M
  refine⟨⟨M.o.at3,M.o.at2⟩,?_⟩
  refine zMR7 ?_
  refine zXS M 0 (cfP s.c v'.bal) (cfP s.c v'.bal) (AbA _ _) (Ad4 _ _) ?_;clear M;intro w7 M
  refine⟨⟨M.o.at3,M.o.at2⟩,?_⟩
  refine zMR7 ?_
 rotate_left
 focus
  (refine AaA (AaR rfl ztCf) rfl ?_;replace M:=bx (M.o.alloc (P:=cfP cf0 sl0) (ls:=cfL) (AbA _ _) rfl 32);(obtain⟨g6,hg0⟩:=Aqa M.o);rw[<-hg0]at M |-;clear hg0;refine zNM ?_)
  refine⟨⟨M.o.at2,M.o.at1⟩,?_⟩
  refine zMR7 ?_
  (refine AaA (AaR rfl ztCf) rfl ?_;replace M:=bx (M.o.alloc (P:=cfP cf0 sl0) (ls:=cfL) (AbA _ _) rfl 32);(obtain⟨g5,hg0⟩:=Aqa M.o);rw[<-hg0]at M |-;clear hg0;refine zNM ?_)
  refine⟨⟨M.o.at3,M.o.at2⟩,?_⟩
  refine zMR7 ?_
  refine zXS M 0 (cfP s.c v.bal) (cfP s.c v.bal) (AbA _ _) (Ad4 _ _) ?_;clear M;intro w7 M
  refine⟨⟨M.o.at3,M.o.at2⟩,?_⟩
  refine zMR7 ?_
  refine zXS M 1 (cfP s.c v'.bal) (cfP s.c v'.bal) (AbA _ _) (Ad4 _ _) ?_;clear M;intro w7 M
  refine⟨⟨M.o.at3,M.o.at2⟩,?_⟩
  refine zMR7 ?_
  replace M:=bx M.o.swap
 all_goals
  refine NoPanic.normal ?_
  (go_wp2_with (first|go_skip|(refine zBXd ?_;clear M;intro w' g M)|refine zLHd HE ?_|refine zLHd HE' ?_|refine zLHd HO ?_|refine zLHd HO' ?_|((with_reducible apply wpList_ldV M.o.at0 (lmP s.c));rfl;rfl;rfl;exact rtLm;rfl;rfl)|((with_reducible apply wpList_ldV M.o.at1 (lmP s.c));rfl;rfl;rfl;exact rtLm;rfl;rfl)|((with_reducible apply wpList_ldV M.o.at2 (cpP s.just++cpP s.fin));rfl;rfl;rfl;exact rtFn;rfl;rfl)|((with_reducible apply wpList_ldV M.o.at3 (cpP s.just++cpP s.fin));rfl;rfl;rfl;exact rtFn;rfl;rfl)|refine zLAd ?_))
  refine zCA M (SB.o _ M.ok) ?_;clear M;intro w1 M
  go_upto_region 4 with(first|go_skip|refine zLAd ?_)
  simp only[List.append_eq,List.cons_append,List.nil_append]
  (go_wp2_with (first|go_skip|(refine zBXd ?_;clear M;intro w' g M)|refine zLHd HE ?_|refine zLHd HE' ?_|refine zLHd HO ?_|refine zLHd HO' ?_|((with_reducible apply wpList_ldV M.o.at0 (lmP s.c));rfl;rfl;rfl;exact rtLm;rfl;rfl)|((with_reducible apply wpList_ldV M.o.at1 (lmP s.c));rfl;rfl;rfl;exact rtLm;rfl;rfl)|((with_reducible apply wpList_ldV M.o.at2 (cpP s.just++cpP s.fin));rfl;rfl;rfl;exact rtFn;rfl;rfl)|((with_reducible apply wpList_ldV M.o.at3 (cpP s.just++cpP s.fin));rfl;rfl;rfl;exact rtFn;rfl;rfl)|refine zLAd ?_))
  refine zCA M (SV.o _ M.ok) ?_;clear M;intro w1 M
  (go_wp2_with (first|go_skip|(refine zBXd ?_;clear M;intro w' g M)|refine zLHd HE ?_|refine zLHd HE' ?_|refine zLHd HO ?_|refine zLHd HO' ?_|((with_reducible apply wpList_ldV M.o.at0 (lmP s.c));rfl;rfl;rfl;exact rtLm;rfl;rfl)|((with_reducible apply wpList_ldV M.o.at1 (lmP s.c));rfl;rfl;rfl;exact rtLm;rfl;rfl)|((with_reducible apply wpList_ldV M.o.at2 (cpP s.just++cpP s.fin));rfl;rfl;rfl;exact rtFn;rfl;rfl)|((with_reducible apply wpList_ldV M.o.at3 (cpP s.just++cpP s.fin));rfl;rfl;rfl;exact rtFn;rfl;rfl)|refine zLAd ?_))
  refine zCA M (SI.o _ M.ok) ?_;clear M;intro w1 M
  (go_wp2_with (first|go_skip|(refine zBXd ?_;clear M;intro w' g M)|refine zLHd HE ?_|refine zLHd HE' ?_|refine zLHd HO ?_|refine zLHd HO' ?_|((with_reducible apply wpList_ldV M.o.at0 (lmP s.c));rfl;rfl;rfl;exact rtLm;rfl;rfl)|((with_reducible apply wpList_ldV M.o.at1 (lmP s.c));rfl;rfl;rfl;exact rtLm;rfl;rfl)|((with_reducible apply wpList_ldV M.o.at2 (cpP s.just++cpP s.fin));rfl;rfl;rfl;exact rtFn;rfl;rfl)|((with_reducible apply wpList_ldV M.o.at3 (cpP s.just++cpP s.fin));rfl;rfl;rfl;exact rtFn;rfl;rfl)|refine zLAd ?_))
  refine zCA M (SN.o _ M.ok) ?_;clear M;intro w1 M
  (go_wp2_with (first|go_skip|(refine zBXd ?_;clear M;intro w' g M)|refine zLHd HE ?_|refine zLHd HE' ?_|refine zLHd HO ?_|refine zLHd HO' ?_|((with_reducible apply wpList_ldV M.o.at0 (lmP s.c));rfl;rfl;rfl;exact rtLm;rfl;rfl)|((with_reducible apply wpList_ldV M.o.at1 (lmP s.c));rfl;rfl;rfl;exact rtLm;rfl;rfl)|((with_reducible apply wpList_ldV M.o.at2 (cpP s.just++cpP s.fin));rfl;rfl;rfl;exact rtFn;rfl;rfl)|((with_reducible apply wpList_ldV M.o.at3 (cpP s.just++cpP s.fin));rfl;rfl;rfl;exact rtFn;rfl;rfl)|refine zLAd ?_))
  refine zCA M (ST.o _ M.ok) ?_;clear M;intro w1 M
  (go_wp2_with (first|go_skip|(refine zBXd ?_;clear M;intro w' g M)|refine zLHd HE ?_|refine zLHd HE' ?_|refine zLHd HO ?_|refine zLHd HO' ?_|((with_reducible apply wpList_ldV M.o.at0 (lmP s.c));rfl;rfl;rfl;exact rtLm;rfl;rfl)|((with_reducible apply wpList_ldV M.o.at1 (lmP s.c));rfl;rfl;rfl;exact rtLm;rfl;rfl)|((with_reducible apply wpList_ldV M.o.at2 (cpP s.just++cpP s.fin));rfl;rfl;rfl;exact rtFn;rfl;rfl)|((with_reducible apply wpList_ldV M.o.at3 (cpP s.just++cpP s.fin));rfl;rfl;rfl;exact rtFn;rfl;rfl)|refine zLAd ?_))
  go_loopw [7] (fun i wr=>∃k:Nat,k<=nE/\i=.int .i64 (k:Int)/\MM Γ w Γ wr [⟨g6,cfP s.c v'.bal,cfL⟩,⟨g5,cfP s.c v.bal,cfL⟩,⟨g3,stP s v',stL⟩,⟨g2,stP s v,stL⟩] []) (fun i _=>nE-(intOf i).toNat)
  case atStart=>exact⟨0,Nat.zero_le _,rfl,M.o⟩
  case round=>
   obtain⟨k,hk,rfl,hM⟩:=hrel
   clear M
   have M:=bx hM
   clear hM
   by_cases hkn:k<nE
   .obtain⟨a,x,y,g,g',e1,e2,f1,f2,hc⟩:=FE.o k hkn
    have HA:=bx e1
    have HA':=bx e2
    have F1:=bx f1
    have F2:=bx f2
    have hki:(k:Int)<(nE:Int):=by omega
    have hk0:0<=(k:Int):=by omega
    have C0:=bx (clsE M.o fun w' ok'=>hc w' ok')
    clear e1 e2 f1 f2 hc
    (go_wp2_with (first|go_skip|(refine zBXd ?_;clear M;intro w' g M)|refine zLHd HE ?_|refine zLHd HE' ?_|refine zLHd HO ?_|refine zLHd HO' ?_|((with_reducible apply wpList_ldV M.o.at0 (lmP s.c));rfl;rfl;rfl;exact rtLm;rfl;rfl)|((with_reducible apply wpList_ldV M.o.at1 (lmP s.c));rfl;rfl;rfl;exact rtLm;rfl;rfl)|((with_reducible apply wpList_ldV M.o.at2 (cpP s.just++cpP s.fin));rfl;rfl;rfl;exact rtFn;rfl;rfl)|((with_reducible apply wpList_ldV M.o.at3 (cpP s.just++cpP s.fin));rfl;rfl;rfl;exact rtFn;rfl;rfl)|refine zLAd ?_))
    refine zRG ?_;(repeat(first|go_big_quiet_skip|(go_big_quiet_want;first|((first|refine zQHd HA ?_|refine zQHd HA' ?_|refine zQFd F1 ?_|refine zQFd F2 ?_|refine zQC (AaJ C0.o) Tryz.func87 ?_|refine zQAd ?_);go_big_quiet_on;refine zNM ?_)|(refine zQO ?_;go_big_quiet_on))));(refine zQN ?_;clear M;intro w4 M)
    (go_wp2_with (first|go_skip|(refine zBXd ?_;clear M;intro w' g M)|refine zLHd HE ?_|refine zLHd HE' ?_|refine zLHd HO ?_|refine zLHd HO' ?_|((with_reducible apply wpList_ldV M.o.at0 (lmP s.c));rfl;rfl;rfl;exact rtLm;rfl;rfl)|((with_reducible apply wpList_ldV M.o.at1 (lmP s.c));rfl;rfl;rfl;exact rtLm;rfl;rfl)|((with_reducible apply wpList_ldV M.o.at2 (cpP s.just++cpP s.fin));rfl;rfl;rfl;exact rtFn;rfl;rfl)|((with_reducible apply wpList_ldV M.o.at3 (cpP s.just++cpP s.fin));rfl;rfl;rfl;exact rtFn;rfl;rfl)|refine zLAd ?_))
    go_roundw
    case rel=>exact⟨k+1,by omega,by go_num,M.o⟩
    case measure=>simp[intOf];omega
   .obtain rfl:k=nE:=by omega
    (go_wp2_with (first|go_skip|(refine zBXd ?_;clear M;intro w' g M)|refine zLHd HE ?_|refine zLHd HE' ?_|refine zLHd HO ?_|refine zLHd HO' ?_|((with_reducible apply wpList_ldV M.o.at0 (lmP s.c));rfl;rfl;rfl;exact rtLm;rfl;rfl)|((with_reducible apply wpList_ldV M.o.at1 (lmP s.c));rfl;rfl;rfl;exact rtLm;rfl;rfl)|((with_reducible apply wpList_ldV M.o.at2 (cpP s.just++cpP s.fin));rfl;rfl;rfl;exact rtFn;rfl;rfl)|((with_reducible apply wpList_ldV M.o.at3 (cpP s.just++cpP s.fin));rfl;rfl;rfl;exact rtFn;rfl;rfl)|refine zLAd ?_))
    go_loopw [8] (fun i wr=>∃k:Nat,k<=nO/\i=.int .i64 (k:Int)/\MM Γ w Γ wr [⟨g6,cfP s.c v'.bal,cfL⟩,⟨g5,cfP s.c v.bal,cfL⟩,⟨g3,stP s v',stL⟩,⟨g2,stP s v,stL⟩] []) (fun i _=>nO-(intOf i).toNat)
    case atStart=>exact⟨0,Nat.zero_le _,rfl,M.o⟩
    case round=>
     obtain⟨k,hk,rfl,hM⟩:=hrel
     clear M
     have M:=bx hM
     clear hM
     by_cases hkn:k<nO
     .obtain⟨a,g,g',e1,e2,f1,f2⟩:=FO.o k hkn
      have HA:=bx e1
      have HA':=bx e2
      have F1:=bx f1
      have F2:=bx f2
      have hki:(k:Int)<(nO:Int):=by omega
      have hk0:0<=(k:Int):=by omega
      have hq6:=bl_self a
      clear e1 e2 f1 f2
      (go_wp2_with (first|go_skip|(refine zBXd ?_;clear M;intro w' g M)|refine zLHd HE ?_|refine zLHd HE' ?_|refine zLHd HO ?_|refine zLHd HO' ?_|((with_reducible apply wpList_ldV M.o.at0 (lmP s.c));rfl;rfl;rfl;exact rtLm;rfl;rfl)|((with_reducible apply wpList_ldV M.o.at1 (lmP s.c));rfl;rfl;rfl;exact rtLm;rfl;rfl)|((with_reducible apply wpList_ldV M.o.at2 (cpP s.just++cpP s.fin));rfl;rfl;rfl;exact rtFn;rfl;rfl)|((with_reducible apply wpList_ldV M.o.at3 (cpP s.just++cpP s.fin));rfl;rfl;rfl;exact rtFn;rfl;rfl)|refine zLAd ?_))
      refine zRG ?_;(repeat(first|go_big_quiet_skip|(go_big_quiet_want;first|((first|refine zQHd HA ?_|refine zQHd HA' ?_|refine zQFd F1 ?_|refine zQFd F2 ?_|refine zQAd ?_);go_big_quiet_on;refine zNM ?_)|(refine zQO ?_;go_big_quiet_on))));(refine zQN ?_;clear M;intro w4 M)
      (go_wp2_with (first|go_skip|(refine zBXd ?_;clear M;intro w' g M)|refine zLHd HE ?_|refine zLHd HE' ?_|refine zLHd HO ?_|refine zLHd HO' ?_|((with_reducible apply wpList_ldV M.o.at0 (lmP s.c));rfl;rfl;rfl;exact rtLm;rfl;rfl)|((with_reducible apply wpList_ldV M.o.at1 (lmP s.c));rfl;rfl;rfl;exact rtLm;rfl;rfl)|((with_reducible apply wpList_ldV M.o.at2 (cpP s.just++cpP s.fin));rfl;rfl;rfl;exact rtFn;rfl;rfl)|((with_reducible apply wpList_ldV M.o.at3 (cpP s.just++cpP s.fin));rfl;rfl;rfl;exact rtFn;rfl;rfl)|refine zLAd ?_))
      go_roundw
      case rel=>exact⟨k+1,by omega,by go_num,M.o⟩
      case measure=>simp[intOf];omega
     .obtain rfl:k=nO:=by omega
      (go_wp2_with (first|go_skip|(refine zBXd ?_;clear M;intro w' g M)|refine zLHd HE ?_|refine zLHd HE' ?_|refine zLHd HO ?_|refine zLHd HO' ?_|((with_reducible apply wpList_ldV M.o.at0 (lmP s.c));rfl;rfl;rfl;exact rtLm;rfl;rfl)|((with_reducible apply wpList_ldV M.o.at1 (lmP s.c));rfl;rfl;rfl;exact rtLm;rfl;rfl)|((with_reducible apply wpList_ldV M.o.at2 (cpP s.just++cpP s.fin));rfl;rfl;rfl;exact rtFn;rfl;rfl)|((with_reducible apply wpList_ldV M.o.at3 (cpP s.just++cpP s.fin));rfl;rfl;rfl;exact rtFn;rfl;rfl)|refine zLAd ?_))
      go_ret
      exact⟨rfl,M.o.ext⟩
theorem sameZs_any(Γ:Gam)(z:Zst)(x y:Zls)(hz:SzK z.s)(h1:z.reqs.length<=4096)(h2:z.rets.length<=4096)(w:World)(ok:Ok Γ w)(h:ZsG Γ x z)(h':ZsG Γ y z) :
  Calls Tryz.prog 21 #[.agg (fl (zsP z x)).toArray,.agg (fl (zsP z y)).toArray] w fun e w'=>e=.returned (.bool true)/\Ext Γ w Γ w':=by
 have M:=bx (MM.start ok)
 have S1:=bx (fun w ok=>sameS_any Γ z.s x.s y.s hz w ok h.s h'.s)
 have S2:=bx (fun w ok=>AqG Γ x.reqs y.reqs z.reqs h1 w ok h.reqs h'.reqs)
 have S3:=bx (fun w ok=>AqG Γ x.rets y.rets z.rets h2 w ok h.rets h'.rets)
 have hq:=Apy z.last
 clear ok h h' hz h1 h2
 go_enter Tryz.func21,Tryz.ntmps21
 go_upto_region 1 with(first|go_skip|(refine zBXd ?_;clear M;intro w' g M)|refine zLAd ?_)
 try simp only[List.append_eq,List.cons_append,List.nil_append]
 (go_wp2_with (first|go_skip|(refine zBXd ?_;clear M;intro w' g M)|fail|refine zLAd ?_))
 refine zCA M (S1.o _ M.ok) ?_;clear M;intro w1 M
 (go_wp2_with (first|go_skip|(refine zBXd ?_;clear M;intro w' g M)|fail|refine zLAd ?_))
 refine zCA M (S2.o _ M.ok) ?_;clear M;intro w1 M
 (go_wp2_with (first|go_skip|(refine zBXd ?_;clear M;intro w' g M)|fail|refine zLAd ?_))
 refine zCA M (S3.o _ M.ok) ?_;clear M;intro w1 M
 (go_wp2_with (first|go_skip|(refine zBXd ?_;clear M;intro w' g M)|fail|refine zLAd ?_))
 go_ret
 exact⟨rfl,M.o.ext⟩
end Go.Proofs.YtpaihpeoiliioaaGreat
