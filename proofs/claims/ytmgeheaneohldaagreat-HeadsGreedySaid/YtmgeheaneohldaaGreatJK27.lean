/- Texts joined: what the walks of this claim stand on (part 27). -/
import Derived.Test.YtmgeheaneohldaaGreatJK25
import Derived.Test.YtmgeheaneohldaaGreatJK26
set_option linter.all false
set_option maxRecDepth 20000
set_option maxHeartbeats 40000000
namespace Go.Proofs.YtmgeheaneohldaaGreat
open Go.RowKit Old
section
variable {N:List Nod}{W:List U}{L:List Bool}
theorem AiD{i:Int}(h:bestI N W L i<0):∀x∈kids N i,L.getD x false=false:=by
 rcases AdK (N:=N) (W:=W) (L:=L) i with⟨_,h1⟩|⟨k',h1,_⟩
 .exact h1
 .omega
theorem Stp.inv{j i:Int}(h:Stp N W L j i):i=j\/∃u,Stp N W L j u/\bestI N W L u=i/\0<=i:=by
 obtain⟨f,h⟩:=h
 induction f generalizing i with
 |zero=>exact .inl h.symm
 |succ f ih=>
  rw[AcB]at h
  split at h
  .exact ih h
  .rename_i hn
   exact .inr ⟨_,⟨f,rfl⟩,h,by omega⟩
end
open Go.RowKit Old
section
variable {us:List Int}{d:Nat->Int}{n u:Nat}
def kidM(us:List Int)(i k:Nat):List Nat:=(List.range k).filter fun j=>decide (us.getD j 0=(i:Int))
theorem Aof{us:List Int}{i k:Nat}(h:us.getD k 0=(i:Int)):kidM us i (k+1)=kidM us i k ++ [k]:=by
 simp[kidM,List.range_succ,List.filter_append,<-List.getD_eq_getElem?_getD,h]
theorem Amw{us:List Int}{i k:Nat}(h:us.getD k 0≠(i:Int)):kidM us i (k+1)=kidM us i k:=by
 have h':¬us[k]?.getD 0=(i:Int):=by rwa [<-List.getD_eq_getElem?_getD]
 simp[kidM,List.range_succ,List.filter_append,h']
def sumM(W:Nat->Int):List Nat->Int
 |[]=>0
 |x::l=>W x+sumM W l
theorem AiW(W:Nat->Int)(l:List Nat)(x:Nat):sumM W (l ++ [x])=sumM W l+W x:=by
 induction l with
 |nil=>simp[sumM]
 |cons y l ih=>simp only[List.cons_append,sumM,ih];omega
theorem Afz{W:Nat->Int}{l:List Nat}(h:∀x∈l,0<=W x):0<=sumM W l:=by
 induction l with
 |nil=>exact Int.le_refl _
 |cons y l ih=>have:=ih fun x hx=>h x (by simp[hx]);have:=h y (by simp);simp only[sumM];omega
theorem AoD{W:Nat->Int}{l:List Nat}(h:∀x∈l,0<=W x){x:Nat}(hx:x∈l):W x<=sumM W l:=by
 induction l with
 |nil=>cases hx
 |cons y l ih=>
  have h1:=Afz (W:=W) (l:=l) fun x hx=>h x (by simp[hx])
  have h2:=h y (by simp)
  simp only[sumM]
  rcases List.mem_cons.1 hx with rfl|hx
  .omega
  .have:=ih (fun x hx=>h x (by simp[hx])) hx;omega
theorem AmJ{W:Nat->Int}{l:List Nat}(h:∀x∈l,0<=W x)(k:Nat):sumM W (l.take k)<=sumM W l:=by
 induction l generalizing k with
 |nil=>simp
 |cons y l ih=>
  cases k with
  |zero=>exact Afz h
  |succ k=>have:=ih (fun x hx=>h x (by simp[hx])) k;simp only[List.take_succ_cons,sumM];omega
theorem Ai6(h:Lk us)(hu:u<us.length):∀k,k<=u+1->kidM us u k = []
 |0,_=>rfl
 |k+1,hk=>by
  rw[Amw,Ai6 h hu k (by omega)]
  intro e
  rcases h k (by omega)with⟨_,e2⟩|⟨v,hv,e2⟩
  .rw[e2]at e;omega
  .rw[e2]at e;have:v=u:=by omega
   omega
theorem AiS(h:Lk us)(hn:n=us.length)(hu:u<n):∀m i,i+m=n->u<i->own us i d u n+sumM (fun j=>tot us d j n) (kidM us u i)=d u+sumM (fun j=>tot us d j n) (kidM us u n)
 |0,i,he,hi=>by
  have:i=n:=by omega
  subst this
  rw[Ajv d u i i (Nat.le_refl _),if_pos hu]
 |m+1,i,he,hi=>by
  have ih:=AiS h hn hu m (i+1) (by omega) (by omega)
  have st:=Aho h d (show 0<i by omega) (by omega) hi n (by omega)
  rw[<-ih,st]
  by_cases hk:us.getD i 0=(u:Int)
  .rw[if_pos hk,Aof hk,AiW]
   show _+own us (i+1) d i n+_=_+(_+own us (i+1) d i n)
   omega
  .rw[if_neg hk,Amw hk];omega
theorem totM(h:Lk us)(hn:n=us.length)(hu:u<n):tot us d u n=d u+sumM (fun j=>tot us d j n) (kidM us u n):=by
 have:=AiS (d:=d) h hn hu (n-(u+1)) (u+1) (by omega) (by omega)
 rw[Ai6 h (by omega) (u+1) (Nat.le_refl _)]at this
 simpa [sumM,tot]using this
def sumD(d:Nat->Int):Nat->Int
 |0=>0
 |n+1=>sumD d n+d n
theorem AmH(h:Lk us):∀n,n<=us.length->tot us d 0 n=sumD d n
 |0,_=>rfl
 |n+1,hn=>by
  have ih:=AmH h n (by omega)
  have hh:=ApZ h (show 0<1 by omega) n n (by omega) (Nat.le_refl _)
  unfold tot at ih |-
  rw[own,ih,sumD,if_pos (by have:hat us (0+1) n n<1:=hh.1;omega)]
theorem Ama{k i:Nat}:∀n,(∀j,j<n->0<=d j)->own us k d i n<=sumD d n
 |0,_=>Int.le_refl _
 |n+1,h=>by
  have:=Ama (k:=k) (i:=i) n (fun j hj=>h j (by omega))
  have:=h n (by omega)
  rw[own,sumD];split<;>omega
end
theorem AhZ{l:List Int}{i:Nat}{v:Int}(hi:i<l.length):∀n,sumD (nat0 (l.set i v)) n=sumD (nat0 l) n+if i<n then v-nat0 l i else 0
 |0=>by simp[sumD]
 |n+1=>by
  rw[sumD,sumD,AhZ hi n]
  have e:nat0 (l.set i v) n=if i=n then v else nat0 l n:=by
   unfold nat0
   by_cases h:i=n
   .subst h;simp[List.getD,hi]
   .simp[List.getD,List.getElem?_set,h]
  rw[e]
  by_cases h:i=n
  .subst h;rw[if_pos rfl,if_neg (by omega),if_pos (by omega)];omega
  .rw[if_neg h]
   by_cases h2:i<n
   .rw[if_pos h2,if_pos (by omega)];omega
   .rw[if_neg h2,if_neg (by omega)];omega
theorem AiX(m:Nat):∀n,sumD (nat0 (List.replicate m 0)) n=0
 |0=>rfl
 |n+1=>by
  rw[sumD,AiX m n]
  unfold nat0
  by_cases h:n<m
  .rw[getD_at (by simpa using h)];simp
  .rw[List.getD,List.getElem?_eq_none (by simpa using h)];rfl
theorem AhH{ns:List Nd}{vs:List Vt}{G bs:List Int}(wf:Wf ns)(hs:SmT bs):∀m,m<=bs.length->sumD (nat0 (dirL ns vs G bs m)) ns.length<=(bs.take m).sum
 |0,_=>by rw[AgR,AiX];simp
 |m+1,hm=>by
  have ih:=AhH (vs:=vs) (G:=G) wf hs m (by omega)
  have hb:=hs.at (show m<bs.length by omega)
  have e:(bs.take (m+1)).sum=(bs.take m).sum+bs.getD m 0:=by rw[List.take_succ_eq_append_getElem (by omega),List.sum_append_int,getD_at (by omega)];simp
  rw[e]
  by_cases hg:(m:Int)∈G
  .rw[Ak3 (AeA hg)];omega
  .cases hh:(vs.getD m zv).1 with
   |false=>rw[Ak3 (AkE hh)];omega
   |true=>
    cases hx:ix ns ns.length (vs.getD m zv).2.2 with
    |none=>rw[Ak2 hh hg hx];omega
    |some i=>
     obtain⟨hil,_⟩:=Ahx _ (Nat.le_refl _) hx
     rw[AnQ wf hh hg hx,AhZ (by rw[Abm];exact hil),if_pos hil]
     unfold nat0 at ih |-
     omega
theorem Aev{s:Sto}(h:SmT (ub s.balj))(j:Nat):0<=nat0 s.db j:=by
 have h1:=Aj0 (by decide) (AqL h) j
 rcases Afj h with e|⟨i,hi,_,e⟩
 .rw[e];exact h1.1
 .rw[e]
  have a1:=AkL h
  have a2:=Aj0 (by decide) (AqL h) i
  unfold nat0 at h1 a2 |-
  by_cases hij:i=j
  .subst hij;rw[List.getD,List.getElem?_set_self (by rw[Ak1];exact hi),Option.getD_some];omega
  .rw[List.getD,List.getElem?_set_ne hij];exact h1.1
theorem ArG{s:Sto}(t:TI s.nodes)(h:SmT (ub s.balj)):sumD (nat0 s.dl) s.nodes.length<=(ub s.balj).sum:=by
 have:=AhH (vs:=s.lat.map toVt) (G:=s.eqv) t.wf h s.balj.length (by rw[Afy];exact Nat.le_refl _)
 rw[List.length_map]at this
 rw[List.take_of_length_le (by rw[Afy];exact Nat.le_refl _)]at this
 exact this
theorem ArH{s:Sto}(t:TI s.nodes)(h:SmT (ub s.balj)):sumD (nat0 s.db) s.nodes.length<=(ub s.balj).sum+s.am:=by
 have h1:=ArG t h
 have h2:=AkL h
 rcases Afj h with e|⟨i,hi,_,e⟩
 .rw[e];omega
 .rw[e,AhZ (by rw[Ak1];exact hi),if_pos hi]
  unfold nat0 at h1 |-
  omega
def Sto.wt(s:Sto)(i:Nat):Int:=tot (upsN s.nodes) (nat0 s.db) i s.nodes.length
theorem AlM{s:Sto}(t:TI s.nodes)(h:SmT (ub s.balj))(i:Nat):0<=s.wt i/\s.wt i<=(ub s.balj).sum+s.am:=by
 have h1:=AfA (us:=upsN s.nodes) (k:=i+1) (i:=i) (d:=nat0 s.db) s.nodes.length (fun j _=>Aev h j)
 have h2:=Ama (us:=upsN s.nodes) (k:=i+1) (i:=i) (d:=nat0 s.db) s.nodes.length (fun j _=>Aev h j)
 have h3:=ArH t h
 unfold Sto.wt tot
 omega
theorem Agv{s:Sto}(t:TI s.nodes)(h:SmT (ub s.balj)){i:Nat}(hi:i<s.nodes.length):((s.wts.getD i u0).n:Int)=s.wt i:=by
 have h1:=AlM t h i
 have h2:=AkL h
 have h3:=h.2
 have hl:i<(subL (upsN s.nodes) s.nodes.length s.db).length:=by rw[Aea];exact hi
 have e:s.wts.getD i u0=toU ((subL (upsN s.nodes) s.nodes.length s.db).getD i 0):=by
  rw[AkM,List.getD,List.getElem?_map,List.getElem?_eq_getElem hl,getD_at hl];rfl
 rw[e,Ajf hi]
 unfold toU
 unfold Sto.wt at h1 |-
 simp only
 omega
theorem Amx{N:List Nod}{u:Nat}(hu:u<N.length):kidM (upsN N) u N.length=kids N (u:Int):=by
 unfold kidM kids kidsTo
 rw[AbT (by omega) (by omega),if_pos rfl]
 apply List.filter_congr
 intro x hx
 have hx':x<N.length:=List.mem_range.1 hx
 rw[AdO hx',nget hx']
theorem AjY{s:Sto}(hk:Lk (upsN s.nodes)){u:Nat}(hu:u<s.nodes.length):s.wt u=nat0 s.db u+sumM s.wt (kids s.nodes (u:Int)):=by
 have:=totM (d:=nat0 s.db) hk (n:=s.nodes.length) (by rw[Abj]) hu
 rw[Amx hu]at this
 exact this
theorem Al5{s:Sto}(t:TI s.nodes)(h:SmT (ub s.balj)){i u:Nat}(hi:i<s.nodes.length)(hu:u<s.nodes.length)(e:s.nodes[i].up=(u:Int)):s.wt i<=s.wt u:=by
 have h1:=AjY t.lk hu
 have h2:=AoD (W:=s.wt) (l:=kids s.nodes (u:Int)) (fun x _=>(AlM t h x).1) (Akh hu hi e)
 have h3:=Aev h u
 omega
theorem ArI{s:Sto}(h:SmT (ub s.balj)){i:Nat}(hi:i<s.nodes.length)(h2:s.nodes[i].st=2):nat0 s.db i=0:=by
 have hl:i<(s.nodes.map toNd).length:=by simpa using hi
 have e0:nat0 s.dl i=0:=by
  unfold nat0 Sto.dl
  rw[AeO hl,if_pos (by simpa [toNd]using h2)]
 rcases Afj h with e|⟨k,hk,hk2,e⟩
 .rw[e];exact e0
 .rw[e]
  have hki:k≠i:=fun e=>by subst e;exact hk2 h2
  unfold nat0 at e0 |-
  rw[List.getD,List.getElem?_set_ne hki];exact e0
theorem ApM{s:Sto}(t:TI s.nodes)(h:SmT (ub s.balj)):∀(f i:Nat) (hi:i<s.nodes.length),s.nodes.length<=i+f->s.nodes[i].st=2->s.wt i=0
 |0,i,hi,hf,_=>by omega
 |f+1,i,hi,hf,h2=>by
  rw[AjY t.lk hi,ArI h hi h2]
  have key:∀l:List Nat,(∀x∈l,s.wt x=0)->sumM s.wt l=0:=by
   intro l
   induction l with
   |nil=>intro _;rfl
   |cons y l ih=>intro hl;simp only[sumM];rw[ih fun x hx=>hl x (by simp[hx]),hl y (by simp)];rfl
  rw[key]
  .rfl
  .intro x hx
   obtain⟨hx1,hx2⟩:=Ab3 hx
   have:=AbH t.lk x hx1
   exact ApM t h f x hx1 (by omega) (t.cl2 x i hx1 hi hx2 h2)
theorem Apk{s:Sto}(t:TI s.nodes)(h:SmT (ub s.balj)):s.wt 0<=(ub s.balj).sum+s.am:=(AlM t h 0).2
open Go.RowKit Old
theorem AbP(Γ:Gam)(s:Sto)(v:Sls)(k:Nat)(hs:SI k s)(hk:k<=40)(w:World)(ok:Ok Γ w)(h:StG Γ v s) :
  Calls Tryz.prog 23 #[.agg (fl (stP s v)).toArray] w (WtvP Γ w s):=by
 have M:=bx (MM.start ok)
 have hw:=hs.wok hk
 have nx:=h.nodes.n
 have DI:=bx (fun w ok=>Afw Γ s v k hs hk w ok h)
 have DL:=bx (Apf hw.sm)
 have SU:Bx (∀(A:Option Addr) (c:Nat) w,Ok Γ w->Old.U64 s.db->Old.URow w A s.nodes.length s.db->Calls Tryz.prog 52 #[.agg #[v.nodes.v],.slice A s.nodes.length c] w (Old.UN s.nodes.length (subL (upsN s.nodes) s.nodes.length s.db) w)):=⟨fun A c w ok hd hr=>by
  have a1:=NG.nrow (x:=v.nodes) h.nodes ok
  rw[nx]at a1
  rw[show v.nodes.v=.slice v.nodes.A s.nodes.length v.nodes.c by rw[<-nx]]
  have:=AfM v.nodes.A A s.nodes.length v.nodes.c c (s.nodes.map toNd) s.db hd (by rw[AcF];exact hw.lk) hw.nb hw.pos w a1 hr
  rw[AcF,AmL hw.lk (by rw[Abj]) hw.pos hd DL.o]at this
  exact this⟩
 have WL:=bx (AkM s)
 have NP:=bx hw.pos
 rw[show WtvP Γ w s=fun e w'=>∃(A:Option Addr) (c:Nat) (Γ':Gam),e=.returned (.slice A s.nodes.length c)/\CapOk A s.nodes.length c/\SlG Γ' A s.nodes.length (us s.wts)/\Ext Γ w Γ' w' from rfl,WL.o]
 clear ok h hs hw hk nx DL WL
 generalize s.db=db at *
 generalize subL (upsN s.nodes) s.nodes.length db=xs at *
 go_enter Tryz.func23,Tryz.ntmps23
 (go_wp2_with (refine zBXd ?_;clear M;intro w' g M))
 refine AaB [] (.steps [(1,0),(0,1),(0,2),(2,3),(2,4),(1,5)] .leaf) (by kernel_rfl) (by kernel_rfl) ?_;(simp only[MixT6,MT.steps,stepAt,List.getD_cons_zero,List.getD_cons_succ]);replace M:=bx (M.o.drew)
 refine zNM ?_
 refine zMRd ?_
 refine zMC (DI.o _ M.ok) Tryz.func53 ?_
 rintro e5 w5 ⟨A5,c5,rfl,hu5,hr5,hx5⟩
 refine⟨_,rfl,hx5,?_⟩
 replace M:=bx (M.o.below hx5)
 have HU5:=bx hu5
 have HR5:=bx hr5
 clear hu5 hr5 hx5 DI
 refine zNM ?_
 refine zMRd ?_
 refine zMC (SU.o A5 c5 _ M.ok HU5.o HR5.o) Tryz.func52 ?_
 rintro e6 w6 ⟨g6,c6,rfl,hu6,hl6,hg6,hc6,⟨post,hh⟩,hx6⟩
 refine⟨_,rfl,hx6,?_⟩
 replace M:=bx (M.o.newRow hx6 hg6 (P:=[ints .u64 xs,post]) (ls:=[(ints .u64 xs).length,post.length]) (by simpa [fl]using hh) rfl)
 have HU6:=bx hu6
 have HC6:=bx hc6
 clear hu6 hl6 hg6 hc6 hh hx6 SU
 refine zNM ?_
 refine zMRd ?_
 refine NoPanic.normal ?_
 (go_wp2_with (fail))
 go_ret
 obtain⟨Γ',h1,h2,h3⟩:=M.o.frzL
 refine⟨some ⟨g6,0,none⟩,c6,Γ',rfl,⟨HC6.o.1,HC6.o.2,fun h=>by cases h⟩,fun _=>⟨g6,post,rfl,?_⟩,h3.ext⟩
 rw[AmB HU6.o]
 simpa [fl]using h1
theorem AiE{N:List Nod}{W:List U}{L:List Bool}{u k:Nat}(h:bestI N W L (u:Int)=(k:Int)):∃hk:k<N.length,N[k].up=(u:Int):=Ab3 (Abb h).1
section
variable {s:Sto}
theorem Akp{j:Nat}(e:fndI s.nodes s.just.r=(j:Int)):Stp s.nodes s.wts s.lives (j:Int) s.head:=⟨s.nodes.length,by unfold Sto.head;rw[e]⟩
theorem Am9(hk:Lk (upsN s.nodes)){j:Nat}(hj:j<s.nodes.length)(e:fndI s.nodes s.just.r=(j:Int)):bestI s.nodes s.wts s.lives s.head<0:=by
 unfold Sto.head;rw[e];exact Ah1 hk hj
theorem ApQ(t:TI s.nodes){j:Nat}(hj:j<s.nodes.length)(h2:s.nodes[j].st≠2){m:Nat}(hm:m<s.nodes.length)(h:Stp s.nodes s.wts s.lives (j:Int) (m:Int)):s.nodes[m].st≠2:=by
 rcases h.inv with e|⟨u,_,hb,_⟩
 .obtain rfl:m=j:=by omega
  exact h2
 .have hl:=(Abb hb).2.1
  intro h3
  have h4:=ApU t s.nodes.length m hm (by omega) h3
  have hml:m<s.lives.length:=by simpa [Sto.lives]using hm
  rw[List.getD,List.getElem?_eq_getElem hml,Option.getD_some,Amr hml,h4]at hl
  cases hl
def oth(W:Nat->Int)(l:List Nat)(i:Nat):Nat->Int
 |0=>0
 |m+1=>oth W l i m+if m=i then 0 else W (l.getD m 0)
theorem Apr{W:Nat->Int}{l:List Nat}{k:Nat}(hk:k<l.length):sumM W (l.take (k+1))=sumM W (l.take k)+W (l.getD k 0):=by
 rw[List.take_succ_eq_append_getElem hk,AiW,AcU hk]
theorem Ame{W:Nat->Int}{l:List Nat}{i:Nat}(h:∀x∈l,0<=W x):∀m,m<=l.length->0<=oth W l i m/\oth W l i m<=sumM W (l.take m)
 |0,_=>by simp[oth,sumM]
 |m+1,hm=>by
  have h1:=Ame (i:=i) h m (by omega)
  have h2:=h _ (List.getElem_mem (show m<l.length by omega))
  rw[Apr (show m<l.length by omega),AcU (show m<l.length by omega)]
  unfold oth
  rw[AcU (show m<l.length by omega)]
  split<;>omega
theorem Amd{W:Nat->Int}{l:List Nat}{i:Nat}(h:∀x∈l,0<=W x):∀m,m<=l.length->∀q,q<m->q≠i->W (l.getD q 0)<=oth W l i m
 |0,_,q,hq,_=>by omega
 |m+1,hm,q,hq,hqi=>by
  have h1:=Ame (i:=i) h m (by omega)
  have h2:=h _ (List.getElem_mem (show m<l.length by omega))
  unfold oth
  rw[AcU (show m<l.length by omega)]
  by_cases hqm:q=m
  .subst hqm;rw[if_neg hqi,AcU (show q<l.length by omega)];omega
  .have:=Amd h m (by omega) q (by omega) hqi
   split<;>omega
theorem Arm{k:Nat}(hs:SI k s)(hw:SmT (ub s.balj)){j:Nat}(hj:j<s.nodes.length)(ej:fndI s.nodes s.just.r=(j:Int)){i:Nat}(hi:i<(kids s.nodes (j:Int)).length)
  (hl:s.lives.getD (kids s.nodes (j:Int))[i] false=true) (ho:oth s.wt (kids s.nodes (j:Int)) i (kids s.nodes (j:Int)).length<s.wt (kids s.nodes (j:Int))[i]) :
  ancI s.nodes ((kids s.nodes (j:Int))[i]:Int) s.head=true:=by
 have hnn:∀x∈kids s.nodes (j:Int),0<=s.wt x:=fun x _=>(AlM hs.t hw x).1
 have hb:bestI s.nodes s.wts s.lives (j:Int)=((kids s.nodes (j:Int))[i]:Int):=by
  rcases Acu (N:=s.nodes) (W:=s.wts) (L:=s.lives) (i:=(j:Int))with h1|⟨c,h1⟩
  .have:=AiD h1 _ (List.getElem_mem hi)
   rw[hl]at this;cases this
  .obtain⟨h2,h3,h4⟩:=Abb h1
   have h5:=h4 _ (List.getElem_mem hi) hl
   obtain⟨q,hq,e⟩:=List.getElem_of_mem h2
   by_cases hqi:q=i
   .subst hqi;rw[h1,e]
   .exfalso
    have h6:=Amd hnn (kids s.nodes (j:Int)).length (Nat.le_refl _) q hq hqi
    rw[AcU hq,e]at h6
    have hc:c<s.nodes.length:=(Ab3 h2).1
    have hi':(kids s.nodes (j:Int))[i]<s.nodes.length:=(Ab3 (List.getElem_mem hi)).1
    have e1:=Agv hs.t hw hc
    have e2:=Agv hs.t hw hi'
    rcases h5 with h5|⟨h5,_⟩<;>omega
 obtain⟨hc1,hc2⟩:=AiE hb
 have hs2:Stp s.nodes s.wts s.lives ((kids s.nodes (j:Int))[i]:Int) s.head:=by
  obtain⟨f,hf⟩:∃f,s.nodes.length=f+1:=⟨s.nodes.length-1,by omega⟩
  refine⟨f,?_⟩
  unfold Sto.head
  rw[ej,hf,headF,if_neg (by omega),hb]
 obtain⟨m,hm,e,ha⟩:=Aeb hs.t.lk hc1 hs2
 rw[e];exact ha
end
theorem Al6{vs:List Vt}{G bs r:List Int}{v:Nat}{x:Vt}(hv:v<vs.length):∀m,wgt (vs.set v x) G bs r m=wgt vs G bs r m+(if v<m then(if cnt (vs.set v x) G r v=true then bs.getD v 0 else 0)-(if cnt vs G r v=true then bs.getD v 0 else 0)else 0)
 |0=>by simp[wgt]
 |m+1=>by
  have ih:=Al6 (G:=G) (bs:=bs) (r:=r) (x:=x) hv m
  show wgt (vs.set v x) G bs r m+(if cnt (vs.set v x) G r m=true then bs.getD m 0 else 0)=wgt vs G bs r m+(if cnt vs G r m=true then bs.getD m 0 else 0)+_
  rw[ih]
  by_cases hvm:v=m
  .subst hvm
   rw[if_neg (Nat.lt_irrefl _),if_pos (Nat.lt_succ_self _)]
   omega
  .have e:cnt (vs.set v x) G r m=cnt vs G r m:=by
    unfold cnt
    rw[show(vs.set v x).getD m Old.zv=vs.getD m Old.zv by rw[List.getD,List.getElem?_set_ne hvm];rfl]
   rw[e]
   by_cases h1:v<m
   .rw[if_pos h1,if_pos (show v<m+1 by omega)];omega
   .rw[if_neg h1,if_neg (show ¬v<m+1 by omega)];omega
def giv(ns:List Nd)(vs:List Vt)(G bs:List Int)(v j:Nat):Int:=if(ns.map (·.st)).getD j 2=2 then 0 else if cnt vs G ((ns.map (·.b.root)).getD j []) v=true then bs.getD v 0 else 0
theorem AqM{ns:List Nd}{vs:List Vt}{G bs:List Int}{v m:Nat}{x:Vt}(hv:v<vs.length)(hvm:v<m)(j:Nat) :
  nat0 (dirL ns (vs.set v x) G bs m) j=nat0 (dirL ns vs G bs m) j+giv ns (vs.set v x) G bs v j-giv ns vs G bs v j:=by
 unfold nat0 giv
 by_cases hj:j<ns.length
 .rw[AeO hj,AeO hj]
  have e1:(ns.map (·.st)).getD j 2=ns[j].st:=by simp[List.getD,List.getElem?_eq_getElem hj]
  have e2:(ns.map (·.b.root)).getD j []=ns[j].b.root:=by simp[List.getD,List.getElem?_eq_getElem hj]
  rw[e1,e2]
  by_cases h2:ns[j].st=2
  .rw[if_pos h2,if_pos h2,if_pos h2,if_pos h2];rfl
  .rw[if_neg h2,if_neg h2,if_neg h2,if_neg h2,Al6 hv m,if_pos hvm];omega
 .have e1:(ns.map (·.st)).getD j 2=2:=by rw[List.getD,List.getElem?_eq_none (by simpa using hj)];rfl
  rw[e1,if_pos rfl,if_pos rfl]
  rw[List.getD,List.getElem?_eq_none (by rw[Abm];omega),List.getD,List.getElem?_eq_none (by rw[Abm];omega)]
  rfl
theorem Ae9{us:List Int}{k i t:Nat}{b:Int}{d:Nat->Int}(hd:∀j,j≠t->d j=0)(hb:d t=b):∀n,own us k d i n=if t<n/\hat us k t t=i then b else 0
 |0=>by simp[own]
 |n+1=>by
  have ih:=Ae9 (us:=us) (k:=k) (i:=i) hd hb n
  show own us k d i n+(if hat us k n n=i then d n else 0)=_
  rw[ih]
  by_cases h1:n=t
  .subst h1
   rw[if_neg (show ¬(n<n/\hat us k n n=i)by omega),hb]
   by_cases h2:hat us k n n=i
   .rw[if_pos h2,if_pos (show n<n+1/\hat us k n n=i from⟨by omega,h2⟩)];omega
   .rw[if_neg h2,if_neg (show ¬(n<n+1/\hat us k n n=i)from fun h=>h2 h.2)];rfl
  .rw[hd n h1,ite_self]
   by_cases h3:hat us k t t=i
   .by_cases h2:t<n
    .rw[if_pos (show t<n/\hat us k t t=i from⟨h2,h3⟩),if_pos (show t<n+1/\hat us k t t=i from⟨by omega,h3⟩)];omega
    .rw[if_neg (show ¬(t<n/\hat us k t t=i)from fun h=>h2 h.1),if_neg (show ¬(t<n+1/\hat us k t t=i)from fun h=>by omega)];rfl
   .rw[if_neg (show ¬(t<n/\hat us k t t=i)from fun h=>h3 h.2),if_neg (show ¬(t<n+1/\hat us k t t=i)from fun h=>h3 h.2)];rfl
theorem Ahn{us:List Int}{k i:Nat}{d:Nat->Int}(hd:∀j,d j=0):∀n,own us k d i n=0
 |0=>rfl
 |n+1=>by rw[own,Ahn hd n,hd];split<;>rfl
theorem An0{N:List Nod}(hk:Lk (upsN N)){x h:Nat}(hh:h<N.length):ancI N (x:Int) (h:Int)=true↔hat (upsN N) (x+1) h h=x:=by
 rw[AfH hh]
 unfold pathN
 exact Ahl hk x h h (by rw[Abj];exact hh) (Nat.le_refl _)
structure Swung(s s':Sto)(v h:Nat)(hh:h<s.nodes.length):Prop where
 nodes:s'.nodes=s.nodes
 lives:s'.lives=s.lives
 balj:s'.balj=s.balj
 eqv:s'.eqv=s.eqv
 just:s'.just=s.just
 b0:s.boost=r0
 b1:s'.boost=r0
 vl:v<s.lat.length
 lat:∃e,s'.lat=s.lat.set v ⟨true,e,s.nodes[h].b.root⟩
theorem AnT{s:Sto}(h:s.boost=r0):s.db=s.dl:=by
 unfold Sto.db
 rw[h]
 exact Adj
theorem AoC{k:Nat}{s s':Sto}{v h:Nat}{hh:h<s.nodes.length}(W:Swung s s' v h hh)(hs:SI k s)(hsm:SmT (ub s.balj))(hl:s.lat.length=s.balj.length)(h2:s.nodes[h].st≠2)(x:Nat) :
  (ancI s.nodes (x:Int) (h:Int)=true->s.wt x<=s'.wt x)/\(ancI s.nodes (x:Int) (h:Int)=false->s'.wt x<=s.wt x):=by
 obtain⟨ep,hlat⟩:=W.lat
 have hvb:v<s.balj.length:=by rw[<-hl];exact W.vl
 have hvm:v<(s.lat.map toVt).length:=by simpa using W.vl
 have e1:s'.dl=dirL (s.nodes.map toNd) ((s.lat.map toVt).set v (toVt ⟨true,ep,s.nodes[h].b.root⟩)) s.eqv (ub s.balj) s.balj.length:=by
  unfold Sto.dl
  rw[W.nodes,W.balj,W.eqv,hlat,List.map_set]
 generalize hx':(toVt ⟨true,ep,s.nodes[h].b.root⟩:Vt)=x' at e1
 have hb:=(hsm.at (k:=v) (by rw[Afy];exact hvb)).1
 have D:=AqM (ns:=s.nodes.map toNd) (vs:=s.lat.map toVt) (G:=s.eqv) (bs:=ub s.balj) (x:=x') hvm hvb
 have key:s'.wt x=s.wt x+tot (upsN s.nodes) (giv (s.nodes.map toNd) ((s.lat.map toVt).set v x') s.eqv (ub s.balj) v) x s.nodes.length-tot (upsN s.nodes) (giv (s.nodes.map toNd) (s.lat.map toVt) s.eqv (ub s.balj) v) x s.nodes.length:=by
  unfold Sto.wt tot
  rw[AnT W.b0,AnT W.b1,e1,W.nodes,<-Amc,<-Amb]
  exact Aiu _ fun j _=>D j
 have gn:∀vs j,0<=giv (s.nodes.map toNd) vs s.eqv (ub s.balj) v j:=fun vs j=>by
  unfold giv
  split
  .exact Int.le_refl _
  .split
   .exact hb
   .exact Int.le_refl _
 have fn:=AfA (us:=upsN s.nodes) (k:=x+1) (i:=x) (d:=giv (s.nodes.map toNd) (s.lat.map toVt) s.eqv (ub s.balj) v) s.nodes.length (fun j _=>gn _ j)
 by_cases hg:(v:Int)∈s.eqv
 .have z:∀vs j,giv (s.nodes.map toNd) vs s.eqv (ub s.balj) v j=0:=fun vs j=>by
   unfold giv
   rw[AeA hg]
   split
   .rfl
   .rfl
  unfold tot at key
  rw[Ahn (z _),Ahn (z _)]at key
  constructor<;>intro _<;>omega
 .have G:∀j,giv (s.nodes.map toNd) ((s.lat.map toVt).set v x') s.eqv (ub s.balj) v j=if j=h then(ub s.balj).getD v 0 else 0:=fun j=>by
   unfold giv
   have ev:((s.lat.map toVt).set v x').getD v Old.zv=x':=by rw[List.getD,List.getElem?_set_self hvm];rfl
   have ex1:x'.1=true:=by rw[<-hx'];rfl
   have ex2:x'.2.2=s.nodes[h].b.root.l:=by rw[<-hx'];rfl
   by_cases hj:j<s.nodes.length
   .have a1:((s.nodes.map toNd).map (·.st)).getD j 2=s.nodes[j].st:=by simp[List.getD,List.getElem?_eq_getElem hj,toNd]
    have a2:((s.nodes.map toNd).map (·.b.root)).getD j []=s.nodes[j].b.root.l:=by simp[List.getD,List.getElem?_eq_getElem hj,toNd,toBk]
    rw[a1,a2,Ah9 (by rw[ev];exact ex1) hg,ev,ex2]
    by_cases hjh:j=h
    .subst hjh
     rw[if_neg h2,if_pos rfl,decide_eq_true rfl,if_pos rfl]
    .have hne:¬s.nodes[h].b.root.l=s.nodes[j].b.root.l:=fun e=>hjh (hs.t.diff j h hj hh (Rt.ext' e.symm))
     rw[if_neg hjh,decide_eq_false hne]
     simp
   .have a1:((s.nodes.map toNd).map (·.st)).getD j 2=2:=by rw[List.getD,List.getElem?_eq_none (by simpa using hj)];rfl
    rw[a1,if_pos rfl,if_neg (by omega)]
  have T1:=Ae9 (us:=upsN s.nodes) (k:=x+1) (i:=x) (t:=h) (d:=giv (s.nodes.map toNd) ((s.lat.map toVt).set v x') s.eqv (ub s.balj) v) (fun j hj=>by rw[G,if_neg hj]) (by rw[G,if_pos rfl]) s.nodes.length
  have F:∃t,(∀j,j≠t->giv (s.nodes.map toNd) (s.lat.map toVt) s.eqv (ub s.balj) v j=0)/\giv (s.nodes.map toNd) (s.lat.map toVt) s.eqv (ub s.balj) v t<=(ub s.balj).getD v 0:=by
   have le:∀j,giv (s.nodes.map toNd) (s.lat.map toVt) s.eqv (ub s.balj) v j<=(ub s.balj).getD v 0:=fun j=>by
    unfold giv
    split
    .exact hb
    .split
     .exact Int.le_refl _
     .exact hb
   by_cases hz:∀j,giv (s.nodes.map toNd) (s.lat.map toVt) s.eqv (ub s.balj) v j=0
   .exact⟨0,fun j _=>hz j,le 0⟩
   .obtain⟨t,ht⟩:=Classical.not_forall.1 hz
    refine⟨t,fun j hj=>?_,le t⟩
    have nz:∀j,giv (s.nodes.map toNd) (s.lat.map toVt) s.eqv (ub s.balj) v j≠0->∃hj:j<s.nodes.length,((s.lat.map toVt).getD v Old.zv).2.2=s.nodes[j].b.root.l:=fun j hn=>by
     unfold giv at hn
     by_cases hj:j<s.nodes.length
     .refine⟨hj,?_⟩
      have a2:((s.nodes.map toNd).map (·.b.root)).getD j []=s.nodes[j].b.root.l:=by simp[List.getD,List.getElem?_eq_getElem hj,toNd,toBk]
      rw[a2]at hn
      split at hn
      .exact absurd rfl hn
      .split at hn
       .rename_i hc
        unfold cnt at hc
        simp only[Bool.and_eq_true,decide_eq_true_eq]at hc
        exact hc.2.2
       .exact absurd rfl hn
     .have a1:((s.nodes.map toNd).map (·.st)).getD j 2=2:=by rw[List.getD,List.getElem?_eq_none (by simpa using hj)];rfl
      rw[a1,if_pos rfl]at hn
      exact absurd rfl hn
    by_cases hjz:giv (s.nodes.map toNd) (s.lat.map toVt) s.eqv (ub s.balj) v j=0
    .exact hjz
    .obtain⟨p1,p2⟩:=nz j hjz
     obtain⟨q1,q2⟩:=nz t ht
     exact absurd (hs.t.diff j t p1 q1 (Rt.ext' (p2.symm.trans q2))) hj
  obtain⟨t,F1,F2⟩:=F
  have T2:=Ae9 (us:=upsN s.nodes) (k:=x+1) (i:=x) (t:=t) F1 rfl s.nodes.length
  unfold tot at key
  rw[T1]at key
  constructor
  .intro ha
   rw[if_pos ⟨hh,(An0 hs.t.lk hh).1 ha⟩]at key
   rw[T2]at key fn
   split at key<;>omega
  .intro ha
   rw[if_neg (fun h'=>by rw[(An0 hs.t.lk hh).2 h'.2]at ha;cases ha)]at key
   omega
theorem AlZ{k:Nat}{s s':Sto}{v h:Nat}{hh:h<s.nodes.length}(W:Swung s s' v h hh)(hs:SI k s)(hs':SI k s')(hk:k<=40)(e:s.head=(h:Int)):s'.head=(h:Int):=by
 have hw:=hs.wok hk
 have hw':=hs'.wok hk
 obtain⟨j,hj,ej,hj2⟩:=Adv hs
 have h2:=ApQ hs.t hj hj2 hh (e▸Akp ej)
 have C:=fun x=>AoC W hs hw.sm hw.lat h2 x
 have A:∀x,x<s.nodes.length->((s.wts.getD x u0).n:Int)=s.wt x:=fun x hx=>Agv hs.t hw.sm hx
 have A':∀x,x<s.nodes.length->((s'.wts.getD x u0).n:Int)=s'.wt x:=fun x hx=>Agv hs'.t hw'.sm (by rw[W.nodes];exact hx)
 have best_same:∀u c:Nat,bestI s.nodes s.wts s.lives (u:Int)=(c:Int)->ancI s.nodes (c:Int) (h:Int)=true->bestI s.nodes s'.wts s.lives (u:Int)=(c:Int):=by
  intro u c hb ha
  obtain⟨b1,b2,b3⟩:=Abb hb
  obtain⟨hc,hcu⟩:=Ab3 b1
  rcases Acu (N:=s.nodes) (W:=s'.wts) (L:=s.lives) (i:=(u:Int))with h1|⟨c',h1⟩
  .have:=AiD h1 c b1
   rw[b2]at this;cases this
  .obtain⟨d1,d2,d3⟩:=Abb h1
   obtain⟨hc',hcu'⟩:=Ab3 d1
   by_cases hcc:c'=c
   .rw[h1,hcc]
   .exfalso
    have hna:ancI s.nodes (c':Int) (h:Int)=false:=by
     cases hx:ancI s.nodes (c':Int) (h:Int)with
     |false=>rfl
     |true=>
      exfalso
      have l1:=AbH hs.t.lk c hc
      have l2:=AbH hs.t.lk c' hc'
      rcases Nat.le_total c c' with hle|hle
      .have:=Anz hs.t.lk hh ha hx hle
       rcases(AcE hs.t.lk hc' hcu').1 this with h5|h5
       .omega
       .have:=AhQ hs.t.lk (show u<s.nodes.length by omega) h5;omega
      .have:=Anz hs.t.lk hh hx ha hle
       rcases(AcE hs.t.lk hc hcu).1 this with h5|h5
       .omega
       .have:=AhQ hs.t.lk (show u<s.nodes.length by omega) h5;omega
    have p1:=(C c).1 ha
    have p2:=(C c').2 hna
    have q1:=b3 c' d1 d2
    have q2:=d3 c b1 b2
    have a1:=A c hc
    have a2:=A c' hc'
    have a3:=A' c hc
    have a4:=A' c' hc'
    rcases q1 with q1|⟨q1,r1⟩
    .rcases q2 with q2|⟨q2,_⟩<;>omega
    .rcases q2 with q2|⟨q2,r2⟩
     .omega
     .rw[AeQ]at r2
      have:=Agc (show cmpRt (s.nodes.getD c' n0).b.root (s.nodes.getD c n0).b.root=0 by omega)
      rw[nget hc,nget hc']at this
      exact hcc (hs.t.diff c' c hc' hc this)
 have best_gone:∀u:Nat,bestI s.nodes s.wts s.lives (u:Int)<0->bestI s.nodes s'.wts s.lives (u:Int)<0:=by
  intro u hb
  rcases Acu (N:=s.nodes) (W:=s'.wts) (L:=s.lives) (i:=(u:Int))with h1|⟨c',h1⟩
  .exact h1
  .obtain⟨d1,d2,_⟩:=Abb h1
   have:=AiD hb c' d1
   rw[d2]at this;cases this
 have way:∀(f u:Nat),u<s.nodes.length->headF s.nodes s.wts s.lives f (u:Int)=(h:Int)->headF s.nodes s'.wts s.lives f (u:Int)=(h:Int):=by
  intro f
  induction f with
  |zero=>intro u _ h1;exact h1
  |succ f ih=>
   intro u hu h1
   rw[headF]at h1 |-
   rcases Acu (N:=s.nodes) (W:=s.wts) (L:=s.lives) (i:=(u:Int))with hb|⟨c,hb⟩
   .rw[if_pos hb]at h1
    rw[if_pos (best_gone u hb)];exact h1
   .rw[hb,if_neg (by omega)]at h1
    obtain⟨hc,_⟩:=AiE hb
    obtain⟨m,hm,em,ha⟩:=Aeb hs.t.lk hc ⟨f,h1⟩
    obtain rfl:m=h:=by omega
    rw[best_same u c hb ha,if_neg (by omega)]
    exact ih c hc h1
 unfold Sto.head at e |-
 rw[W.nodes,W.lives,W.just]
 rw[ej]at e |-
 exact way _ j hj e
end Go.Proofs.YtmgeheaneohldaaGreat
