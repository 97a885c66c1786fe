/- Texts joined: what the walks of this claim stand on (part 25). -/
import Derived.Test.YtmgeheaneohldaaGreatJK10
import Derived.Test.YtmgeheaneohldaaGreatJK23
import Derived.Test.YtmgeheaneohldaaGreatJK24
set_option linter.all false
set_option maxRecDepth 20000
set_option maxHeartbeats 40000000
namespace Go.Proofs.YtmgeheaneohldaaGreat
open Go.RowKit Old
theorem Anz{N:List Nod}(h:Lk (upsN N)){a b:Nat}:∀{c:Nat},c<N.length->ancI N (a:Int) (c:Int)=true->ancI N (b:Int) (c:Int)=true->a<=b->ancI N (a:Int) (b:Int)=true:=by
 intro c
 induction c using Nat.strongRecOn with
 |_ c ih=>
  intro hc hac hbc hab
  rcases Adn h hc with⟨h1,h2⟩|⟨v,h1,h2⟩
  .subst h1
   have:=Ae0 h hc hbc
   subst this;exact hac
  .rcases(AcE h hc h2).1 hbc with rfl|hb
   .exact hac
   .rcases(AcE h hc h2).1 hac with rfl|ha
    .have:=AhQ h (show v<N.length by omega) hb
     omega
    .exact ih v h1 (by omega) ha hb hab
theorem ApU{s:Sto}(t:TI s.nodes):∀(f i:Nat) (hi:i<s.nodes.length),s.nodes.length<=i+f->s.nodes[i].st=2->s.lv i=false
 |0,i,hi,hf,_=>absurd hi (by omega)
 |f+1,i,hi,hf,h2=>by
  rw[Aq3 (AbH t.lk) i hi,Bool.or_eq_false_iff]
  refine⟨?_,?_⟩
  .unfold Sto.qual
   rw[Ami hi]
   exact Af6 h2
  .rw[List.any_eq_false]
   intro k hk
   obtain⟨hk1,hk2⟩:=AbZ hk
   have hki:i<k:=by have:=AbH t.lk k hk1;omega
   rw[ApU t f k hk1 (by omega) (t.cl2 k i hk1 hi hk2 h2)]
   simp
theorem Amr{s:Sto}{i:Nat}(h:i<s.lives.length):s.lives[i]=s.lv i:=by simp[Sto.lives,Sto.lv]
end Go.Proofs.YtmgeheaneohldaaGreat
