/- Texts joined: what the walks of this claim stand on (part 47). -/
import Derived.Test.YtpaihpeoiliioaaGreatKK37
set_option linter.all false
set_option maxRecDepth 20000
set_option maxHeartbeats 40000000
namespace Go.Proofs.YtpaihpeoiliioaaGreat
open Go.RowKit Old
def SmE(w:World)(e:Ending)(w':World):Prop:=∃er:Int,e=.returned (.int .i64 er)/\Below w.heap.size w w'
theorem stOp:StrT Tryz.prog 125 [(0,1),(1,238),(239,67),(306,70),(376,34),(410,34),(444,1),(445,1)] (opP (op0 0) os0) opL:=Aa9 Tryz.underlying125 (by kernel_rfl) (by kernel_rfl) (Aat _ _)
theorem ztOp:ZeroT Tryz.prog 125 (opP (op0 0) os0) opL:=⟨fun w=>by kernel_rfl,Aat _ _⟩
theorem AcI(k:Int):Tryz.prog.built 125 [(0,.int .i64 k)]=some (fl (opP (op0 k) os0)).toArray:=by
 rw[stOp.eq]
 refine AaG (Q:=[[.int .i64 k]]) stOp.len rfl rfl rfl rfl rfl fun hl=>?_
 rfl
theorem slr0(Γ:Gam)(l:List Value):SlG Γ none 0 l:=fun h=>absurd h (Nat.lt_irrefl _)
theorem opR0(Γ:Gam)(k:Int):OpR Γ (op0 k) os0:=⟨⟨none,0,rfl,slr0 _ _,Nat.zero_le _⟩,⟨none,0,rfl,slr0 _ _,Nat.zero_le _⟩,⟨none,0,rfl,slr0 _ _,Nat.zero_le _⟩,⟨none,0,rfl,slr0 _ _,Nat.zero_le _⟩⟩
theorem Aiy(Γ:Gam)(o:OpD)(x:OpS)(hk:1<=o.kind/\o.kind<=6)(h:OpR Γ o x)(w:World)(ok:Ok Γ w) :
  Calls Tryz.prog 94 #[.agg (fl (opP o x)).toArray] w (SmE w):=by
 have M:=bx (MM.start ok)
 have FD:=bx (fun w' ok'=>Amj Γ o x hk h w' ok')
 have SG:Bx (∀p y,OpR Γ p y->∀w',Ok Γ w'->Calls Tryz.prog 124 #[.agg (fl (opP o x)).toArray,.agg (fl (opP p y)).toArray] w' (SmB w')):=⟨fun p y h' w' ok'=>Ak1 Γ o p x y h h' w' ok'⟩
 have HO:=bx h
 clear ok h
 obtain⟨kd,b,a,s,t,v,wr,kp⟩:=o
 obtain⟨x1,x2,x3,x4⟩:=x
 simp only at hk
 rcases(by omega:kd=1\/kd=2\/kd=3\/kd=4\/kd=5\/kd=6)with rfl|rfl|rfl|rfl|rfl|rfl
 .have SO:=bx (SG.o _ _ (opR0 Γ 1))
  clear SG HO
  go_enter Tryz.func94,Tryz.ntmps94;(go_wp2_with (first|(refine zBXo ?_;clear M;intro w' g M)|refine zLAo ?_));(refine(FD.o _ M.ok).mono ?_);rintro e w1 ⟨A5,n5,c5,er,rfl,hb⟩;replace M:=bx (M.o.below hb);clear hb
  by_cases he:er=0
  .subst he
   (go_wp2_with (first|(refine zALo (ztOp) ?_;clear M;intro w' g M)|refine zBDo 125 [(0,.int .i64 1)] (fl (opP (op0 1) os0)) (AcI _) ?_|(refine zSSo M 0 (opP (op0 1) os0) (opP (op0 1) os0) (Aat _ _) (AbN _ _) ?_;clear M;intro w' M)|refine zLAo ?_));(refine(SO.o _ M.ok).mono ?_);rintro e w1 ⟨bb,rfl,hb⟩;replace M:=bx (M.o.below hb);clear hb;cases bb
   ·(go_wp2_with (fail));go_ret;exact⟨_,rfl,M.bel⟩
   ·(go_wp2_with (fail));go_ret;exact⟨_,rfl,M.bel⟩
  .have he':(er != 0)=true:=by simp[he]
   (go_wp2_with (fail));go_ret;exact⟨_,rfl,M.bel⟩
 .have SO:=bx (SG.o {op0 2 with b:=b} os0 ⟨(opR0 Γ 2).a,(opR0 Γ 2).s1,(opR0 Γ 2).s2,(opR0 Γ 2).t⟩)
  clear SG HO
  go_enter Tryz.func94,Tryz.ntmps94;(go_wp2_with (first|(refine zBXo ?_;clear M;intro w' g M)|refine zLAo ?_));(refine(FD.o _ M.ok).mono ?_);rintro e w1 ⟨A5,n5,c5,er,rfl,hb⟩;replace M:=bx (M.o.below hb);clear hb
  by_cases he:er=0
  .subst he
   (go_wp2_with (first|(refine zALo (ztOp) ?_;clear M;intro w' g M)|refine zBDo 125 [(0,.int .i64 2)] (fl (opP (op0 2) os0)) (AcI _) ?_|((first|refine zSSo M 0 (opP (op0 2) os0) (opP (op0 2) os0) (Aat _ _) (AbN _ _) ?_|refine zSSo M 0 (blP b) (opP {op0 2 with b:=b} os0) (AaZ _) (Acf _) ?_);clear M;intro w' M)|refine zLAo ?_));(refine(SO.o _ M.ok).mono ?_);rintro e w1 ⟨bb,rfl,hb⟩;replace M:=bx (M.o.below hb);clear hb;cases bb
   ·(go_wp2_with (fail));go_ret;exact⟨_,rfl,M.bel⟩
   ·(go_wp2_with (fail));go_ret;exact⟨_,rfl,M.bel⟩
  .have he':(er != 0)=true:=by simp[he]
   (go_wp2_with (fail));go_ret;exact⟨_,rfl,M.bel⟩
 .have SO:=bx (SG.o {op0 3 with a:=a} {os0 with a:=x1} ⟨HO.o.a,(opR0 Γ 3).s1,(opR0 Γ 3).s2,(opR0 Γ 3).t⟩)
  clear SG HO
  go_enter Tryz.func94,Tryz.ntmps94;(go_wp2_with (first|(refine zBXo ?_;clear M;intro w' g M)|refine zLAo ?_));(refine(FD.o _ M.ok).mono ?_);rintro e w1 ⟨A5,n5,c5,er,rfl,hb⟩;replace M:=bx (M.o.below hb);clear hb
  by_cases he:er=0
  .subst he
   (go_wp2_with (first|(refine zALo (ztOp) ?_;clear M;intro w' g M)|refine zBDo 125 [(0,.int .i64 3)] (fl (opP (op0 3) os0)) (AcI _) ?_|((first|refine zSSo M 0 (opP (op0 3) os0) (opP (op0 3) os0) (Aat _ _) (AbN _ _) ?_|refine zSSo M 0 (atP a x1) (opP {op0 3 with a:=a} {os0 with a:=x1}) (AbB _ _) (Adl _ _) ?_);clear M;intro w' M)|refine zLAo ?_));(refine(SO.o _ M.ok).mono ?_);rintro e w1 ⟨bb,rfl,hb⟩;replace M:=bx (M.o.below hb);clear hb;cases bb
   ·(go_wp2_with (fail));go_ret;exact⟨_,rfl,M.bel⟩
   ·(go_wp2_with (fail));go_ret;exact⟨_,rfl,M.bel⟩
  .have he':(er != 0)=true:=by simp[he]
   (go_wp2_with (fail));go_ret;exact⟨_,rfl,M.bel⟩
 .have SO:=bx (SG.o {op0 4 with s:=s} {os0 with s1:=x2,s2:=x3} ⟨(opR0 Γ 4).a,HO.o.s1,HO.o.s2,(opR0 Γ 4).t⟩)
  clear SG HO
  go_enter Tryz.func94,Tryz.ntmps94;(go_wp2_with (first|(refine zBXo ?_;clear M;intro w' g M)|refine zLAo ?_));(refine(FD.o _ M.ok).mono ?_);rintro e w1 ⟨A5,n5,c5,er,rfl,hb⟩;replace M:=bx (M.o.below hb);clear hb
  by_cases he:er=0
  .subst he
   (go_wp2_with (first|(refine zALo (ztOp) ?_;clear M;intro w' g M)|refine zBDo 125 [(0,.int .i64 4)] (fl (opP (op0 4) os0)) (AcI _) ?_|((first|refine zSSo M 0 (opP (op0 4) os0) (opP (op0 4) os0) (Aat _ _) (AbN _ _) ?_|refine zSSo M 0 (slP s x2 x3) (opP {op0 4 with s:=s} {os0 with s1:=x2,s2:=x3}) (AdY _ _ _) (Als _ _ _) ?_);clear M;intro w' M)|refine zLAo ?_));(refine(SO.o _ M.ok).mono ?_);rintro e w1 ⟨bb,rfl,hb⟩;replace M:=bx (M.o.below hb);clear hb;cases bb
   ·(go_wp2_with (fail));go_ret;exact⟨_,rfl,M.bel⟩
   ·(go_wp2_with (fail));go_ret;exact⟨_,rfl,M.bel⟩
  .have he':(er != 0)=true:=by simp[he]
   (go_wp2_with (fail));go_ret;exact⟨_,rfl,M.bel⟩
 .have SO:=bx (SG.o {op0 5 with t:=t} {os0 with t:=x4} ⟨(opR0 Γ 5).a,(opR0 Γ 5).s1,(opR0 Γ 5).s2,HO.o.t⟩)
  clear SG HO
  go_enter Tryz.func94,Tryz.ntmps94;(go_wp2_with (first|(refine zBXo ?_;clear M;intro w' g M)|refine zLAo ?_));(refine(FD.o _ M.ok).mono ?_);rintro e w1 ⟨A5,n5,c5,er,rfl,hb⟩;replace M:=bx (M.o.below hb);clear hb
  by_cases he:er=0
  .subst he
   (go_wp2_with (first|(refine zALo (ztOp) ?_;clear M;intro w' g M)|refine zBDo 125 [(0,.int .i64 5)] (fl (opP (op0 5) os0)) (AcI _) ?_|((first|refine zSSo M 0 (opP (op0 5) os0) (opP (op0 5) os0) (Aat _ _) (AbN _ _) ?_|refine zSSo M 0 (tbP t.c x4.v) (opP {op0 5 with t:=t} {os0 with t:=x4}) (AaS _ _) (Aeo _ _ _ _) ?_);clear M;intro w' M)|refine zLAo ?_));(refine(SO.o _ M.ok).mono ?_);rintro e w1 ⟨bb,rfl,hb⟩;replace M:=bx (M.o.below hb);clear hb;cases bb
   ·(go_wp2_with (fail));go_ret;exact⟨_,rfl,M.bel⟩
   ·(go_wp2_with (fail));go_ret;exact⟨_,rfl,M.bel⟩
  .have he':(er != 0)=true:=by simp[he]
   (go_wp2_with (fail));go_ret;exact⟨_,rfl,M.bel⟩
 .have SO:=bx (SG.o {op0 6 with v:=v} os0 ⟨(opR0 Γ 6).a,(opR0 Γ 6).s1,(opR0 Γ 6).s2,(opR0 Γ 6).t⟩)
  clear SG HO
  go_enter Tryz.func94,Tryz.ntmps94;(go_wp2_with (first|(refine zBXo ?_;clear M;intro w' g M)|refine zLAo ?_));(refine(FD.o _ M.ok).mono ?_);rintro e w1 ⟨A5,n5,c5,er,rfl,hb⟩;replace M:=bx (M.o.below hb);clear hb
  by_cases he:er=0
  .subst he
   (go_wp2_with (first|(refine zALo (ztOp) ?_;clear M;intro w' g M)|refine zBDo 125 [(0,.int .i64 6)] (fl (opP (op0 6) os0)) (AcI _) ?_|((first|refine zSSo M 0 (opP (op0 6) os0) (opP (op0 6) os0) (Aat _ _) (AbN _ _) ?_|refine zSSo M 0 (vdP v) (opP {op0 6 with v:=v} os0) (Abe _) (Aen _) ?_);clear M;intro w' M)|refine zLAo ?_));(refine(SO.o _ M.ok).mono ?_);rintro e w1 ⟨bb,rfl,hb⟩;replace M:=bx (M.o.below hb);clear hb;cases bb
   ·(go_wp2_with (fail));go_ret;exact⟨_,rfl,M.bel⟩
   ·(go_wp2_with (fail));go_ret;exact⟨_,rfl,M.bel⟩
  .have he':(er != 0)=true:=by simp[he]
   (go_wp2_with (fail));go_ret;exact⟨_,rfl,M.bel⟩
end Go.Proofs.YtpaihpeoiliioaaGreat
