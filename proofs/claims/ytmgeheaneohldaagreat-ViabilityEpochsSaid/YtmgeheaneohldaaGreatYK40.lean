/- Texts joined: what the walks of this claim stand on (part 40 of 43). -/
import Derived.Test.YtmgeheaneohldaaGreatYK36
import Derived.Test.YtmgeheaneohldaaGreatYK37
import Derived.Test.YtmgeheaneohldaaGreatYK38
import Derived.Test.YtmgeheaneohldaaGreatYK39
set_option linter.all false
set_option maxRecDepth 20000
set_option maxHeartbeats 40000000
namespace Go.Proofs.YtmgeheaneohldaaGreat
open Go.RowKit Go.Proofs.YtmgeheaneohldaaGreat.Old
abbrev opB(b:Blk):OpD:={op0 2 with b:=b}
abbrev opA(a:Att):OpD:={op0 3 with a:=a}
abbrev opSl(s:Slh):OpD:={op0 4 with s:=s}
abbrev opT(t:Tbl):OpD:={op0 5 with t:=t}
abbrev opV(v:Vd):OpD:={op0 6 with v:=v}
theorem Acx(b:Blk):Tryz.prog.built 130 [(0,.int .i64 2),(1,.agg (blx b).toArray)]=some (fl (opP (opB b) os0)).toArray:=by
 rw[stOp.eq]
 refine AaJ (Q:=[[.int .i64 2]]) stOp.len rfl rfl rfl rfl rfl fun hl=>?_
 refine AaJ (Q:=blP b) hl rfl rfl rfl (AaY b) rfl fun hl=>?_
 rfl
theorem Aev(a:Att)(s:Sl):Tryz.prog.built 130 [(0,.int .i64 3),(2,.agg (fl (atP a s)).toArray)]=some (fl (opP (opA a) {os0 with a:=s})).toArray:=by
 rw[stOp.eq]
 refine AaJ (Q:=[[.int .i64 3]]) stOp.len rfl rfl rfl rfl rfl fun hl=>?_
 refine AaJ (Q:=atP a s) hl rfl rfl rfl (AbY _ _) rfl fun hl=>?_
 rfl
theorem Aj4(x:Slh)(s t:Sl):Tryz.prog.built 130 [(0,.int .i64 4),(3,.agg (fl (slP x s t)).toArray)]=some (fl (opP (opSl x) {os0 with s1:=s,s2:=t})).toArray:=by
 rw[stOp.eq]
 refine AaJ (Q:=[[.int .i64 4]]) stOp.len rfl rfl rfl rfl rfl fun hl=>?_
 refine AaJ (Q:=slP x s t) hl rfl rfl rfl (Acm _ _ _) rfl fun hl=>?_
 rfl
theorem Aj3(t:Tbl)(s:Sl):Tryz.prog.built 130 [(0,.int .i64 5),(4,.agg (fl (tbP t.c s.v)).toArray)]=some (fl (opP (opT t) {os0 with t:=s})).toArray:=by
 rw[stOp.eq]
 refine AaJ (Q:=[[.int .i64 5]]) stOp.len rfl rfl rfl rfl rfl fun hl=>?_
 refine AaJ (Q:=tbP t.c s.v) hl rfl rfl rfl (Aaf _ _) rfl fun hl=>?_
 rfl
theorem Aeu(v:Vd):Tryz.prog.built 130 [(0,.int .i64 6),(5,.agg (fl (vdP v)).toArray)]=some (fl (opP (opV v) os0)).toArray:=by
 rw[stOp.eq]
 refine AaJ (Q:=[[.int .i64 6]]) stOp.len rfl rfl rfl rfl rfl fun hl=>?_
 refine AaJ (Q:=vdP v) hl rfl rfl rfl (Abc _) rfl fun hl=>?_
 rfl
theorem opK0(Γ:Gam){k:Int}(hk:1<=k/\k<=6):OpK Γ (op0 k) os0:=⟨hk,slR0 Γ,slR0 Γ,slR0 Γ,slR0 Γ,Nat.zero_le _,Nat.zero_le _,Nat.zero_le _,Nat.zero_le _⟩
def OppP(Γ:Gam)(w:World)(e:Ending)(w':World):Prop:=∃(o:OpD) (y:OpS) (Γ':Gam),e=.returned (.agg (fl (opP o y)).toArray)/\OpK Γ' o y/\Ext Γ w Γ' w'
theorem Al3{i:Nat}(Γ:Gam)(z:Zst)(x:Zls)(n k:Nat)(hn:n<=100000)(hk:k<=100000000)(hz:ZI i z)(w:World)(ok:Ok Γ w)(h:ZsG Γ x z) :
  Calls Tryz.prog 70 #[.agg (fl (zsP z x)).toArray,.int .i64 n,.int .i64 k] w (OppP Γ w):=by
 have M:=bx (MM.start ok)
 obtain⟨q,hq,iq⟩:∃q:Nat,(k:Int) / 16=(q:Int)/\q<=k:=⟨k / 16,by simp,Nat.div_le_self _ _⟩
 have hq8:q<=100000000:=by omega
 have hL:=hz.s.t.lk
 have hpos:0<z.s.nodes.length:=by obtain⟨j,hj,_⟩:=hz.s.just;omega
 have hb:z.s.nodes.length<=4096:=by have:=hz.s.nl;omega
 have hsp:0<z.s.c.spe.n:=hz.s.cf.spe.1
 have hbn:x.s.bal.n=z.s.bal.length:=h.s.bal.n
 have hbl:=hz.s.bal
 have BK:=bx (fun w ok=>Ail Γ z.s x.s n q hn hq8 hL hpos hb hsp w ok h.s)
 have AT:=bx (fun w ok=>AlN Γ z.s x.s q hq8 hL hpos hb (by omega) hsp w ok h.s)
 have SL:=bx (fun w ok=>AiU Γ x.s.bal.n q (by omega) hq8 w ok)
 have TB:=bx (fun w ok=>AiR Γ z.s x.s q hq8 hL hpos hb (by omega) hsp w ok h.s)
 have VD:=bx (fun w ok=>AkL Γ z x q hq8 hL hpos hb w ok h)
 clear ok h hz hL hpos hb hsp hbn hbl hq8 iq
 obtain⟨r,er,fr⟩:=AbJ k 16 (by decide) 16 rfl
 have hki:(k:Int)<=100000000:=by omega
 have hk0:(0:Int)<=(k:Int):=by omega
 have hc0:(0:Int)<=(q:Int):=by omega
 rcases(by omega:r=0\/r=1\/r=2\/r=3\/r=4\/r=5\/r=6\/r=7\/r=8\/r=9\/r=10\/r=11\/r=12\/r=13\/r=14\/r=15)with hr|hr|hr|hr|hr|hr|hr|hr|hr|hr|hr|hr|hr|hr|hr|hr
 .subst hr;(go_enter Tryz.func70,Tryz.ntmps70);((go_wp2_with (first|go_skip|(refine zBXd ?_;clear M;intro w' g M)|(refine zALd (ztOp) ?_;clear M;intro w' g M)|refine zBDd 130 [(0,.int .i64 1)] (fl (opP (op0 1) os0)) (Aaa _) ?_|(refine zSSd M 0 (opP (op0 1) os0) (opP (op0 1) os0) (AaQ _ _) (Aai _ _) ?_;clear M;intro w' M)|refine zLAd ?_)));(refine zR M.out.at0 ?_);exact⟨op0 1,os0,Γ,rfl,opK0 Γ (by decide),M.out.ext⟩
 .subst hr;(go_enter Tryz.func70,Tryz.ntmps70);((go_wp2_with (first|go_skip|(refine zBXd ?_;clear M;intro w' g M)|(refine zALd (ztOp) ?_;clear M;intro w' g M)|refine zBDd 130 [(0,.int .i64 1)] (fl (opP (op0 1) os0)) (Aaa _) ?_|(refine zSSd M 0 (opP (op0 1) os0) (opP (op0 1) os0) (AaQ _ _) (Aai _ _) ?_;clear M;intro w' M)|refine zLAd ?_)));(refine zR M.out.at0 ?_);exact⟨op0 1,os0,Γ,rfl,opK0 Γ (by decide),M.out.ext⟩
 .subst hr;(go_enter Tryz.func70,Tryz.ntmps70);((go_wp2_with (first|go_skip|(refine zBXd ?_;clear M;intro w' g M)|(refine zALd (ztOp) ?_;clear M;intro w' g M)|refine zBDd 130 [(0,.int .i64 1)] (fl (opP (op0 1) os0)) (Aaa _) ?_|(refine zSSd M 0 (opP (op0 1) os0) (opP (op0 1) os0) (AaQ _ _) (Aai _ _) ?_;clear M;intro w' M)|refine zLAd ?_)));(refine zR M.out.at0 ?_);exact⟨op0 1,os0,Γ,rfl,opK0 Γ (by decide),M.out.ext⟩
 .subst hr;(go_enter Tryz.func70,Tryz.ntmps70);((go_wp2_with (first|go_skip|(refine zBXd ?_;clear M;intro w' g M)|(refine zALd (ztOp) ?_;clear M;intro w' g M)|fail|refine zLAd ?_)));(refine(BK.out _ M.ok).mono ?_);rintro e1 w1 ⟨b,rfl,hx⟩;replace M:=bx (M.out.call hx);clear hx BK AT SL TB VD;((go_wp2_with (first|go_skip|(refine zBXd ?_;clear M;intro w' g M)|(refine zALd (ztOp) ?_;clear M;intro w' g M)|refine zBDd 130 [(0,.int .i64 2),(1,.agg (blx b).toArray)] (fl (opP (opB b) os0)) (Acx _) ?_|(refine zSSd M 0 (opP (opB b) os0) (opP (opB b) os0) (AaQ _ _) (Aai _ _) ?_;clear M;intro w' M)|refine zLAd ?_)));(refine zR M.out.at0 ?_);exact⟨opB b,os0,Γ,rfl,{opK0 Γ (k:=2) (by decide)with},M.out.ext⟩
 .subst hr;(go_enter Tryz.func70,Tryz.ntmps70);((go_wp2_with (first|go_skip|(refine zBXd ?_;clear M;intro w' g M)|(refine zALd (ztOp) ?_;clear M;intro w' g M)|fail|refine zLAd ?_)));(refine(BK.out _ M.ok).mono ?_);rintro e1 w1 ⟨b,rfl,hx⟩;replace M:=bx (M.out.call hx);clear hx BK AT SL TB VD;((go_wp2_with (first|go_skip|(refine zBXd ?_;clear M;intro w' g M)|(refine zALd (ztOp) ?_;clear M;intro w' g M)|refine zBDd 130 [(0,.int .i64 2),(1,.agg (blx b).toArray)] (fl (opP (opB b) os0)) (Acx _) ?_|(refine zSSd M 0 (opP (opB b) os0) (opP (opB b) os0) (AaQ _ _) (Aai _ _) ?_;clear M;intro w' M)|refine zLAd ?_)));(refine zR M.out.at0 ?_);exact⟨opB b,os0,Γ,rfl,{opK0 Γ (k:=2) (by decide)with},M.out.ext⟩
 .subst hr;(go_enter Tryz.func70,Tryz.ntmps70);((go_wp2_with (first|go_skip|(refine zBXd ?_;clear M;intro w' g M)|(refine zALd (ztOp) ?_;clear M;intro w' g M)|fail|refine zLAd ?_)));(refine(BK.out _ M.ok).mono ?_);rintro e1 w1 ⟨b,rfl,hx⟩;replace M:=bx (M.out.call hx);clear hx BK AT SL TB VD;((go_wp2_with (first|go_skip|(refine zBXd ?_;clear M;intro w' g M)|(refine zALd (ztOp) ?_;clear M;intro w' g M)|refine zBDd 130 [(0,.int .i64 2),(1,.agg (blx b).toArray)] (fl (opP (opB b) os0)) (Acx _) ?_|(refine zSSd M 0 (opP (opB b) os0) (opP (opB b) os0) (AaQ _ _) (Aai _ _) ?_;clear M;intro w' M)|refine zLAd ?_)));(refine zR M.out.at0 ?_);exact⟨opB b,os0,Γ,rfl,{opK0 Γ (k:=2) (by decide)with},M.out.ext⟩
 .subst hr;(go_enter Tryz.func70,Tryz.ntmps70);((go_wp2_with (first|go_skip|(refine zBXd ?_;clear M;intro w' g M)|(refine zALd (ztOp) ?_;clear M;intro w' g M)|fail|refine zLAd ?_)));(refine(BK.out _ M.ok).mono ?_);rintro e1 w1 ⟨b,rfl,hx⟩;replace M:=bx (M.out.call hx);clear hx BK AT SL TB VD;((go_wp2_with (first|go_skip|(refine zBXd ?_;clear M;intro w' g M)|(refine zALd (ztOp) ?_;clear M;intro w' g M)|refine zBDd 130 [(0,.int .i64 2),(1,.agg (blx b).toArray)] (fl (opP (opB b) os0)) (Acx _) ?_|(refine zSSd M 0 (opP (opB b) os0) (opP (opB b) os0) (AaQ _ _) (Aai _ _) ?_;clear M;intro w' M)|refine zLAd ?_)));(refine zR M.out.at0 ?_);exact⟨opB b,os0,Γ,rfl,{opK0 Γ (k:=2) (by decide)with},M.out.ext⟩
 .subst hr;(go_enter Tryz.func70,Tryz.ntmps70);((go_wp2_with (first|go_skip|(refine zBXd ?_;clear M;intro w' g M)|(refine zALd (ztOp) ?_;clear M;intro w' g M)|fail|refine zLAd ?_)));(refine(BK.out _ M.ok).mono ?_);rintro e1 w1 ⟨b,rfl,hx⟩;replace M:=bx (M.out.call hx);clear hx BK AT SL TB VD;((go_wp2_with (first|go_skip|(refine zBXd ?_;clear M;intro w' g M)|(refine zALd (ztOp) ?_;clear M;intro w' g M)|refine zBDd 130 [(0,.int .i64 2),(1,.agg (blx b).toArray)] (fl (opP (opB b) os0)) (Acx _) ?_|(refine zSSd M 0 (opP (opB b) os0) (opP (opB b) os0) (AaQ _ _) (Aai _ _) ?_;clear M;intro w' M)|refine zLAd ?_)));(refine zR M.out.at0 ?_);exact⟨opB b,os0,Γ,rfl,{opK0 Γ (k:=2) (by decide)with},M.out.ext⟩
 .subst hr;(go_enter Tryz.func70,Tryz.ntmps70);((go_wp2_with (first|go_skip|(refine zBXd ?_;clear M;intro w' g M)|(refine zALd (ztOp) ?_;clear M;intro w' g M)|fail|refine zLAd ?_)));(refine(AT.out _ M.ok).mono ?_);rintro e1 w1 ⟨a,sl,Γ1,rfl,hs,hl,hx⟩;replace M:=bx (M.out.call hx);have HS:=bx (And.intro hs hl);clear hx hs hl BK AT SL TB VD;((go_wp2_with (first|go_skip|(refine zBXd ?_;clear M;intro w' g M)|(refine zALd (ztOp) ?_;clear M;intro w' g M)|refine zBDd 130 [(0,.int .i64 3),(2,.agg (fl (atP a sl)).toArray)] (fl (opP (opA a) {os0 with a:=sl})) (Aev _ _) ?_|(refine zSSd M 0 (opP (opA a) {os0 with a:=sl}) (opP (opA a) {os0 with a:=sl}) (AaQ _ _) (Aai _ _) ?_;clear M;intro w' M)|refine zLAd ?_)));(refine zR M.out.at0 ?_);exact⟨opA a,{os0 with a:=sl},Γ1,rfl,{opK0 Γ1 (k:=3) (by decide)with a:=HS.out.1,la:=HS.out.2},M.out.ext⟩
 .subst hr;(go_enter Tryz.func70,Tryz.ntmps70);((go_wp2_with (first|go_skip|(refine zBXd ?_;clear M;intro w' g M)|(refine zALd (ztOp) ?_;clear M;intro w' g M)|fail|refine zLAd ?_)));(refine(AT.out _ M.ok).mono ?_);rintro e1 w1 ⟨a,sl,Γ1,rfl,hs,hl,hx⟩;replace M:=bx (M.out.call hx);have HS:=bx (And.intro hs hl);clear hx hs hl BK AT SL TB VD;((go_wp2_with (first|go_skip|(refine zBXd ?_;clear M;intro w' g M)|(refine zALd (ztOp) ?_;clear M;intro w' g M)|refine zBDd 130 [(0,.int .i64 3),(2,.agg (fl (atP a sl)).toArray)] (fl (opP (opA a) {os0 with a:=sl})) (Aev _ _) ?_|(refine zSSd M 0 (opP (opA a) {os0 with a:=sl}) (opP (opA a) {os0 with a:=sl}) (AaQ _ _) (Aai _ _) ?_;clear M;intro w' M)|refine zLAd ?_)));(refine zR M.out.at0 ?_);exact⟨opA a,{os0 with a:=sl},Γ1,rfl,{opK0 Γ1 (k:=3) (by decide)with a:=HS.out.1,la:=HS.out.2},M.out.ext⟩
 .subst hr;(go_enter Tryz.func70,Tryz.ntmps70);((go_wp2_with (first|go_skip|(refine zBXd ?_;clear M;intro w' g M)|(refine zALd (ztOp) ?_;clear M;intro w' g M)|fail|refine zLAd ?_)));(refine(AT.out _ M.ok).mono ?_);rintro e1 w1 ⟨a,sl,Γ1,rfl,hs,hl,hx⟩;replace M:=bx (M.out.call hx);have HS:=bx (And.intro hs hl);clear hx hs hl BK AT SL TB VD;((go_wp2_with (first|go_skip|(refine zBXd ?_;clear M;intro w' g M)|(refine zALd (ztOp) ?_;clear M;intro w' g M)|refine zBDd 130 [(0,.int .i64 3),(2,.agg (fl (atP a sl)).toArray)] (fl (opP (opA a) {os0 with a:=sl})) (Aev _ _) ?_|(refine zSSd M 0 (opP (opA a) {os0 with a:=sl}) (opP (opA a) {os0 with a:=sl}) (AaQ _ _) (Aai _ _) ?_;clear M;intro w' M)|refine zLAd ?_)));(refine zR M.out.at0 ?_);exact⟨opA a,{os0 with a:=sl},Γ1,rfl,{opK0 Γ1 (k:=3) (by decide)with a:=HS.out.1,la:=HS.out.2},M.out.ext⟩
 .subst hr;(go_enter Tryz.func70,Tryz.ntmps70);((go_wp2_with (first|go_skip|(refine zBXd ?_;clear M;intro w' g M)|(refine zALd (ztOp) ?_;clear M;intro w' g M)|fail|refine zLAd ?_)));(refine(SL.out _ M.ok).mono ?_);rintro e1 w1 ⟨a,s1,s2,Γ1,rfl,hs,h1,h2,hx⟩;replace M:=bx (M.out.call hx);have HS:=bx (And.intro hs (And.intro h1 h2));clear hx hs h1 h2 BK AT SL TB VD;((go_wp2_with (first|go_skip|(refine zBXd ?_;clear M;intro w' g M)|(refine zALd (ztOp) ?_;clear M;intro w' g M)|refine zBDd 130 [(0,.int .i64 4),(3,.agg (fl (slP a s1 s2)).toArray)] (fl (opP (opSl a) {os0 with s1:=s1,s2:=s2})) (Aj4 _ _ _) ?_|(refine zSSd M 0 (opP (opSl a) {os0 with s1:=s1,s2:=s2}) (opP (opSl a) {os0 with s1:=s1,s2:=s2}) (AaQ _ _) (Aai _ _) ?_;clear M;intro w' M)|refine zLAd ?_)));(refine zR M.out.at0 ?_);exact⟨opSl a,{os0 with s1:=s1,s2:=s2},Γ1,rfl,{opK0 Γ1 (k:=4) (by decide)with s1:=HS.out.1.a,s2:=HS.out.1.b,l1:=HS.out.2.1,l2:=HS.out.2.2},M.out.ext⟩
 .subst hr;(go_enter Tryz.func70,Tryz.ntmps70);((go_wp2_with (first|go_skip|(refine zBXd ?_;clear M;intro w' g M)|(refine zALd (ztOp) ?_;clear M;intro w' g M)|fail|refine zLAd ?_)));(refine(TB.out _ M.ok).mono ?_);rintro e1 w1 ⟨a,sl,Γ1,rfl,hs,hl,hx⟩;replace M:=bx (M.out.call hx);have HS:=bx (And.intro hs hl);clear hx hs hl BK AT SL TB VD;((go_wp2_with (first|go_skip|(refine zBXd ?_;clear M;intro w' g M)|(refine zALd (ztOp) ?_;clear M;intro w' g M)|refine zBDd 130 [(0,.int .i64 5),(4,.agg (fl (tbP a.c sl.v)).toArray)] (fl (opP (opT a) {os0 with t:=sl})) (Aj3 _ _) ?_|(refine zSSd M 0 (opP (opT a) {os0 with t:=sl}) (opP (opT a) {os0 with t:=sl}) (AaQ _ _) (Aai _ _) ?_;clear M;intro w' M)|refine zLAd ?_)));(refine zR M.out.at0 ?_);exact⟨opT a,{os0 with t:=sl},Γ1,rfl,{opK0 Γ1 (k:=5) (by decide)with t:=HS.out.1,lt:=HS.out.2},M.out.ext⟩
 .subst hr;(go_enter Tryz.func70,Tryz.ntmps70);((go_wp2_with (first|go_skip|(refine zBXd ?_;clear M;intro w' g M)|(refine zALd (ztOp) ?_;clear M;intro w' g M)|fail|refine zLAd ?_)));(refine(VD.out _ M.ok).mono ?_);rintro e1 w1 ⟨v,rfl,hx⟩;replace M:=bx (M.out.call hx);clear hx BK AT SL TB VD;((go_wp2_with (first|go_skip|(refine zBXd ?_;clear M;intro w' g M)|(refine zALd (ztOp) ?_;clear M;intro w' g M)|refine zBDd 130 [(0,.int .i64 6),(5,.agg (fl (vdP v)).toArray)] (fl (opP (opV v) os0)) (Aeu _) ?_|(refine zSSd M 0 (opP (opV v) os0) (opP (opV v) os0) (AaQ _ _) (Aai _ _) ?_;clear M;intro w' M)|refine zLAd ?_)));(refine zR M.out.at0 ?_);exact⟨opV v,os0,Γ,rfl,{opK0 Γ (k:=6) (by decide)with},M.out.ext⟩
 .subst hr;(go_enter Tryz.func70,Tryz.ntmps70);((go_wp2_with (first|go_skip|(refine zBXd ?_;clear M;intro w' g M)|(refine zALd (ztOp) ?_;clear M;intro w' g M)|fail|refine zLAd ?_)));(refine(VD.out _ M.ok).mono ?_);rintro e1 w1 ⟨v,rfl,hx⟩;replace M:=bx (M.out.call hx);clear hx BK AT SL TB VD;((go_wp2_with (first|go_skip|(refine zBXd ?_;clear M;intro w' g M)|(refine zALd (ztOp) ?_;clear M;intro w' g M)|refine zBDd 130 [(0,.int .i64 6),(5,.agg (fl (vdP v)).toArray)] (fl (opP (opV v) os0)) (Aeu _) ?_|(refine zSSd M 0 (opP (opV v) os0) (opP (opV v) os0) (AaQ _ _) (Aai _ _) ?_;clear M;intro w' M)|refine zLAd ?_)));(refine zR M.out.at0 ?_);exact⟨opV v,os0,Γ,rfl,{opK0 Γ (k:=6) (by decide)with},M.out.ext⟩
 .subst hr;(go_enter Tryz.func70,Tryz.ntmps70);((go_wp2_with (first|go_skip|(refine zBXd ?_;clear M;intro w' g M)|(refine zALd (ztOp) ?_;clear M;intro w' g M)|fail|refine zLAd ?_)));(refine(VD.out _ M.ok).mono ?_);rintro e1 w1 ⟨v,rfl,hx⟩;replace M:=bx (M.out.call hx);clear hx BK AT SL TB VD;((go_wp2_with (first|go_skip|(refine zBXd ?_;clear M;intro w' g M)|(refine zALd (ztOp) ?_;clear M;intro w' g M)|refine zBDd 130 [(0,.int .i64 6),(5,.agg (fl (vdP v)).toArray)] (fl (opP (opV v) os0)) (Aeu _) ?_|(refine zSSd M 0 (opP (opV v) os0) (opP (opV v) os0) (AaQ _ _) (Aai _ _) ?_;clear M;intro w' M)|refine zLAd ?_)));(refine zR M.out.at0 ?_);exact⟨opV v,os0,Γ,rfl,{opK0 Γ (k:=6) (by decide)with},M.out.ext⟩
theorem elOp:ElT Tryz.prog 92 130 446 720:=AcX Tryz.underlying92 (by kernel_rfl) (by decide) (by decide)
abbrev opx(o:OpD × OpS):List Value:=fl (opP o.1 o.2)
theorem AhA{Pg:Program}{w:World}{fn:Func}{p q r:Tmp}{ty ty2:TypeId}(h:fn.results = #[.cell p ty,.tmp q,.cell r ty2])(tmps:Array Value){g n g2 n2:Nat}{P P2:List (List Value)}{ls ls2:List Nat}(H:HL w g P ls)(hp:tmps.getD p undef=.pointer (some ⟨g,0,none⟩))(rt:RowT Pg ty n)(hn:ls.sum=n)
  (H2:HL w g2 P2 ls2) (hp2:tmps.getD r undef=.pointer (some ⟨g2,0,none⟩)) (rt2:RowT Pg ty2 n2) (hn2:ls2.sum=n2) :
  (results fn tmps).run Pg w=.ok (.tuple #[.agg (fl P).toArray,tmps.getD q undef,.agg (fl P2).toArray]) w:=by
 obtain⟨d,hu,hd⟩:=rt.ex
 obtain⟨d2,hu2,hd2⟩:=rt2.ex
 have hp':tmps[p]?.getD undef=.pointer (some ⟨g,0,none⟩):=by simpa using hp
 have hp2':tmps[r]?.getD undef=.pointer (some ⟨g2,0,none⟩):=by simpa using hp2
 have h1:=Abv (P:=Pg) (g:=g) H.has hu (by cases d<;>first|rfl|cases hd) (by rw[rt.n,AbA H.len,hn])
 have h2:=Abv (P:=Pg) (g:=g2) H2.has hu2 (by cases d2<;>first|rfl|cases hd2) (by rw[rt2.n,AbA H2.len,hn2])
 simp[results,h,hp',hp2',asAddr,h1,h2]
structure RunG(Γ:Gam)(cf:Cf)(sb:Sl)(bal:List U)(so:Sl)(ops:List (OpD × OpS))(x:Zls)(z:Zst):Prop where
 cb:CfB cf bal
 sb:SlR Γ sb bal.length (us bal)
 kps:∀o∈ops,OpK Γ o.1 o.2
 so:SlR Γ so ops.length (ops.flatMap opx)
 no:ops.length<=24
 zi:ZI 24 z
 zg:ZsG Γ x z
def RunP(Γ:Gam)(w:World)(e:Ending)(w':World):Prop:=∃(cf:Cf) (sb:Sl) (bal:List U) (so:Sl) (ops:List (OpD × OpS)) (x:Zls) (z:Zst) (Γ':Gam),e=.returned (.tuple #[.agg (fl (cfP cf sb)).toArray,so.v,.agg (fl (zsP z x)).toArray])/\RunG Γ' cf sb bal so ops x z/\Ext Γ w Γ' w'
theorem AkT(Γ:Gam)(A:Option Addr)(n c:Nat)(l:List Int)(w:World)(ok:Ok Γ w)(hr:Row w w.heap.size 1 A n (ints .i64 l))(hn:n<=maxLen) :
  Calls Tryz.prog 45 #[.slice A n c] w (RunP Γ w):=by
 have M:=bx (MM.start ok)
 have CFG:Bx (∀w',Below w.heap.size w w'->Ok Γ w'->Calls Tryz.prog 51 #[.slice A n c] w' (CfgP Γ w')):=⟨fun w' hb ok'=>Aep Γ A n c l w' ok' ((hr.below hb).more hb.size) hn⟩
 obtain⟨a16,l16,t16⟩:=AkD (c:=c) hr hn 16 (by decide) 16 rfl
 obtain⟨a17,l17,t17⟩:=AkD (c:=c) hr hn 17 (by decide) 17 rfl
 have ATX:=bx (fun i hi j hj=>AkD (c:=c) hr hn i hi j hj)
 have T16:=bx t16
 have T17:=bx t17
 clear ok hr hn t16 t17 l16 l17
 obtain⟨r16,q16,p16⟩:=AbJ a16 25 (by decide) 25 rfl
 obtain⟨r17,q17,p17⟩:=AbJ a17 4 (by decide) 4 rfl
 have b16:(0:Int)<=(a16:Int):=by omega
 have b17:(0:Int)<=(a17:Int):=by omega
 have d16:(0:Int)<=(r16:Int):=by omega
 have d17:(0:Int)<=(r17:Int):=by omega
 go_enter Tryz.func45,Tryz.ntmps45
 go_upto_region 1 with(first|((refine zALd (ztCf) ?_;clear M;intro w' g M);(obtain⟨g2,hg0⟩:∃y,y=g:=⟨_,rfl⟩);subst hg0)|((refine zALd (ztZs) ?_;clear M;intro w' g M);(obtain⟨g4,hg0⟩:∃y,y=g:=⟨_,rfl⟩);subst hg0))
 (go_wp2_with (first|go_skip|fail|refine zLAd ?_))
 refine(CFG.out _ M.bel M.ok).mono ?_
 rintro e1 w1 ⟨cf,sb,bal,Γ1,rfl,hcb,hsb,hx⟩
 replace M:=bx (M.out.call hx)
 have HCB:=bx hcb
 have HSB:=bx hsb
 clear hx hcb hsb CFG
 go_upto_region 2 with(first|go_skip|((refine zALd (ztCf) ?_;clear M;intro w' g M);(obtain⟨g5,hg0⟩:∃y,y=g:=⟨_,rfl⟩);subst hg0)|(refine zSSd M 0 (cfP cf sb) (cfP cf sb) (Aa5 _ _) (AdN _ _) ?_;clear M;intro w' M)|refine zLAd ?_)
 (go_wp2_with (first|go_skip|fail|refine zLAd ?_))
 refine(AkC Γ1 cf sb bal HCB.out _ M.ok HSB.out).mono ?_
 rintro e1 w1 ⟨x1,Γ2,A1,n1,c1,L1,rfl,hn1,hca1,hsl1,hz1,hx⟩
 replace M:=bx (M.out.call hx)
 have HG1:=bx hz1
 have HSB2:=bx (HSB.out.mono hx.le)
 have HZ1:=bx (AnQ HCB.out)
 clear hx hn1 hca1 hsl1 hz1 HSB
 generalize begZ cf bal=z1 at *
 go_upto_region 3 with(first|go_skip|((refine zALd (ztZs) ?_;clear M;intro w' g M);(obtain⟨g6,hg0⟩:∃y,y=g:=⟨_,rfl⟩);subst hg0)|(refine zSSd M 0 (zsP z1 x1) (zsP z1 x1) (AaL _ _) (AaS _ _) ?_;clear M;intro w' M)|refine zLAd ?_)
 (go_wp2_with (first|go_skip|fail|refine zLAd ?_))
 (refine(T16.out _ M.bel).mono ?_);rintro e1 w1 ⟨rfl,hx1⟩;replace M:=bx (M.out.below hx1);clear hx1
 (go_wp2_with (first|go_skip|fail|refine zLAd ?_))
 (refine(T17.out _ M.bel).mono ?_);rintro e1 w1 ⟨rfl,hx1⟩;replace M:=bx (M.out.below hx1);clear hx1
 go_upto_if 28 with fail
 go_cut [10]from 14 (fun s10 wx=>∃m:Nat,m<=24/\s10=.int .i64 (m:Int)/\MM Γ w Γ2 wx [⟨g6,zsP z1 x1,zsL⟩,⟨g5,cfP cf sb,cfL⟩,⟨g4,zsP zs0 zx0,zsL⟩,⟨g2,cfP cf0 sl0,cfL⟩] [])
 case first=>
  by_cases hr:r17=0
  .subst hr
   (go_wp2_with (first|go_skip|fail|refine zLAd ?_))
   go_meet
   case rel=>exact⟨r16,by omega,rfl,M.out⟩
  .have hr':(0:Int)<(r17:Int):=by omega
   (go_wp2_with (first|go_skip|fail|refine zLAd ?_))
   go_meet
   case rel=>exact⟨24,Nat.le_refl _,rfl,M.out⟩
 clear M q16 p16 q17 p17 b16 b17 d16 d17 T16 T17
 obtain⟨m,hm,rfl,hM⟩:=hcut
 have M:=bx hM
 clear hM
 (go_wp2_with (first|go_skip|fail|refine zLAd ?_))
 replace M:=bx (M.out.row0 130 446)
 have LG2:=bx (Le.refl Γ2)
 go_loopw [9,11,12,13] (fun s9 s11 s12 s13 wr=>∃(i:Nat) (z:Zst) (x:Zls) (Γi:Gam) (ops:List (OpD × OpS)) (A0:Option Addr) (c0:Nat),i<=m/\s11=.int .i64 (i:Int)/\s9=.slice A0 i c0/\ZI i z/\ZsG Γi x z/\Le Γ2 Γi/\(∀o∈ops,OpK Γi o.1 o.2)/\ops.length=i/\MM Γ w Γi wr [⟨g6,zsP z x,zsL⟩,⟨g5,cfP cf sb,cfL⟩,⟨g4,zsP zs0 zx0,zsL⟩,⟨g2,cfP cf0 sl0,cfL⟩] [⟨.slice A0 i c0,130,446,i,ops.flatMap opx⟩]) (fun _ i _ _ _=>m-(intOf i).toNat)
 case atStart=>exact⟨0,z1,x1,Γ2,[],none,0,Nat.zero_le _,rfl,rfl,HZ1.out,HG1.out,LG2.out,fun o ho=>(by cases ho),rfl,M.out⟩
 case round=>
  obtain⟨i,z,x,Γi,ops,A0,c0,him,rfl,rfl,hzi,hzg,hle,hops,hol,hM⟩:=hrel
  clear M
  have M:=bx hM
  have HZ:=bx hzi
  have HG:=bx hzg
  have HO:=bx (And.intro hle (And.intro hops hol))
  clear hM hzi hzg hle hops hol
  by_cases hin:i<m
  .have hii:(i:Int)<(m:Int):=by omega
   have hi24:(i:Int)<24:=by omega
   have hi0:(0:Int)<=(i:Int):=by omega
   obtain⟨ak,lk,tk⟩:=ATX.out (18+i) (by omega) (18+(i:Int)) (by omega)
   have TK:=bx tk
   have hak:ak<=100000000:=by omega
   clear tk lk
   (go_wp2_with (first|go_skip|fail|refine zLAd ?_))
   (refine(TK.out _ M.bel).mono ?_);rintro e1 w1 ⟨rfl,hx1⟩;replace M:=bx (M.out.below hx1);clear hx1 TK
   go_upto_if 39 with fail
   go_cut [12]from 29 to 55 (fun s12 wx=>∃kk:Nat,kk<=100000000/\s12=.int .i64 (kk:Int)/\MM Γ w Γi wx [⟨g6,zsP z x,zsL⟩,⟨g5,cfP cf sb,cfL⟩,⟨g4,zsP zs0 zx0,zsL⟩,⟨g2,cfP cf0 sl0,cfL⟩] [⟨.slice A0 i c0,130,446,i,ops.flatMap opx⟩])
   case first=>
    by_cases hz:i=0
    .subst hz
     (go_wp2_with (first|go_skip|fail|refine zLAd ?_))
     go_meet
     case rel=>exact⟨0,by omega,rfl,M.out⟩
    .have h1:((i:Int)==0)=false:=by rw[beq_eq_false_iff_ne];omega
     (go_wp2_with (first|go_skip|fail|refine zLAd ?_))
     go_meet
     case rel=>exact⟨ak,hak,rfl,M.out⟩
   clear M hak
   obtain⟨kk,hkk,rfl,hM⟩:=hcut
   have M:=bx hM
   clear hM
   have OPF:Bx (∀w' (ok':Ok Γi w'),Calls Tryz.prog 70 #[.agg (fl (zsP z x)).toArray,.int .i64 (10+(i:Int)),.int .i64 (kk:Int)] w' (OppP Γi w')):=⟨fun w' ok'=>by
    have:=Al3 Γi z x (10+i) kk (by omega) hkk HZ.out w' ok' HG.out
    rw[show((10+i:Nat):Int)=10+(i:Int)by omega]at this
    exact this⟩
   (go_wp2_with (first|go_skip|fail|refine zLAd ?_))
   refine(OPF.out _ M.ok).mono ?_
   rintro e1 w1 ⟨o,y,Γo,rfl,hok,hx⟩
   replace M:=bx (M.out.call hx)
   have HOK:=bx hok
   have LX:=bx hx.le
   clear hx hok OPF
   have STP:=bx (fun w' ok'=>AkO (k:=i) (by omega) Γo z x o y HZ.out HOK.out w' ok' (HG.out.mono LX.out))
   go_upto_region 14 with(first|go_skip|((refine zALd (ztOp) ?_;clear M;intro w' g M);(obtain⟨g13,hg0⟩:∃y,y=g:=⟨_,rfl⟩);subst hg0)|(refine zSSd M 0 (opP o y) (opP o y) (AaQ _ _) (Aai _ _) ?_;clear M;intro w' M)|refine zLAd ?_)
   (go_wp2_with (first|go_skip|((with_reducible apply Abk M.out (elOp) (P:=opP o y) (ls:=opL));rfl;rfl;rfl;rfl;exact AaQ _ _;rfl;intro w' g M' hb';(replace M:=bx M';clear M');clear hb';refine zNM ?_)|(at_builtin;(with_reducible apply AaW M.out elOp);rfl;exact Aai _ _;(unfold maxLen;omega);omega;rfl;rfl;rfl;rfl;intro A' c' w' M';(replace M:=bx M';clear M'))|refine zLAd ?_))
   refine(STP.out _ M.ok).mono ?_
   rintro e1 w1 ⟨z',x',Γs,A2,n2,c2,L2,er,rfl,hn2,hca,hsl,hzg,hzi,hx⟩
   replace M:=bx (M.out.call hx)
   have HZ':=bx hzi
   have HG':=bx hzg
   have LX2:=bx hx.le
   clear hx hn2 hca hsl hzg hzi STP
   (go_wp2_with (first|go_skip|(refine zSSd M 1 (zsP z' x') (zsP z' x') (AaL _ _) (AaS _ _) ?_;clear M;intro w' M)|refine zLAd ?_))
   go_roundw
   case rel=>
    have hM:=M.out.tail
    have e1:ops.flatMap opx++fl (opP o y)=(ops ++ [(o,y)]).flatMap opx:=by simp
    rw[e1]at hM
    refine⟨i+1,z',x',Γs,ops ++ [(o,y)],A',c',by omega,by go_num,rfl,HZ'.out,HG'.out,HO.out.1.trans (LX.out.trans LX2.out),fun p hp=>?_,by simp[HO.out.2.2],hM⟩
    rcases List.mem_append.1 hp with hp|hp
    .exact(HO.out.2.1 p hp).mono (LX.out.trans LX2.out)
    .have:p=(o,y):=by simpa using hp
     rw[this];exact HOK.out.mono LX2.out
   case measure=>simp[intOf];omega
  .obtain rfl:i=m:=by omega
   obtain⟨Γ',h1,h2,h3,h4⟩:=M.out.frz
   clear M
   have M:=bx h4
   have HR:=bx (And.intro h1 (And.intro h2 h3))
   clear h1 h2 h3 h4
   (go_wp2_with (first|go_skip|fail|refine zLAd ?_))
   refine AaH (fun w'=>HL w' g5 (cfP cf sb) cfL/\HL w' g6 (zsP z x) zsL) (.steps [(0,0),(1,1),(0,2),(3,3),(1,4),(3,5)] .leaf) (by kernel_rfl) (by kernel_rfl) ⟨M.out.drew.at1,M.out.drew.at0⟩ ?_;(simp only[MixT7,MT.steps,stepI,List.getD_cons_zero,List.getD_cons_succ]);replace M:=bx (M.out.drew)
   refine zNM ?_
   (repeat(first|refine zM0 ?_|(go_big_quiet_want;first|((with_reducible apply AaP (fun _ h=>h.1) (Aa5 _ _));rfl;rfl;exact zrts;rfl;rfl;go_big_quiet_on;refine zNM ?_)|((with_reducible apply AaN (fun _ h=>h.1));rfl;rfl;exact zots;rfl;rfl;go_big_quiet_on;refine zNM ?_)|((with_reducible apply AaM (fun _ h=>h.1) (Aa5 _ _));rfl;rfl;exact zrts;rfl;refine zCT ?_;go_big_quiet_on;refine zNM ?_)|((with_reducible apply AaP (fun _ h=>h.2) (AaL _ _));rfl;rfl;exact zrts;rfl;rfl;go_big_quiet_on;refine zNM ?_)|((with_reducible apply AaN (fun _ h=>h.2));rfl;rfl;exact zots;rfl;rfl;go_big_quiet_on;refine zNM ?_)|((with_reducible apply AaM (fun _ h=>h.2) (AaL _ _));rfl;rfl;exact zrts;rfl;refine zCT ?_;go_big_quiet_on;refine zNM ?_)|(refine zQO ?_;go_big_quiet_on))))
   refine zXS M 3 (cfP cf sb) (cfP cf sb) (Aa5 _ _) (AdN _ _) ?_;clear M;intro w7 M
   refine⟨⟨M.out.at1,M.out.at0⟩,?_⟩
   refine zMR7 ?_
   refine zXS M 2 (zsP z x) (zsP z x) (AaL _ _) (AaS _ _) ?_;clear M;intro w7 M
   refine⟨⟨M.out.at1,M.out.at0⟩,?_⟩
   refine NoPanic.normal ?_
   (go_wp2_with (first|go_skip|fail|refine zLAd ?_))
   (try refine zsm ?_);refine bodyPost_ret (AhA (by rfl) _ M.out.at3 (by rfl) rtCf rfl M.out.at2 (by rfl) rtZs rfl) rfl ?_
   have hl:=HO.out.2.2
   refine⟨cf,sb,bal,⟨A0,i,c0⟩,ops,x,z,Γ',rfl,⟨HCB.out,HSB2.out.mono (HO.out.1.trans HR.out.2.2),fun p hp=>(HO.out.2.1 p hp).mono HR.out.2.2,⟨hl.symm,HR.out.1,HR.out.2.1⟩,by omega,HZ.out.more hm,HG.out.mono HR.out.2.2⟩,M.out.ext⟩
def StaP(Γ:Gam)(w:World)(e:Ending)(w':World):Prop:=∃(x:Zls) (z:Zst) (Γ':Gam),e=.returned (.agg (fl (zsP z x)).toArray)/\ZI 24 z/\ZsG Γ' x z/\Ext Γ w Γ' w'
theorem Adr(Γ:Gam)(A:Option Addr)(n c:Nat)(l:List Int)(w:World)(ok:Ok Γ w)(hr:Row w w.heap.size 1 A n (ints .i64 l))(hn:n<=maxLen) :
  Calls Tryz.prog 13 #[.slice A n c] w (StaP Γ w):=by
 have M:=bx (MM.start ok)
 have RUN:Bx (∀w',Below w.heap.size w w'->Ok Γ w'->Calls Tryz.prog 45 #[.slice A n c] w' (RunP Γ w')):=⟨fun w' hb ok'=>AkT Γ A n c l w' ok' ((hr.below hb).more hb.size) hn⟩
 clear ok hr hn
 go_enter Tryz.func13,Tryz.ntmps13
 (go_wp2_with (first|go_skip|(refine zBXd ?_;clear M;intro w' g M)|(refine zALd (ztCf) ?_;clear M;intro w' g M)|(refine zALd (ztZs) ?_;clear M;intro w' g M)|(refine zALd (ztOp) ?_;clear M;intro w' g M)|fail|refine zLAd ?_))
 refine(RUN.out _ M.bel M.ok).mono ?_
 rintro e1 w1 ⟨cf,sb,bal,so,ops,x,z,Γ',rfl,hR,hx⟩
 replace M:=bx (M.out.call hx)
 have HR:=bx hR
 clear hx hR RUN
 go_upto_region 2 with(first|go_skip|((refine zALd (ztCf) ?_;clear M;intro w' g M))|((refine zALd (ztZs) ?_;clear M;intro w' g M))|(refine zSSd M 1 (cfP cf sb) (cfP cf sb) (Aa5 _ _) (AdN _ _) ?_;clear M;intro w' M)|(refine zSSd M 0 (zsP z x) (zsP z x) (AaL _ _) (AaS _ _) ?_;clear M;intro w' M)|refine zLAd ?_)
 (go_wp2_with (first|go_skip|(refine zSSd M 2 (zsP z x) (zsP z x) (AaL _ _) (AaS _ _) ?_;clear M;intro w' M)|refine zLAd ?_))
 refine zR M.out.at2 ?_
 exact⟨x,z,Γ',rfl,HR.out.zi,HR.out.zg,M.out.ext⟩
end Go.Proofs.YtmgeheaneohldaaGreat
