/- Texts joined (KK60). -/
import Derived.Test.YtpaihpeoiliioaaGreatKK51
set_option linter.all false
set_option maxRecDepth 20000
set_option maxHeartbeats 40000000
namespace Go.Proofs.YtpaihpeoiliioaaGreat
section
section
open Go.RowKit
end
section
open Go.RowKit Go.Sort
end
section
open Go.RowKit Old
def ClP(Γ:Gam)(w:World)(n:Nat)(xs:List Value)(e:Ending)(w':World):Prop:=∃(y:Sl) (Γ':Gam),e=.returned y.v/\SlR Γ' y n xs/\Ext Γ w Γ' w'
theorem Aqn:ElT Tryz.prog 30 23 1 8:=Abr Tryz.underlying30 (by kernel_rfl) (by decide) (by decide)
theorem Am4(Γ:Gam)(x:Sl)(n:Nat)(xs:List Value)(hl:xs.length=n*1)(h1:One xs)(hb:n<=4096)(w:World)(ok:Ok Γ w)(h:SlR Γ x n xs) :
  Calls Tryz.prog 59 #[x.v] w (ClP Γ w n xs):=by
 obtain⟨A,n',c⟩:=x
 obtain rfl:n'=n:=h.n
 have hB:=(Below.refl w.heap.size w).alloc (Nat.le_refl _) (.cells #[] 23)
 rcases Nat.eq_zero_or_pos n' with h0|hpos
 .subst h0
  obtain rfl:xs = []:=List.eq_nil_of_length_eq_zero (by omega)
  cases A with
  |none=>
   obtain rfl:c=0:=h.cap.nil rfl
   have he:∀(w:World),(binOp .eql 30 (.slice none 0 0) (.slice none 0 0)).run Tryz.prog w=.ok (.bool true) w:=fun _=>rfl
   go_enter Tryz.func59,Tryz.ntmps59
   go_wp2_with fail
   go_ret
   exact⟨sl0,Γ,rfl,slR0 Γ,(MM.start ok).ext⟩
  |some ad=>
   have he:∀(n c:Nat) (w:World),(binOp .eql 30 (.slice (some ad) n c) (.slice none 0 0)).run Tryz.prog w=.ok (.bool false) w:=fun _ _ _=>rfl
   go_enter Tryz.func59,Tryz.ntmps59
   go_wp2_with fail
   go_ret
   exact⟨⟨_,0,0⟩,Γ,rfl,⟨rfl,⟨Nat.le_refl _,Nat.zero_le _,fun _=>rfl⟩,fun h=>absurd h (Nat.lt_irrefl _)⟩,((MM.start ok).below hB).ext⟩
 .obtain⟨g,post,hA,_⟩:=h.sl hpos
  obtain rfl:A=some ⟨g,0,none⟩:=hA
  have HM:=bx ((MM.start ok).rowNew hB (World.ownsRow_made (base:=w.heap.size) (e:=23) (size:=1) w #[] 0 (Nat.le_refl _) (Nat.zero_le _) rfl))
  have ROW:=bx (h.sl.row (size:=1) hl HM.o.ext.ok)
  have OneN:=bx h1
  have he:∀(n c:Nat) (w:World),(binOp .eql 30 (.slice (some ⟨g,0,none⟩) n c) (.slice none 0 0)).run Tryz.prog w=.ok (.bool false) w:=fun _ _ _=>rfl
  have B1:Bx (0+n'<=maxLen):=⟨by unfold maxLen;omega⟩
  have B2:Bx ((0+n')*8<=140737488355328):=⟨by omega⟩
  clear ok h hb hB hl h1
  go_enter Tryz.func59,Tryz.ntmps59
  go_wp2_with (at_builtin;(with_reducible refine Aae HM.o Aqn (s:=.tmp 5) (x:=.tmp 6) ROW.o (fun h=>by cases h) OneN.o B1.o B2.o rfl rfl rfl rfl ?_);intro A' c' w' M';have M:=bx M';clear M')
  go_ret
  have M1:=M.o
  rw[Nat.zero_add,List.nil_append]at M1
  obtain⟨Γ',h1,h2,h3,h4⟩:=M1.frz
  exact⟨⟨A',n',c'⟩,Γ',rfl,⟨rfl,h1,h2⟩,h4.ext⟩
theorem Am6(Γ:Gam)(x:Sl)(n:Nat)(xs:List Value)(hl:xs.length=n*1)(h1:One xs)(hb:n<=4096)(w:World)(ok:Ok Γ w)(h:SlR Γ x n xs) :
  Calls Tryz.prog 145 #[x.v] w (ClP Γ w n xs):=by
 obtain⟨A,n',c⟩:=x
 obtain rfl:n'=n:=h.n
 have hB:=(Below.refl w.heap.size w).alloc (Nat.le_refl _) (.cells #[] 3)
 rcases Nat.eq_zero_or_pos n' with h0|hpos
 .subst h0
  obtain rfl:xs = []:=List.eq_nil_of_length_eq_zero (by omega)
  cases A with
  |none=>
   obtain rfl:c=0:=h.cap.nil rfl
   have he:∀(w:World),(binOp .eql 22 (.slice none 0 0) (.slice none 0 0)).run Tryz.prog w=.ok (.bool true) w:=fun _=>rfl
   go_enter Tryz.func145,Tryz.ntmps145
   go_wp2_with fail
   go_ret
   exact⟨sl0,Γ,rfl,slR0 Γ,(MM.start ok).ext⟩
  |some ad=>
   have he:∀(n c:Nat) (w:World),(binOp .eql 22 (.slice (some ad) n c) (.slice none 0 0)).run Tryz.prog w=.ok (.bool false) w:=fun _ _ _=>rfl
   go_enter Tryz.func145,Tryz.ntmps145
   go_wp2_with fail
   go_ret
   exact⟨⟨_,0,0⟩,Γ,rfl,⟨rfl,⟨Nat.le_refl _,Nat.zero_le _,fun _=>rfl⟩,fun h=>absurd h (Nat.lt_irrefl _)⟩,((MM.start ok).below hB).ext⟩
 .obtain⟨g,post,hA,_⟩:=h.sl hpos
  obtain rfl:A=some ⟨g,0,none⟩:=hA
  have HM:=bx ((MM.start ok).rowNew hB (World.ownsRow_made (base:=w.heap.size) (e:=3) (size:=1) w #[] 0 (Nat.le_refl _) (Nat.zero_le _) rfl))
  have ROW:=bx (h.sl.row (size:=1) hl HM.o.ext.ok)
  have OneN:=bx h1
  have he:∀(n c:Nat) (w:World),(binOp .eql 22 (.slice (some ⟨g,0,none⟩) n c) (.slice none 0 0)).run Tryz.prog w=.ok (.bool false) w:=fun _ _ _=>rfl
  have B1:Bx (0+n'<=maxLen):=⟨by unfold maxLen;omega⟩
  have B2:Bx ((0+n')*8<=140737488355328):=⟨by omega⟩
  clear ok h hb hB hl h1
  go_enter Tryz.func145,Tryz.ntmps145
  go_wp2_with (at_builtin;(with_reducible refine Aae HM.o AbO (s:=.tmp 5) (x:=.tmp 6) ROW.o (fun h=>by cases h) OneN.o B1.o B2.o rfl rfl rfl rfl ?_);intro A' c' w' M';have M:=bx M';clear M')
  go_ret
  have M1:=M.o
  rw[Nat.zero_add,List.nil_append]at M1
  obtain⟨Γ',h1,h2,h3,h4⟩:=M1.frz
  exact⟨⟨A',n',c'⟩,Γ',rfl,⟨rfl,h1,h2⟩,h4.ext⟩
theorem ArT:ElT Tryz.prog 33 172 34 48:=Abr Tryz.underlying33 (by kernel_rfl) (by decide) (by decide)
theorem Apz(Γ:Gam)(x:Sl)(n:Nat)(xs:List Value)(hl:xs.length=n*34)(h1:One xs)(hb:n<=4096)(w:World)(ok:Ok Γ w)(h:SlR Γ x n xs) :
  Calls Tryz.prog 144 #[x.v] w (ClP Γ w n xs):=by
 obtain⟨A,n',c⟩:=x
 obtain rfl:n'=n:=h.n
 have hB:=(Below.refl w.heap.size w).alloc (Nat.le_refl _) (.cells #[] 172)
 rcases Nat.eq_zero_or_pos n' with h0|hpos
 .subst h0
  obtain rfl:xs = []:=List.eq_nil_of_length_eq_zero (by omega)
  cases A with
  |none=>
   obtain rfl:c=0:=h.cap.nil rfl
   have he:∀(w:World),(binOp .eql 33 (.slice none 0 0) (.slice none 0 0)).run Tryz.prog w=.ok (.bool true) w:=fun _=>rfl
   go_enter Tryz.func144,Tryz.ntmps144
   go_wp2_with fail
   go_ret
   exact⟨sl0,Γ,rfl,slR0 Γ,(MM.start ok).ext⟩
  |some ad=>
   have he:∀(n c:Nat) (w:World),(binOp .eql 33 (.slice (some ad) n c) (.slice none 0 0)).run Tryz.prog w=.ok (.bool false) w:=fun _ _ _=>rfl
   go_enter Tryz.func144,Tryz.ntmps144
   go_wp2_with fail
   go_ret
   exact⟨⟨_,0,0⟩,Γ,rfl,⟨rfl,⟨Nat.le_refl _,Nat.zero_le _,fun _=>rfl⟩,fun h=>absurd h (Nat.lt_irrefl _)⟩,((MM.start ok).below hB).ext⟩
 .obtain⟨g,post,hA,_⟩:=h.sl hpos
  obtain rfl:A=some ⟨g,0,none⟩:=hA
  have HM:=bx ((MM.start ok).rowNew hB (World.ownsRow_made (base:=w.heap.size) (e:=172) (size:=34) w #[] 0 (Nat.le_refl _) (Nat.zero_le _) rfl))
  have ROW:=bx (h.sl.row (size:=34) hl HM.o.ext.ok)
  have OneN:=bx h1
  have he:∀(n c:Nat) (w:World),(binOp .eql 33 (.slice (some ⟨g,0,none⟩) n c) (.slice none 0 0)).run Tryz.prog w=.ok (.bool false) w:=fun _ _ _=>rfl
  have B1:Bx (0+n'<=maxLen):=⟨by unfold maxLen;omega⟩
  have B2:Bx ((0+n')*48<=140737488355328):=⟨by omega⟩
  clear ok h hb hB hl h1
  go_enter Tryz.func144,Tryz.ntmps144
  go_wp2_with (at_builtin;(with_reducible refine Aae HM.o ArT (s:=.tmp 5) (x:=.tmp 6) ROW.o (fun h=>by cases h) OneN.o B1.o B2.o rfl rfl rfl rfl ?_);intro A' c' w' M';have M:=bx M';clear M')
  go_ret
  have M1:=M.o
  rw[Nat.zero_add,List.nil_append]at M1
  obtain⟨Γ',h1,h2,h3,h4⟩:=M1.frz
  exact⟨⟨A',n',c'⟩,Γ',rfl,⟨rfl,h1,h2⟩,h4.ext⟩
theorem ArV:ElT Tryz.prog 41 78 238 336:=Abr Tryz.underlying41 (by kernel_rfl) (by decide) (by decide)
theorem Ap1(Γ:Gam)(x:Sl)(n:Nat)(xs:List Value)(hl:xs.length=n*238)(h1:One xs)(hb:n<=4096)(w:World)(ok:Ok Γ w)(h:SlR Γ x n xs) :
  Calls Tryz.prog 116 #[x.v] w (ClP Γ w n xs):=by
 obtain⟨A,n',c⟩:=x
 obtain rfl:n'=n:=h.n
 have hB:=(Below.refl w.heap.size w).alloc (Nat.le_refl _) (.cells #[] 78)
 rcases Nat.eq_zero_or_pos n' with h0|hpos
 .subst h0
  obtain rfl:xs = []:=List.eq_nil_of_length_eq_zero (by omega)
  cases A with
  |none=>
   obtain rfl:c=0:=h.cap.nil rfl
   have he:∀(w:World),(binOp .eql 41 (.slice none 0 0) (.slice none 0 0)).run Tryz.prog w=.ok (.bool true) w:=fun _=>rfl
   go_enter Tryz.func116,Tryz.ntmps116
   go_wp2_with fail
   go_ret
   exact⟨sl0,Γ,rfl,slR0 Γ,(MM.start ok).ext⟩
  |some ad=>
   have he:∀(n c:Nat) (w:World),(binOp .eql 41 (.slice (some ad) n c) (.slice none 0 0)).run Tryz.prog w=.ok (.bool false) w:=fun _ _ _=>rfl
   go_enter Tryz.func116,Tryz.ntmps116
   go_wp2_with fail
   go_ret
   exact⟨⟨_,0,0⟩,Γ,rfl,⟨rfl,⟨Nat.le_refl _,Nat.zero_le _,fun _=>rfl⟩,fun h=>absurd h (Nat.lt_irrefl _)⟩,((MM.start ok).below hB).ext⟩
 .obtain⟨g,post,hA,_⟩:=h.sl hpos
  obtain rfl:A=some ⟨g,0,none⟩:=hA
  have HM:=bx ((MM.start ok).rowNew hB (World.ownsRow_made (base:=w.heap.size) (e:=78) (size:=238) w #[] 0 (Nat.le_refl _) (Nat.zero_le _) rfl))
  have ROW:=bx (h.sl.row (size:=238) hl HM.o.ext.ok)
  have OneN:=bx h1
  have he:∀(n c:Nat) (w:World),(binOp .eql 41 (.slice (some ⟨g,0,none⟩) n c) (.slice none 0 0)).run Tryz.prog w=.ok (.bool false) w:=fun _ _ _=>rfl
  have B1:Bx (0+n'<=maxLen):=⟨by unfold maxLen;omega⟩
  have B2:Bx ((0+n')*336<=140737488355328):=⟨by omega⟩
  clear ok h hb hB hl h1
  go_enter Tryz.func116,Tryz.ntmps116
  go_wp2_with (at_builtin;(with_reducible refine Aae HM.o ArV (s:=.tmp 5) (x:=.tmp 6) ROW.o (fun h=>by cases h) OneN.o B1.o B2.o rfl rfl rfl rfl ?_);intro A' c' w' M';have M:=bx M';clear M')
  go_ret
  have M1:=M.o
  rw[Nat.zero_add,List.nil_append]at M1
  obtain⟨Γ',h1,h2,h3,h4⟩:=M1.frz
  exact⟨⟨A',n',c'⟩,Γ',rfl,⟨rfl,h1,h2⟩,h4.ext⟩
theorem Ap0(Γ:Gam)(x:Sl)(n:Nat)(xs:List Value)(hl:xs.length=n*240)(h1:One xs)(hb:n<=4096)(w:World)(ok:Ok Γ w)(h:SlR Γ x n xs) :
  Calls Tryz.prog 100 #[x.v] w (ClP Γ w n xs):=by
 obtain⟨A,n',c⟩:=x
 obtain rfl:n'=n:=h.n
 have hB:=(Below.refl w.heap.size w).alloc (Nat.le_refl _) (.cells #[] 80)
 rcases Nat.eq_zero_or_pos n' with h0|hpos
 .subst h0
  obtain rfl:xs = []:=List.eq_nil_of_length_eq_zero (by omega)
  cases A with
  |none=>
   obtain rfl:c=0:=h.cap.nil rfl
   have he:∀(w:World),(binOp .eql 44 (.slice none 0 0) (.slice none 0 0)).run Tryz.prog w=.ok (.bool true) w:=fun _=>rfl
   go_enter Tryz.func100,Tryz.ntmps100
   go_wp2_with fail
   go_ret
   exact⟨sl0,Γ,rfl,slR0 Γ,(MM.start ok).ext⟩
  |some ad=>
   have he:∀(n c:Nat) (w:World),(binOp .eql 44 (.slice (some ad) n c) (.slice none 0 0)).run Tryz.prog w=.ok (.bool false) w:=fun _ _ _=>rfl
   go_enter Tryz.func100,Tryz.ntmps100
   go_wp2_with fail
   go_ret
   exact⟨⟨_,0,0⟩,Γ,rfl,⟨rfl,⟨Nat.le_refl _,Nat.zero_le _,fun _=>rfl⟩,fun h=>absurd h (Nat.lt_irrefl _)⟩,((MM.start ok).below hB).ext⟩
 .obtain⟨g,post,hA,_⟩:=h.sl hpos
  obtain rfl:A=some ⟨g,0,none⟩:=hA
  have HM:=bx ((MM.start ok).rowNew hB (World.ownsRow_made (base:=w.heap.size) (e:=80) (size:=240) w #[] 0 (Nat.le_refl _) (Nat.zero_le _) rfl))
  have ROW:=bx (h.sl.row (size:=240) hl HM.o.ext.ok)
  have OneN:=bx h1
  have he:∀(n c:Nat) (w:World),(binOp .eql 44 (.slice (some ⟨g,0,none⟩) n c) (.slice none 0 0)).run Tryz.prog w=.ok (.bool false) w:=fun _ _ _=>rfl
  have B1:Bx (0+n'<=maxLen):=⟨by unfold maxLen;omega⟩
  have B2:Bx ((0+n')*352<=140737488355328):=⟨by omega⟩
  clear ok h hb hB hl h1
  go_enter Tryz.func100,Tryz.ntmps100
  go_wp2_with (at_builtin;(with_reducible refine Aae HM.o elNo (s:=.tmp 5) (x:=.tmp 6) ROW.o (fun h=>by cases h) OneN.o B1.o B2.o rfl rfl rfl rfl ?_);intro A' c' w' M';have M:=bx M';clear M')
  go_ret
  have M1:=M.o
  rw[Nat.zero_add,List.nil_append]at M1
  obtain⟨Γ',h1,h2,h3,h4⟩:=M1.frz
  exact⟨⟨A',n',c'⟩,Γ',rfl,⟨rfl,h1,h2⟩,h4.ext⟩
theorem ArU:ElT Tryz.prog 50 151 35 56:=Abr Tryz.underlying50 (by kernel_rfl) (by decide) (by decide)
theorem Am5(Γ:Gam)(x:Sl)(n:Nat)(xs:List Value)(hl:xs.length=n*35)(h1:One xs)(hb:n<=4096)(w:World)(ok:Ok Γ w)(h:SlR Γ x n xs) :
  Calls Tryz.prog 78 #[x.v] w (ClP Γ w n xs):=by
 obtain⟨A,n',c⟩:=x
 obtain rfl:n'=n:=h.n
 have hB:=(Below.refl w.heap.size w).alloc (Nat.le_refl _) (.cells #[] 151)
 rcases Nat.eq_zero_or_pos n' with h0|hpos
 .subst h0
  obtain rfl:xs = []:=List.eq_nil_of_length_eq_zero (by omega)
  cases A with
  |none=>
   obtain rfl:c=0:=h.cap.nil rfl
   have he:∀(w:World),(binOp .eql 50 (.slice none 0 0) (.slice none 0 0)).run Tryz.prog w=.ok (.bool true) w:=fun _=>rfl
   go_enter Tryz.func78,Tryz.ntmps78
   go_wp2_with fail
   go_ret
   exact⟨sl0,Γ,rfl,slR0 Γ,(MM.start ok).ext⟩
  |some ad=>
   have he:∀(n c:Nat) (w:World),(binOp .eql 50 (.slice (some ad) n c) (.slice none 0 0)).run Tryz.prog w=.ok (.bool false) w:=fun _ _ _=>rfl
   go_enter Tryz.func78,Tryz.ntmps78
   go_wp2_with fail
   go_ret
   exact⟨⟨_,0,0⟩,Γ,rfl,⟨rfl,⟨Nat.le_refl _,Nat.zero_le _,fun _=>rfl⟩,fun h=>absurd h (Nat.lt_irrefl _)⟩,((MM.start ok).below hB).ext⟩
 .obtain⟨g,post,hA,_⟩:=h.sl hpos
  obtain rfl:A=some ⟨g,0,none⟩:=hA
  have HM:=bx ((MM.start ok).rowNew hB (World.ownsRow_made (base:=w.heap.size) (e:=151) (size:=35) w #[] 0 (Nat.le_refl _) (Nat.zero_le _) rfl))
  have ROW:=bx (h.sl.row (size:=35) hl HM.o.ext.ok)
  have OneN:=bx h1
  have he:∀(n c:Nat) (w:World),(binOp .eql 50 (.slice (some ⟨g,0,none⟩) n c) (.slice none 0 0)).run Tryz.prog w=.ok (.bool false) w:=fun _ _ _=>rfl
  have B1:Bx (0+n'<=maxLen):=⟨by unfold maxLen;omega⟩
  have B2:Bx ((0+n')*56<=140737488355328):=⟨by omega⟩
  clear ok h hb hB hl h1
  go_enter Tryz.func78,Tryz.ntmps78
  go_wp2_with (at_builtin;(with_reducible refine Aae HM.o ArU (s:=.tmp 5) (x:=.tmp 6) ROW.o (fun h=>by cases h) OneN.o B1.o B2.o rfl rfl rfl rfl ?_);intro A' c' w' M';have M:=bx M';clear M')
  go_ret
  have M1:=M.o
  rw[Nat.zero_add,List.nil_append]at M1
  obtain⟨Γ',h1,h2,h3,h4⟩:=M1.frz
  exact⟨⟨A',n',c'⟩,Γ',rfl,⟨rfl,h1,h2⟩,h4.ext⟩
theorem Ana:ZeroT Tryz.prog 113 (atP ⟨u0,r0,⟨u0,r0⟩,[]⟩ sl0) [1,32,1,32,1]:=⟨fun w=>by kernel_rfl,AbB _ _⟩
theorem ArF:ZeroT Tryz.prog 35 [[.slice none 0 0],[.slice none 0 0]] [1,1]:=⟨fun w=>by kernel_rfl,rfl⟩
theorem AlP(Γ:Gam)(a:Att)(x:Sl)(hb:a.l.length<=4096)(w:World)(ok:Ok Γ w)(h:AtG Γ a x) :
  Calls Tryz.prog 115 #[.agg (fl (atP a x)).toArray] w fun e w'=>∃(y:Sl) (Γ':Gam),e=.returned (.agg (fl (atP a y)).toArray)/\AtG Γ' a y/\Ext Γ w Γ' w':=by
 have M:=bx (MM.start ok)
 have CI:=bx (fun w ok=>Am6 Γ x a.l.length (ints .i64 a.l) (by rw[ints_len,Nat.mul_one]) (one_ints .i64 a.l) hb w ok h)
 clear ok h hb
 go_enter Tryz.func115,Tryz.ntmps115
 go_wp2_with (first|((first|refine zBXd ?_|refine zALd (Ana) ?_);clear M;intro w' g M)|refine zLAd ?_)
 refine(CI.o _ M.ok).mono ?_
 rintro e1 w1 ⟨y,Γ1,rfl,hy,hx⟩
 replace M:=bx (M.o.call hx)
 go_wp2_with (first|((first|refine zS1d M 1 y.v (atP a y) ?_|refine zSSd M 0 (atP a y) (atP a y) (AbB _ _) (Adl _ _) ?_);clear M;intro w' M)|refine zLAd ?_)
 (try refine zsm ?_);refine bodyPost_ret (AbK rfl _ M.o.at0 rfl rtAt rfl) rfl ?_
 exact⟨y,Γ1,rfl,hy,M.o.ext⟩
theorem AhV(Γ:Gam)(x1 x2:Sl)(l:List Vo)(q:List Int)(hb1:l.length<=4096)(hb2:q.length<=4096)(w:World)(ok:Ok Γ w)(h1:SlR Γ x1 l.length (l.flatMap vox))(h2:SlR Γ x2 q.length (ints .i64 q)) :
  Calls Tryz.prog 113 #[.agg (fl [[x1.v],[x2.v]]).toArray] w fun e w'=>∃(y1 y2:Sl) (Γ':Gam),e=.returned (.agg (fl [[y1.v],[y2.v]]).toArray)/\SlR Γ' y1 l.length (l.flatMap vox)/\SlR Γ' y2 q.length (ints .i64 q)/\Ext Γ w Γ' w':=by
 have M:=bx (MM.start ok)
 have CV:=bx (fun w ok=>Apz Γ x1 l.length (l.flatMap vox) (Aah l (fun x _=>AcX x)) (AbM fun x _=>AfO x) hb1 w ok h1)
 have CI:=bx (fun Γ' (hl:Le Γ Γ') w ok=>Am6 Γ' x2 q.length (ints .i64 q) (by rw[ints_len,Nat.mul_one]) (one_ints .i64 q) hb2 w ok (h2.mono hl))
 have hl:([[x1.v],[x2.v]]:List (List Value)).map List.length = [1,1]:=rfl
 clear ok h1 h2 hb1 hb2
 go_enter Tryz.func113,Tryz.ntmps113
 go_wp2_with (first|((first|refine zBYd (hl) ?_|refine zALd (ArF) ?_);clear M;intro w' g M)|refine zLAd ?_)
 refine AaB [7] (.steps [(1,0),(0,1),(1,3),(0,4),(2,2),(2,5),(1,6),(3,7)] .leaf) (by kernel_rfl) (by kernel_rfl) ?_;(simp only[MixT6,MT.steps,stepAt,List.getD_cons_zero,List.getD_cons_succ]);replace M:=bx (M.o.drew)
 refine zNM ?_
 refine zMRd ?_
 (refine zMC (CV.o _ M.ok) Tryz.func144 ?_;rintro e5 w5 ⟨y1,Γ1,rfl,hy,hx⟩;refine⟨_,rfl,hx.bel,?_⟩;replace M:=bx (M.o.call hx);refine zNM ?_;refine zMRd ?_)
 have HY1:=bx hy
 have L1:=bx hx.le
 clear hy hx CV
 (refine zMC (CI.o _ L1.o _ M.ok) Tryz.func145 ?_;rintro e5 w5 ⟨y2,Γ2,rfl,hy,hx⟩;refine⟨_,rfl,hx.bel,?_⟩;replace M:=bx (M.o.call hx);refine zNM ?_;refine zMRd ?_)
 have HY2:=bx hy
 have HY3:=bx (HY1.o.mono hx.le)
 clear hy hx CI HY1
 refine Aam M.o 0 [[y1.v],[y2.v]] [[y1.v],[y2.v]] rfl rfl rfl rfl Ai3 rfl rfl (One.cons (One.v rfl) (One.v rfl)) rfl rfl ?_
 intro w7 M'
 (simp only[List.set_cons_zero,List.set_cons_succ]at M')
 (replace M:=bx M';clear M')
 refine zNM ?_
 refine NoPanic.normal ?_
 go_wp2_with fail
 (try refine zsm ?_);refine bodyPost_ret (AbK rfl _ M.o.at0 rfl Ai3 rfl) rfl ?_
 exact⟨y1,y2,Γ2,rfl,HY3.o,HY2.o,M.o.ext⟩
end
end
section
open Go.RowKit Old
theorem Akm{N:List Nod}(h:Lk (upsN N)):∀{b:Nat},b<N.length->ancI N ((0:Nat):Int) (b:Int)=true:=by
 intro b
 induction b using Nat.strongRecOn with
 |_ b ih=>
  intro hb
  rcases Ady h hb with⟨h1,h2⟩|⟨v,h1,h2⟩
  .subst h1;exact Aed h hb
  .exact(Ack h hb h2).2 (.inr (ih v h1 (by omega)))
theorem Aoz{s:Sto}(t:TI s.nodes):∀(f i:Nat) (hi:i<s.nodes.length),s.nodes.length<=i+f->s.nodes[i].st=2->s.lv i=false
 |0,i,hi,hf,_=>absurd hi (by omega)
 |f+1,i,hi,hf,h2=>by
  rw[Aqk (AcJ t.lk) i hi,Bool.or_eq_false_iff]
  refine⟨?_,?_⟩
  .unfold Sto.qual
   rw[Al5 hi]
   exact AfZ h2
  .rw[List.any_eq_false]
   intro k hk
   obtain⟨hk1,hk2⟩:=Abz hk
   have hki:i<k:=by have:=AcJ t.lk k hk1;omega
   rw[Aoz t f k hk1 (by omega) (t.cl2 k i hk1 hi hk2 h2)]
   simp
theorem AmG{s:Sto}{i:Nat}(h:i<s.lives.length):s.lives[i]=s.lv i:=by simp[Sto.lives,Sto.lv]
theorem kAt:ElT Tryz.prog 40 113 67 104:=Abr Tryz.underlying40 (by kernel_rfl) (by decide) (by decide)
theorem AlN(Γ:Gam)(x:Sl)(T:List Att)(hb:T.length<=4096)(hl:∀a∈T,a.l.length<=4096)(w:World)(ok:Ok Γ w)(h:AtsG Γ x T) :
  Calls Tryz.prog 114 #[x.v,.func (.func 115) #[] #[]] w fun e w'=>∃(y:Sl) (Γ':Gam),e=.returned y.v/\AtsG Γ' y T/\Ext Γ w Γ' w':=by
 have M:=bx (MM.start ok)
 obtain⟨X,hX,hg,hr⟩:=h
 have XL:T.length=X.length:=by rw[<-hX,List.length_map]
 obtain⟨A,n,c⟩:=x
 obtain rfl:n=T.length:=hr.n
 have HR:Bx (SlR Γ ⟨A,X.length,c⟩ X.length (X.flatMap atx)):=⟨by rw[<-XL];exact hr⟩
 have HG:=bx hg
 have HX:=bx hX
 have HL:=bx hl
 rw[XL]
 have hnb:X.length<=4096:=by omega
 clear ok hr hg hl hb hX XL
 obtain⟨nn,hnn⟩:∃n,X.length=n:=⟨_,rfl⟩
 have HN:=bx hnn
 rw[hnn]at hnb |-
 clear hnn
 change Calls Tryz.prog _ #[.slice A nn c,_] _ _
 go_enter Tryz.func114,Tryz.ntmps114
 (go_wp2_with (first|go_skip|((first|refine zBXd ?_|refine zALd (Ana) ?_);clear M;intro w' g M)|fail|refine zLAd ?_))
 go_loopw [5,10] (fun l j wr=>∃(k:Nat) (A1:Option Addr) (c1:Nat) (Z:List (Att × Sl)) (Γk:Gam),k<=nn/\j=.int .i64 (k:Int)/\l=.slice A1 k c1/\Z.map Prod.fst=T.take k/\(∀a∈Z,AtG Γk a.1 a.2)/\Le Γ Γk/\MM Γ w Γk wr [] [⟨.slice A1 k c1,113,67,k,Z.flatMap atx⟩]) (fun _ j _=>nn-(intOf j).toNat)
 case atStart=>exact⟨0,none,0,[],Γ,Nat.zero_le _,rfl,rfl,by simp,fun a h=>absurd h (by simp),Le.refl _,M.o.row0 _ _⟩
 case round=>
  obtain⟨k,A1,c1,Z,Γk,hk,rfl,rfl,hZ,hZg,hle,hM⟩:=hrel
  clear M
  have M:=bx hM
  have LE:=bx hle
  have ZG:=bx hZg
  have ZM:=bx hZ
  clear hM hle hZ hZg
  by_cases hkn:k<nn
  .have hkl:k<X.length:=by rw[HN.o];exact hkn
   have hki:(k:Int)<(nn:Int):=by omega
   have hk0:0<=(k:Int):=by omega
   obtain⟨gt,hA,hf⟩:=SlR.fz (f:=fun a:Att × Sl=>atP a.1 a.2) (k:=67) (HR.o.mono LE.o) (fun a=>AbB a.1 a.2) rfl k hkl
   obtain rfl:A=some ⟨gt,0,none⟩:=by injection hA
   have F1:=bx hf
   have hm:X[k]∈X:=List.getElem_mem hkl
   have hT:k<T.length:=by rw[<-HX.o,List.length_map];exact hkl
   have hTk:X[k].1=T[k]:=by simp[<-HX.o]
   have CA:=bx (AlP Γk X[k].1 X[k].2 (HL.o _ (by rw[hTk];exact List.getElem_mem hT)) · · ((HG.o _ hm).mono LE.o))
   have HKN:=bx hkn
   have NXT:Bx (T.take (k+1)=T.take k ++ [X[k].1]):=⟨by rw[hTk];exact List.take_succ_eq_append_getElem hT⟩
   clear hf hm hT hTk
   generalize X[k]=y at *
   (go_wp2_with (first|go_skip|((first|refine zBXd ?_|refine zALd (Ana) ?_);clear M;intro w' g M)|refine zRFd F1 ?_|(refine zSSd M 0 (atP y.1 y.2) (atP y.1 y.2) (AbB _ _) (Adl _ _) ?_;clear M;intro w' M)|refine zLAd ?_))
   refine(CA.o _ M.ok).mono ?_
   rintro e1 w1 ⟨y2,Γ2,rfl,hy,hx⟩
   replace M:=bx (M.o.call hx)
   have L2:=bx (LE.o.trans hx.le)
   have ZG2:=bx (fun a (ha:a∈Z)=>(ZG.o a ha).mono hx.le)
   have YG:=bx hy
   clear hy hx CA ZG LE
   go_wp2_with (first|go_skip|((with_reducible apply AbP M.o (kAt) (P:=atP y.1 y2) (ls:=[1,32,1,32,1]));rfl;rfl;rfl;rfl;exact AbB _ _;rfl;intro w' g M' hb';(replace M:=bx M';clear M');clear hb';refine zNM ?_)|(at_builtin;(with_reducible apply AaU M.o kAt);rfl;exact Adl _ _;(unfold maxLen;omega);omega;rfl;rfl;rfl;rfl;intro A' c' w' M';(replace M:=bx M';clear M'))|refine zLAd ?_)
   go_roundw
   case rel=>
    refine⟨k+1,A',c',Z ++ [(y.1,y2)],Γ2,by omega,by go_num,rfl,?_,?_,L2.o,?_⟩
    .rw[List.map_append,ZM.o,NXT.o];rfl
    .intro a ha
     rcases List.mem_append.1 ha with ha|ha
     .exact ZG2.o a ha
     .obtain rfl:a=(y.1,y2):=by simpa using ha
      exact YG.o
    .rw[List.flatMap_append]
     have M1:=M.o
     simp only[List.flatMap_cons,List.flatMap_nil,List.append_nil]
     exact M1.tail
   case measure=>have:=HKN.o;simp[intOf];omega
  .obtain rfl:k=nn:=by omega
   (go_wp2_with (first|go_skip|((first|refine zBXd ?_|refine zALd (Ana) ?_);clear M;intro w' g M)|fail|refine zLAd ?_))
   go_ret
   obtain⟨Γ',h1,h2,h3,h4⟩:=M.o.frz
   have hT:T.length=k:=by rw[<-HX.o,List.length_map];exact HN.o
   refine⟨⟨A1,k,c1⟩,Γ',rfl,⟨Z,?_,fun a ha=>(ZG.o a ha).mono h3,?_⟩,h4.ext⟩
   .rw[ZM.o,<-hT,List.take_length]
   .rw[hT];exact⟨rfl,h1,h2⟩
theorem kTb:ElT Tryz.prog 47 119 34 64:=Abr Tryz.underlying47 (by kernel_rfl) (by decide) (by decide)
theorem AlO(Γ:Gam)(t:Tbl)(s:Value)(hb:t.b.length<=4096)(w:World)(ok:Ok Γ w)(h:TbG Γ (t.c,s) t) :
  Calls Tryz.prog 147 #[.agg (fl (tbP t.c s)).toArray] w fun e w'=>∃(s2:Value) (Γ':Gam),e=.returned (.agg (fl (tbP t.c s2)).toArray)/\TbG Γ' (t.c,s2) t/\Ext Γ w Γ' w':=by
 have M:=bx (MM.start ok)
 obtain⟨A,k,hs,hcap,hsl⟩:=h.s
 simp only at hs
 subst hs
 have CI:=bx (fun w ok=>Am4 Γ ⟨A,t.b.length,k⟩ t.b.length (us t.b) (by rw[AcY,Nat.mul_one]) (Alg t.b) hb w ok ⟨rfl,hcap,hsl⟩)
 clear ok h hb hcap hsl
 go_enter Tryz.func147,Tryz.ntmps147
 go_wp2_with (first|((first|refine zBXd ?_|refine zALd (ztTb) ?_);clear M;intro w' g M)|refine zLAd ?_)
 refine(CI.o _ M.ok).mono ?_
 rintro e1 w1 ⟨y,Γ1,rfl,hy,hx⟩
 replace M:=bx (M.o.call hx)
 obtain⟨A2,n2,k2⟩:=y
 obtain rfl:n2=t.b.length:=hy.n
 go_wp2_with (first|((first|refine zS1d M 1 (.slice A2 t.b.length k2) (tbP t.c (.slice A2 t.b.length k2)) ?_|refine zSSd M 0 (tbP t.c (.slice A2 t.b.length k2)) (tbP t.c (.slice A2 t.b.length k2)) (AaS _ _) (Aeo _ _ _ _) ?_);clear M;intro w' M)|refine zLAd ?_)
 (try refine zsm ?_);refine bodyPost_ret (AbK rfl _ M.o.at0 rfl rtTb rfl) rfl ?_
 exact⟨_,Γ1,rfl,⟨rfl,_,_,rfl,hy.cap,hy.sl⟩,M.o.ext⟩
theorem AlM(Γ:Gam)(x:Sl)(T:List Tbl)(hb:T.length<=4096)(hl:∀t∈T,t.b.length<=4096)(w:World)(ok:Ok Γ w)(h:TabsG Γ x T) :
  Calls Tryz.prog 146 #[x.v,.func (.func 147) #[] #[]] w fun e w'=>∃(y:Sl) (Γ':Gam),e=.returned y.v/\y.n=T.length/\TabsG Γ' y T/\Ext Γ w Γ' w':=by
 have M:=bx (MM.start ok)
 obtain⟨A,n,c⟩:=x
 have HT:Bx (TsG Γ A n T):=⟨h.2⟩
 have HN:Bx (T.length=n):=⟨h.2.1⟩
 have HL:=bx hl
 have hnb:n<=4096:=by rw[<-HN.o];exact hb
 clear ok h hl hb
 change Calls Tryz.prog _ #[.slice A n c,_] _ _
 go_enter Tryz.func146,Tryz.ntmps146
 (go_wp2_with (first|go_skip|((first|refine zBXd ?_|refine zALd (ztTb) ?_);clear M;intro w' g M)|fail|refine zLAd ?_))
 go_loopw [5,10] (fun l j wr=>∃(k:Nat) (A1:Option Addr) (c1:Nat) (Z:List (Cp × Value)) (Γk:Gam),k<=n/\j=.int .i64 (k:Int)/\l=.slice A1 k c1/\All2 (TbG Γk) Z (T.take k)/\Le Γ Γk/\MM Γ w Γk wr [] [⟨.slice A1 k c1,119,34,k,Z.flatMap fun x=>fl (tbP x.1 x.2)⟩]) (fun _ j _=>n-(intOf j).toNat)
 case atStart=>exact⟨0,none,0,[],Γ,Nat.zero_le _,rfl,rfl,All2.nil,Le.refl _,M.o.row0 _ _⟩
 case round=>
  obtain⟨k,A1,c1,Z,Γk,hk,rfl,rfl,hZ,hle,hM⟩:=hrel
  clear M
  have M:=bx hM
  have LE:=bx hle
  have ZG:=bx hZ
  clear hM hle hZ
  by_cases hkn:k<n
  .have hkl:k<T.length:=by rw[HN.o];exact hkn
   have hki:(k:Int)<(n:Int):=by omega
   have hk0:0<=(k:Int):=by omega
   obtain⟨gt,s,rfl,hst,hc⟩:=(HT.o.mono LE.o).at k hkn
   obtain⟨Ab,kb,hs,hcap,hsl⟩:=hst.s
   simp only at hs
   subst hs
   have F1:Bx (Fz Γk gt (k*34) (tbP T[k].c (.slice Ab T[k].b.length kb)) [1,32,1]):=⟨hc,AaS _ _⟩
   have CA:=bx (fun w ok=>AlO Γk T[k] (.slice Ab T[k].b.length kb) (HL.o _ (List.getElem_mem hkl)) w ok hst)
   have HKN:=bx hkn
   have NXT:Bx (T.take (k+1)=T.take k ++ [T[k]]):=⟨List.take_succ_eq_append_getElem hkl⟩
   clear hc hst hcap hsl
   generalize T[k]=t at *
   (go_wp2_with (first|go_skip|((first|refine zBXd ?_|refine zALd (ztTb) ?_);clear M;intro w' g M)|refine zRFd F1 ?_|(refine zSSd M 0 (tbP t.c (.slice Ab t.b.length kb)) (tbP t.c (.slice Ab t.b.length kb)) (AaS _ _) (Aeo _ _ _ _) ?_;clear M;intro w' M)|refine zLAd ?_))
   refine(CA.o _ M.ok).mono ?_
   rintro e1 w1 ⟨s2,Γ2,rfl,hy,hx⟩
   replace M:=bx (M.o.call hx)
   have L2:=bx (LE.o.trans hx.le)
   have ZG2:=bx (ZG.o.imp (fun _ _ h=>h.mono hx.le))
   have YG:=bx hy
   clear hy hx CA ZG LE
   go_wp2_with (first|go_skip|((with_reducible apply AbP M.o (kTb) (P:=tbP t.c s2) (ls:=[1,32,1]));rfl;rfl;rfl;rfl;exact AaS _ _;rfl;intro w' g M' hb';(replace M:=bx M';clear M');clear hb';refine zNM ?_)|(at_builtin;(with_reducible apply AaU M.o kTb);rfl;exact AfR YG.o;(unfold maxLen;omega);omega;rfl;rfl;rfl;rfl;intro A' c' w' M';(replace M:=bx M';clear M'))|refine zLAd ?_)
   go_roundw
   case rel=>
    refine⟨k+1,A',c',Z ++ [(t.c,s2)],Γ2,by omega,by go_num,rfl,?_,L2.o,?_⟩
    .rw[NXT.o];exact ZG2.o.app (All2.one YG.o)
    .rw[List.flatMap_append]
     have M1:=M.o
     simp only[List.flatMap_cons,List.flatMap_nil,List.append_nil]
     exact M1.tail
   case measure=>have:=HKN.o;simp[intOf];omega
  .obtain rfl:k=n:=by omega
   (go_wp2_with (first|go_skip|((first|refine zBXd ?_|refine zALd (ztTb) ?_);clear M;intro w' g M)|fail|refine zLAd ?_))
   go_ret
   obtain⟨Γ',h1,h2,h3,h4⟩:=M.o.frz
   have ZG':=ZG.o
   rw[List.take_of_length_le (Nat.le_of_eq HN.o)]at ZG'
   exact⟨⟨A1,k,c1⟩,Γ',rfl,HN.o.symm,⟨h1,HN.o,Z,ZG'.imp (fun _ _ h=>h.mono h3),h2⟩,h4.ext⟩
theorem AgO(Γ:Gam)(x:Sl)(T:List Tbl)(hb:T.length<=4096)(hl:∀t∈T,t.b.length<=4096)(w:World)(ok:Ok Γ w)(h:TabsG Γ x T) :
  Calls Tryz.prog 117 #[x.v] w fun e w'=>∃(y:Sl) (Γ':Gam),e=.returned y.v/\TabsG Γ' y T/\Ext Γ w Γ' w':=by
 have M:=bx (MM.start ok)
 have EA:=bx (fun w ok=>AlM Γ x T hb hl w ok h)
 clear ok h hb hl
 go_enter Tryz.func117,Tryz.ntmps117
 go_wp2_with fail
 refine(EA.o _ M.ok).mono ?_
 rintro e1 w1 ⟨y,Γ1,rfl,_,hy,hx⟩
 replace M:=bx (M.o.call hx)
 go_wp2_with fail
 go_ret
 exact⟨y,Γ1,rfl,hy,M.o.ext⟩
theorem AhW(Γ:Gam)(x:Sl)(N:List Nod)(hb:N.length<=4096)(w:World)(ok:Ok Γ w)(h:NG Γ x N) :
  Calls Tryz.prog 60 #[.agg (fl [[x.v]]).toArray] w (fun e w'=>∃y Γ',e=.returned (.agg (fl [[y.v]]).toArray)/\NG Γ' y N/\Ext Γ w Γ' w'):=by
 have M:=bx (MM.start ok)
 have CN:=bx (fun w ok=>Ap0 Γ x N.length (N.flatMap nox) (Aah N (fun x _=>AbH x)) (AbM fun x _=>AbX x) hb w ok h)
 clear ok h hb
 go_enter Tryz.func60,Tryz.ntmps60
 go_wp2_with (first|((first|refine zBXd ?_|refine zALd (Aa1) ?_);clear M;intro w' g M)|refine zLAd ?_)
 (refine(CN.o _ M.ok).mono ?_;rintro e1 w1 ⟨y,Γ1,rfl,hy,hx⟩;replace M:=bx (M.o.call hx))
 obtain⟨A,n,c⟩:=y
 go_wp2_with (first|refine zBDd 46 [(0,.slice A n c)] [.slice A n c] (by kernel_rfl) ?_|(refine zSSd M 0 [[.slice A n c]] [[.slice A n c]] (by rfl) (Aak _ _ _) ?_;clear M;intro w' M))
 (try refine zsm ?_);refine bodyPost_ret (AbK rfl _ M.o.at0 rfl Aap rfl) rfl ?_
 exact⟨⟨A,n,c⟩,Γ1,rfl,hy,M.o.ext⟩
structure SzK(s:Sto):Prop where
 bal:s.bal.length<=4096
 lat:s.lat.length<=4096
 eqv:s.eqv.length<=4096
 early:s.early.length<=4096
 att:∀a∈s.early,a.l.length<=4096
 orph:s.orph.length<=4096
 nodes:s.nodes.length<=4096
 tabs:s.tabs.length<=4096
 tbs:∀t∈s.tabs,t.b.length<=4096
theorem AhX(Γ:Gam)(s:Sto)(v:Sls)(hz:SzK s)(w:World)(ok:Ok Γ w)(h:StG Γ v s) :
  Calls Tryz.prog 77 #[.agg (fl (stP s v)).toArray] w fun e w'=>∃(y:Sls) (Γ':Gam),e=.returned (.agg (fl (stP s y)).toArray)/\StG Γ' y s/\Ext Γ w Γ' w':=by
 have M:=bx (MM.start ok)
 have C1:=bx (fun Γ' (hl:Le Γ Γ') w ok=>Am4 Γ' v.bal s.bal.length (us s.bal) (by rw[AcY,Nat.mul_one]) (Alg _) hz.bal w ok (h.bal.mono hl))
 have C2:=bx (fun Γ' (hl:Le Γ Γ') w ok=>AhV Γ' v.lat v.eqv s.lat s.eqv hz.lat hz.eqv w ok (h.lat.mono hl) (h.eqv.mono hl))
 have C3:=bx (fun Γ' (hl:Le Γ Γ') w ok=>AlN Γ' v.early s.early hz.early hz.att w ok (h.early.mono hl))
 have C4:=bx (fun Γ' (hl:Le Γ Γ') w ok=>Ap1 Γ' v.orph s.orph.length (s.orph.flatMap blx) (Aah s.orph (fun x _=>Aea x)) (AbM fun x _=>Acf x) hz.orph w ok (h.orph.mono hl))
 have C5:=bx (fun Γ' (hl:Le Γ Γ') w ok=>AhW Γ' v.nodes s.nodes hz.nodes w ok (h.nodes.mono hl))
 have C6:=bx (fun Γ' (hl:Le Γ Γ') w ok=>AgO Γ' v.tabs s.tabs hz.tabs hz.tbs w ok (h.tabs.mono hl))
 clear ok h hz
 go_enter Tryz.func77,Tryz.ntmps77
 go_wp2_with (first|((first|refine zBXd ?_|refine zALd (ztSt) ?_);clear M;intro w' g M)|refine zLAd ?_)
 refine(C1.o _ (Le.refl _) _ M.ok).mono ?_
 rintro e1 w1 ⟨y1,Γ1,rfl,hy1,hx1⟩
 replace M:=bx (M.o.call hx1)
 have L1:=hx1.le
 go_wp2_with (first|(refine zS1d M 1 y1.v (stP s {v with bal:=y1}) ?_;clear M;intro w' M)|refine zLAd ?_)
 refine(C2.o _ L1 _ M.ok).mono ?_
 rintro e1 w1 ⟨y2,y3,Γ2,rfl,hy2,hy3,hx2⟩
 replace M:=bx (M.o.call hx2)
 have L2:=L1.trans hx2.le
 go_wp2_with (first|(refine zSSd M 1 [[y2.v],[y3.v]] (stP s {v with bal:=y1,lat:=y2,eqv:=y3}) (by rfl) (One.cons (One.v rfl) (One.v rfl)) ?_;clear M;intro w' M)|refine zLAd ?_)
 refine(C3.o _ L2 _ M.ok).mono ?_
 rintro e1 w1 ⟨y4,Γ3,rfl,hy4,hx3⟩
 replace M:=bx (M.o.call hx3)
 have L3:=L2.trans hx3.le
 go_wp2_with (first|(refine zS1d M 1 y4.v (stP s {v with bal:=y1,lat:=y2,eqv:=y3,early:=y4}) ?_;clear M;intro w' M)|refine zLAd ?_)
 refine(C4.o _ L3 _ M.ok).mono ?_
 rintro e1 w1 ⟨y5,Γ4,rfl,hy5,hx4⟩
 replace M:=bx (M.o.call hx4)
 have L4:=L3.trans hx4.le
 go_wp2_with (first|(refine zS1d M 1 y5.v (stP s {v with bal:=y1,lat:=y2,eqv:=y3,early:=y4,orph:=y5}) ?_;clear M;intro w' M)|refine zLAd ?_)
 refine(C5.o _ L4 _ M.ok).mono ?_
 rintro e1 w1 ⟨y6,Γ5,rfl,hy6,hx5⟩
 replace M:=bx (M.o.call hx5)
 have L5:=L4.trans hx5.le
 go_wp2_with (first|(refine zSSd M 1 [[y6.v]] (stP s {v with bal:=y1,lat:=y2,eqv:=y3,early:=y4,orph:=y5,nodes:=y6}) (by rfl) (One.v rfl) ?_;clear M;intro w' M)|refine zLAd ?_)
 refine(C6.o _ L5 _ M.ok).mono ?_
 rintro e1 w1 ⟨y7,Γ6,rfl,hy7,hx6⟩
 replace M:=bx (M.o.call hx6)
 have E:StG Γ6 ⟨y1,y2,y3,y4,y5,y6,y7⟩ s:=⟨hy1.mono (hx2.le.trans (hx3.le.trans (hx4.le.trans (hx5.le.trans hx6.le)))),hy2.mono (hx3.le.trans (hx4.le.trans (hx5.le.trans hx6.le))),hy3.mono (hx3.le.trans (hx4.le.trans (hx5.le.trans hx6.le))),hy4.mono (hx4.le.trans (hx5.le.trans hx6.le)),hy5.mono (hx5.le.trans hx6.le),hy6.mono hx6.le,hy7⟩
 have EB:=bx E
 clear E L1 L2 L3 L4 L5 hy1 hy2 hy3 hy4 hy5 hy6 hy7 hx1 hx2 hx3 hx4 hx5 hx6 C1 C2 C3 C4 C5 C6
 go_wp2_with (first|((first|refine zS1d M 1 y7.v (stP s ⟨y1,y2,y3,y4,y5,y6,y7⟩) ?_|refine zSSd M 0 (stP s ⟨y1,y2,y3,y4,y5,y6,y7⟩) (stP s ⟨y1,y2,y3,y4,y5,y6,y7⟩) (AaD _ _) (Aaa _ _) ?_);clear M;intro w' M)|refine zLAd ?_)
 (try refine zsm ?_);refine bodyPost_ret (AbK rfl _ M.o.at0 rfl rtSt rfl) rfl ?_
 exact⟨_,Γ6,rfl,EB.o,M.o.ext⟩
theorem AhY(Γ:Gam)(z:Zst)(x:Zls)(hz:SzK z.s)(h1:z.reqs.length<=4096)(h2:z.rets.length<=4096)(w:World)(ok:Ok Γ w)(h:ZsG Γ x z) :
  Calls Tryz.prog 42 #[.agg (fl (zsP z x)).toArray] w fun e w'=>∃(y:Zls) (Γ':Gam),e=.returned (.agg (fl (zsP z y)).toArray)/\ZsG Γ' y z/\Ext Γ w Γ' w':=by
 have M:=bx (MM.start ok)
 have C1:=bx (fun w ok=>AhX Γ z.s x.s hz w ok h.s)
 have C2:=bx (fun Γ' (hl:Le Γ Γ') w ok=>Am5 Γ' x.reqs z.reqs.length (z.reqs.flatMap rqx) (Aah z.reqs (fun x _=>AbC x)) (AbM fun x _=>AbF x) h1 w ok (h.reqs.mono hl))
 have C3:=bx (fun Γ' (hl:Le Γ Γ') w ok=>Am5 Γ' x.rets z.rets.length (z.rets.flatMap rqx) (Aah z.rets (fun x _=>AbC x)) (AbM fun x _=>AbF x) h2 w ok (h.rets.mono hl))
 clear ok h hz h1 h2
 go_enter Tryz.func42,Tryz.ntmps42
 go_wp2_with (first|((first|refine zBXd ?_|refine zALd (ztZs) ?_);clear M;intro w' g M)|refine zLAd ?_)
 refine(C1.o _ M.ok).mono ?_
 rintro e1 w1 ⟨y1,Γ1,rfl,hy1,hx1⟩
 replace M:=bx (M.o.call hx1)
 have L1:=hx1.le
 go_wp2_with (first|(refine zSSd M 1 (stP z.s y1) (zsP z {x with s:=y1}) (AaD _ _) (Aaa _ _) ?_;clear M;intro w' M)|refine zLAd ?_)
 refine(C2.o _ L1 _ M.ok).mono ?_
 rintro e1 w1 ⟨y2,Γ2,rfl,hy2,hx2⟩
 replace M:=bx (M.o.call hx2)
 have L2:=L1.trans hx2.le
 go_wp2_with (first|(refine zS1d M 1 y2.v (zsP z {x with s:=y1,reqs:=y2}) ?_;clear M;intro w' M)|refine zLAd ?_)
 refine(C3.o _ L2 _ M.ok).mono ?_
 rintro e1 w1 ⟨y3,Γ3,rfl,hy3,hx3⟩
 replace M:=bx (M.o.call hx3)
 have E:ZsG Γ3 ⟨y1,y2,y3⟩ z:=⟨hy1.mono (hx2.le.trans hx3.le),hy2.mono hx3.le,hy3⟩
 have EB:=bx E
 clear E L1 L2 hy1 hy2 hy3 hx1 hx2 hx3 C1 C2 C3
 go_wp2_with (first|((first|refine zS1d M 1 y3.v (zsP z ⟨y1,y2,y3⟩) ?_|refine zSSd M 0 (zsP z ⟨y1,y2,y3⟩) (zsP z ⟨y1,y2,y3⟩) (AaH _ _) (AaP _ _) ?_);clear M;intro w' M)|refine zLAd ?_)
 (try refine zsm ?_);refine bodyPost_ret (AbK rfl _ M.o.at0 rfl rtZs rfl) rfl ?_
 exact⟨_,Γ3,rfl,EB.o,M.o.ext⟩
section
variable {N:List Nod}{W:List U}{L:List Bool}
theorem Stp.inv{j i:Int}(h:Stp N W L j i):i=j\/∃u,Stp N W L j u/\bestI N W L u=i/\0<=i:=by
 obtain⟨f,h⟩:=h
 induction f generalizing i with
 |zero=>exact .inl h.symm
 |succ f ih=>
  rw[AcL]at h
  split at h
  .exact ih h
  .rename_i hn
   exact .inr ⟨_,⟨f,rfl⟩,h,by omega⟩
end
theorem Aol{N:List Nod}{W:List U}{L:List Bool}{u k:Nat}(h:bestI N W L (u:Int)=(k:Int)):∃hk:k<N.length,N[k].up=(u:Int):=Adb (AdO h).1
section
variable {s:Sto}
theorem AkD{j:Nat}(e:fndI s.nodes s.just.r=(j:Int)):Stp s.nodes s.wts s.lives (j:Int) s.head:=⟨s.nodes.length,by unfold Sto.head;rw[e]⟩
theorem AqQ(t:TI s.nodes){j:Nat}(hj:j<s.nodes.length)(h2:s.nodes[j].st≠2){m:Nat}(hm:m<s.nodes.length)(h:Stp s.nodes s.wts s.lives (j:Int) (m:Int)):s.nodes[m].st≠2:=by
 rcases h.inv with e|⟨u,_,hb,_⟩
 .obtain rfl:m=j:=by omega
  exact h2
 .have hl:=(AdO hb).2.1
  intro h3
  have h4:=Aoz t s.nodes.length m hm (by omega) h3
  have hml:m<s.lives.length:=by simpa [Sto.lives]using hm
  rw[List.getD,List.getElem?_eq_getElem hml,Option.getD_some,AmG hml,h4]at hl
  cases hl
end
open Go.RowKit Old
theorem Ahj(Γ:Gam)(s:Sto)(v:Sls)(k:Nat)(hs:SI k s)(hk:k<=40)(w:World)(ok:Ok Γ w)(h:StG Γ v s) :
  Calls Tryz.prog 81 #[.agg (fl (stP s v)).toArray] w (WtvP Γ w s):=by
 have M:=bx (MM.start ok)
 have hw:=hs.wok hk
 have nx:=h.nodes.n
 have DI:=bx (fun w ok=>AfQ Γ s v k hs hk w ok h)
 have DL:=bx (Ao9 hw.sm)
 have SU:Bx (∀(A:Option Addr) (c:Nat) w,Ok Γ w->Old.U64 s.db->Old.URow w A s.nodes.length s.db->Calls Tryz.prog 28 #[.agg #[v.nodes.v],.slice A s.nodes.length c] w (Old.UN s.nodes.length (subL (upsN s.nodes) s.nodes.length s.db) w)):=⟨fun A c w ok hd hr=>by
  have a1:=NG.nrow (x:=v.nodes) h.nodes ok
  rw[nx]at a1
  rw[show v.nodes.v=.slice v.nodes.A s.nodes.length v.nodes.c by rw[<-nx]]
  have:=Aeq v.nodes.A A s.nodes.length v.nodes.c c (s.nodes.map toNd) s.db hd (by rw[Abx];exact hw.lk) hw.nb hw.pos w a1 hr
  rw[Abx,Aln hw.lk (by rw[AcE]) hw.pos hd DL.o]at this
  exact this⟩
 have WL:=bx (Alb s)
 have NP:=bx hw.pos
 rw[show WtvP Γ w s=fun e w'=>∃(A:Option Addr) (c:Nat) (Γ':Gam),e=.returned (.slice A s.nodes.length c)/\CapOk A s.nodes.length c/\SlG Γ' A s.nodes.length (us s.wts)/\Ext Γ w Γ' w' from rfl,WL.o]
 clear ok h hs hw hk nx DL WL
 generalize s.db=db at *
 generalize subL (upsN s.nodes) s.nodes.length db=xs at *
 go_enter Tryz.func81,Tryz.ntmps81
 (go_wp2_with (refine zBXd ?_;clear M;intro w' g M))
 refine AaB [] (.steps [(1,0),(0,1),(0,2),(2,3),(2,4),(1,5)] .leaf) (by kernel_rfl) (by kernel_rfl) ?_;(simp only[MixT6,MT.steps,stepAt,List.getD_cons_zero,List.getD_cons_succ]);replace M:=bx (M.o.drew)
 refine zNM ?_
 refine zMRd ?_
 refine zMC (DI.o _ M.ok) Tryz.func27 ?_
 rintro e5 w5 ⟨A5,c5,rfl,hu5,hr5,hx5⟩
 refine⟨_,rfl,hx5,?_⟩
 replace M:=bx (M.o.below hx5)
 have HU5:=bx hu5
 have HR5:=bx hr5
 clear hu5 hr5 hx5 DI
 refine zNM ?_
 refine zMRd ?_
 refine zMC (SU.o A5 c5 _ M.ok HU5.o HR5.o) Tryz.func28 ?_
 rintro e6 w6 ⟨g6,c6,rfl,hu6,hl6,hg6,hc6,⟨post,hh⟩,hx6⟩
 refine⟨_,rfl,hx6,?_⟩
 replace M:=bx (M.o.newRow hx6 hg6 (P:=[ints .u64 xs,post]) (ls:=[(ints .u64 xs).length,post.length]) (by simpa [fl]using hh) rfl)
 have HU6:=bx hu6
 have HC6:=bx hc6
 clear hu6 hl6 hg6 hc6 hh hx6 SU
 refine zNM ?_
 refine zMRd ?_
 refine NoPanic.normal ?_
 (go_wp2_with (fail))
 go_ret
 obtain⟨Γ',h1,h2,h3⟩:=M.o.frzL
 refine⟨some ⟨g6,0,none⟩,c6,Γ',rfl,⟨HC6.o.1,HC6.o.2,fun h=>by cases h⟩,fun _=>⟨g6,post,rfl,?_⟩,h3.ext⟩
 rw[Alf HU6.o]
 simpa [fl]using h1
theorem nis_nil{Γ:Gam}{w w':World}(hx:Ext Γ w Γ w'):NisP Γ w [] (.returned (.slice none 0 0)) w':=
 ⟨none,0,Γ,rfl,⟨Nat.le_refl _,Nat.zero_le _,fun _=>rfl⟩,fun h=>absurd h (Nat.lt_irrefl _),hx⟩
theorem kids_to{N:List Nod}(ha:Ahead N){i:Int}(h0:0<=i):kids N i=kidsTo N i N.length:=by
 unfold kids
 cases hi:isI i N.length with
 |true=>rfl
 |false=>
  rw[if_neg (by simp)]
  unfold kidsTo
  refine(List.filter_eq_nil_iff.2 fun k hk=>?_).symm
  have hk':k<N.length:=List.mem_range.1 hk
  rw[nget hk',decide_eq_true_eq]
  have:=ha k hk'
  have:=of_decide_eq_false hi
  omega
theorem vchildren_any(Γ:Gam)(x:Sl)(N:List Nod)(i:Int)(w:World)(ok:Ok Γ w)(h:NG Γ x N)(ha:Ahead N)(hb:N.length<=65535) :
  Calls Tryz.prog 118 #[.agg [x.v].toArray,.int .i64 i] w (NisP Γ w (kids N i)):=by
 have M:=bx (MM.start ok)
 have HN:=bx h
 have LN:=bx h.n
 have HB:=bx hb
 have hmx:=h.max
 by_cases hi0:i<0
 .have HK:Bx (kids N i = []):=⟨by unfold kids;rw[if_neg];intro h;have:=AcF h;omega⟩
  clear ok h hb ha
  change Calls Tryz.prog _ #[.agg (fl [[x.v]]).toArray,_] _ _
  go_enter Tryz.func118,Tryz.ntmps118
  (go_wp2_with (refine zBXd ?_;clear M;intro w' g M))
  go_ret
  rw[HK.o]
  exact nis_nil M.o.ext
 .have HK:=bx (kids_to ha (show 0<=i by omega))
  rw[HK.o]
  obtain⟨A,n,c⟩:=x
  have hnn:n=N.length:=LN.o
  subst hnn
  simp only at hmx
  clear ok h hb ha HK
  change Calls Tryz.prog _ #[.agg (fl [[.slice A N.length c]]).toArray,_] _ _
  go_enter Tryz.func118,Tryz.ntmps118
  (go_wp2_with (first|(refine zBXd ?_;clear M;intro w' g M)|refine zLAd ?_))
  obtain⟨nn,hnn⟩:∃n,N.length=n:=⟨_,rfl⟩
  rw[hnn]at M |-
  have HNN:=bx hnn
  rw[hnn]at HN hmx
  clear hnn
  go_loopw [5,13] (fun l j wr=>∃(k:Nat) (A1:Option Addr) (c1:Nat),k<=nn/\j=.int .i64 k/\l=.slice A1 (kidsTo N i k).length c1/\(kidsTo N i k).length<=k/\MM Γ w Γ wr [⟨g,[[.slice A nn c]],[1]⟩] [⟨.slice A1 (kidsTo N i k).length c1,3,1,(kidsTo N i k).length,nis (kidsTo N i k)⟩]) (fun _ j _=>nn-(intOf j).toNat)
  case atStart=>exact⟨0,none,0,Nat.zero_le _,rfl,rfl,Nat.le_refl 0,M.o.row0 _ _⟩
  case round=>
   obtain⟨k,A1,c1,hk,rfl,rfl,hlen,hM⟩:=hrel
   clear M
   have M:=bx hM
   clear hM
   by_cases hkn:k<nn
   .have hkl:k<N.length:=by rw[HNN.o];exact hkn
    have hki:(k:Int)<(nn:Int):=by omega
    have hk0:0<=(k:Int):=by omega
    have HNn:=HN.o
    rw[<-HNN.o]at HNn
    obtain⟨gt,hA,hf⟩:=SlR.fz (f:=noP) (k:=240) HNn AaK rfl k hkl
    have hAA:A=some ⟨gt,0,none⟩:=by injection hA
    subst hAA
    have F1:=bx hf
    have YES:=bx (AlE (i:=i) hkl)
    have NO:=bx (AmL (i:=i) hkl)
    have HKN:=bx hkn
    have hx5:(kidsTo N i k).length+1<=65536:=by have:=HB.o;have:=HNN.o;omega
    clear hA hf HNn
    generalize N[k]=y at *
    generalize kidsTo N i k=K at *
    by_cases he:y.up=i
    .subst he
     have YES':=bx (YES.o rfl)
     clear YES NO
     (go_wp2_with (first|(refine zALd (ztNo) ?_;clear M;intro w' g M)|refine zRFd F1 ?_|(refine zSSd M 0 (noP y) (noP y) (AaK _) (AbX _) ?_;clear M;intro w' M)|((with_reducible apply Aa7 M.o AbO);rfl;rfl;rfl;rfl;intro w' g M' hb';(replace M:=bx M';clear M');clear hb';refine zNM ?_)|(at_builtin;(with_reducible apply AaU M.o AbO);rfl;exact Abk _ _;(unfold maxLen;omega);omega;rfl;rfl;rfl;rfl;intro A' c' w' M';(replace M:=bx M';clear M'))|refine zLAd ?_))
     go_roundw
     case rel=>exact⟨k+1,A',c',by omega,by go_num,by rw[YES'.o,List.length_append];rfl,by rw[YES'.o,List.length_append];simp;omega,by rw[YES'.o,Anz,List.length_append];exact M.o.tail⟩
     case measure=>have:=HKN.o;simp[intOf];omega
    .have NO':=bx (NO.o he)
     have he':(y.up==i)=false:=by simpa using he
     clear YES NO
     (go_wp2_with (first|(refine zALd (ztNo) ?_;clear M;intro w' g M)|refine zRFd F1 ?_|(refine zSSd M 0 (noP y) (noP y) (AaK _) (AbX _) ?_;clear M;intro w' M)|refine zLAd ?_))
     go_roundw
     case rel=>exact⟨k+1,A1,c1,by omega,by go_num,by rw[NO'.o],by rw[NO'.o];omega,by rw[NO'.o];exact M.o.tail⟩
     case measure=>have:=HKN.o;simp[intOf];omega
   .obtain rfl:k=nn:=by omega
    (go_wp2_with (fail))
    go_ret
    obtain⟨Γ',h1,h2,h3,h4⟩:=M.o.frz
    unfold NisP
    rw[HNN.o]
    exact⟨A1,c1,Γ',rfl,h1,h2,h4.ext⟩
theorem vbest_any(Γ:Gam)(x:Sl)(N:List Nod)(A2 A3:Option Addr)(c2 c3:Nat)(W:List U)(L:List Bool)(i:Int)(ha:Ahead N)(hb:N.length<=65535)(hW:W.length=N.length)(hL:L.length=N.length)(w:World)(ok:Ok Γ w)(h:NG Γ x N)(h2:SlG Γ A2 N.length (us W))(h3:SlG Γ A3 N.length (bls L)) :
  Calls Tryz.prog 82 #[.agg [x.v].toArray,.slice A2 N.length c2,.slice A3 N.length c3,.int .i64 i] w fun e w'=>e=.returned (.int .i64 (bestI N W L i))/\Ext Γ w Γ w':=by
 have M:=bx (MM.start ok)
 have OK0:=bx ok
 have H3:Bx (SlG Γ A3 L.length (bls L)):=⟨by rw[hL];exact h3⟩
 have CH:=bx (fun w ok=>vchildren_any Γ x N i w ok h ha hb)
 have BT:=bx (fun(Γ':Gam) (hl:Le Γ Γ') (a b:Nat) (ha:a<N.length) (hb:b<N.length) w (ok:Ok Γ' w)=>Aix Γ' x N A2 c2 W a b hW ha hb w ok (h.mono hl) (h2.mono hl))
 have KM:Bx (∀k∈kids N i,k<N.length):=⟨fun k hk=>(Abz hk).1⟩
 have PT:Bx (∀q (hq:q<(kids N i).length),bestK N W L ((kids N i).take (q+1))=betB N W L (bestK N W L ((kids N i).take q)) (kids N i)[q]):=⟨fun q hq=>Abi (betB N W L) (-1) hq⟩
 have BC:Bx (∀q,bestK N W L ((kids N i).take q) = -1\/∃k:Nat,k<N.length/\bestK N W L ((kids N i).take q)=(k:Int)):=⟨fun q=>by
  rcases AgD N W L ((kids N i).take q)with h|⟨k,hk,h⟩
  .exact .inl h
  .exact .inr ⟨k,(Abz (List.mem_of_mem_take hk)).1,h⟩⟩
 have HR:Bx (bestI N W L i=bestK N W L ((kids N i).take (kids N i).length)):=⟨by unfold bestI;rw[List.take_of_length_le (Nat.le_refl _)]⟩
 have HLL:=bx hL
 have hkl:(kids N i).length<=65535:=Nat.le_trans (Aj7 N i) hb
 have HKL:=bx hkl
 clear ok h h2 h3 hb hW hL hkl ha
 rw[HR.o]
 generalize kids N i=K at *
 change Calls Tryz.prog _ #[.agg (fl [[x.v]]).toArray,_,_,_] _ _
 go_enter Tryz.func82,Tryz.ntmps82
 (go_wp2_with (first|(refine zBXd ?_;clear M;intro w' g M)|refine zLAd ?_))
 refine(CH.o _ M.ok).mono ?_
 rintro e1 w1 ⟨A1,c1,Γ1,rfl,hcap,hsl,hx⟩
 replace M:=bx (M.o.call hx)
 have HS:=bx hsl
 have L1:=bx hx.le
 clear hcap hsl hx CH HR
 (go_wp2_with (fail))
 go_loopw [9,16] (fun s9 jj wr=>∃q:Nat,q<=K.length/\jj=.int .i64 q/\s9=.int .i64 (bestK N W L (K.take q))/\MM Γ w Γ1 wr [⟨g,[[x.v]],[1]⟩] []) (fun _ jj _=>K.length-(intOf jj).toNat)
 case atStart=>exact⟨0,Nat.zero_le _,rfl,rfl,M.o⟩
 case round=>
  obtain⟨q,hq,rfl,e9,hM⟩:=hrel
  clear M
  have M:=bx hM
  clear hM
  have hkl:=HKL.o
  by_cases hqn:q<K.length
  .obtain⟨gk,rfl,hc⟩:=Aet HS.o q hqn
   have F0:Bx (Fz Γ1 gk q [[.int .i64 (K[q]:Int)]] [1]):=⟨hc,rfl⟩
   have hcl:K[q]<N.length:=KM.o _ (List.getElem_mem hqn)
   have PT':=bx (PT.o q hqn)
   have hki:(q:Int)<(K.length:Int):=by omega
   have hk0:0<=(q:Int):=by omega
   have BC':=BC.o q
   clear hc PT BC
   generalize hk1:bestK N W L (K.take (q+1))=b1 at *
   generalize bestK N W L (K.take q)=b at *
   generalize K[q]=c at *
   subst e9
   have hcL:c<L.length:=by rw[HLL.o];exact hcl
   obtain⟨g3,rfl,hf3⟩:=AnM (H3.o.mono L1.o) c hcL
   have F2:Bx (Fz Γ1 g3 c [[.bool L[c]]] [1]):=⟨hf3,rfl⟩
   have hcn:(c:Int)<(N.length:Int):=by omega
   have hc0:0<=(c:Int):=by omega
   have gL:L.getD c false=L[c]:=by simp[List.getD,List.getElem?_eq_getElem hcL]
   clear hf3
   cases hl:L[c]with
   |false=>
    rw[hl]at F2 gL
    have E:Bx (b1=b):=⟨by rw[PT'.o];unfold betB;rw[gL,if_neg (fun h=>by cases h.1)]⟩
    clear PT' hl gL BT BC'
    (go_wp2_with (first|refine zRFd F0 ?_|refine zRFd F2 ?_))
    go_roundw
    case rel=>exact⟨q+1,by omega,by go_num,by rw[hk1,E.o],M.o⟩
    case measure=>simp[intOf]<;>omega
   |true=>
    rw[hl]at F2 gL
    clear hl
    rcases BC' with hb|⟨k,hk,hb⟩
    .subst hb
     have E:Bx (b1=(c:Int)):=⟨by rw[PT'.o];unfold betB;rw[if_pos ⟨gL,.inl (by decide)⟩]⟩
     clear PT' gL BT
     (go_wp2_with (first|go_guarded|refine zRFd F0 ?_|refine zRFd F2 ?_))
     go_roundw
     case rel=>exact⟨q+1,by omega,by go_num,by rw[hk1,E.o],M.o⟩
     case measure=>simp[intOf]<;>omega
    .subst hb
     have hkk0:0<=(k:Int):=by omega
     have hkk1:¬(k:Int)<0:=by omega
     have hkk2:decide ((k:Int)<0)=false:=decide_eq_false hkk1
     have B1:=bx (fun w (ok:Ok Γ1 w)=>BT.o Γ1 L1.o c k hcl hk w ok)
     have PT2:=bx (PT'.o.trans (AnP (N:=N) (W:=W) gL))
     clear PT' BT gL
     generalize betC N W c k=r at *
     (go_wp2_with (first|refine zRFd F0 ?_|refine zRFd F2 ?_|refine zLAd ?_))
     refine(B1.o _ M.ok).mono ?_
     rintro e1 w1 ⟨rfl,hx⟩
     replace M:=bx (M.o.call hx)
     clear hx B1
     cases r with
     |true=>
      have E:Bx (b1=(c:Int)):=⟨by rw[PT2.o];rfl⟩
      clear PT2
      (go_wp2_with (fail))
      go_roundw
      case rel=>exact⟨q+1,by omega,by go_num,by rw[hk1,E.o],M.o⟩
      case measure=>simp[intOf]<;>omega
     |false=>
      have E:Bx (b1=(k:Int)):=⟨by rw[PT2.o];rfl⟩
      clear PT2
      (go_wp2_with (fail))
      go_roundw
      case rel=>exact⟨q+1,by omega,by go_num,by rw[hk1,E.o],M.o⟩
      case measure=>simp[intOf]<;>omega
  .have hki:(K.length:Int)<=(q:Int):=by omega
   obtain rfl:q=K.length:=by omega
   subst e9
   (go_wp2_with (fail))
   go_ret
   exact⟨rfl,Ext.below OK0.o M.bel⟩
theorem HOk.best{Γ:Gam}{s:Sto}{v:Sls}{k:Nat}(h:HOk Γ s v k)(A2 A3:Option Addr)(c2 c3:Nat)(i:Int)(w:World)(ok:Ok Γ w)(h2:SlG Γ A2 s.nodes.length (us s.wts))(h3:SlG Γ A3 s.nodes.length (bls s.lives)) :
  Calls Tryz.prog 82 #[.agg #[v.nodes.v],.slice A2 s.nodes.length c2,.slice A3 s.nodes.length c3,.int .i64 i] w fun e w'=>e=.returned (.int .i64 (bestI s.nodes s.wts s.lives i))/\Ext Γ w Γ w':=
 vbest_any Γ v.nodes s.nodes A2 A3 c2 c3 s.wts s.lives i (AcJ h.si.t.lk) (by have:=h.nb;omega) (Ait s) (Ada s) w ok h.g.nodes h2 h3
theorem Ale(Γ:Gam)(s:Sto)(v:Sls)(k:Nat)(h:HOk Γ s v k)(w:World)(ok:Ok Γ w) :
  Calls Tryz.prog 44 #[.agg (fl (stP s v)).toArray] w fun e w'=>e=.returned (.int .i64 s.head)/\Ext Γ w Γ w':=by
 have M:=bx (MM.start ok)
 have OK0:=bx ok
 have H:=bx h
 have LL:=bx (Ada s)
 obtain⟨j,hj,ej,_⟩:=AhL h.si
 have EJ:=bx ej
 have LK:=bx h.si.t.lk
 have HD:Bx (∀f,bestI s.nodes s.wts s.lives (headF s.nodes s.wts s.lives f (j:Int))<0->s.head=headF s.nodes s.wts s.lives f (j:Int)):=⟨fun f hf=>by
  unfold Sto.head;rw[ej];exact AiT h.si.t.lk hj hf⟩
 clear ok h ej
 go_enter Tryz.func44,Tryz.ntmps44
 go_upto_region 1 with(refine zBXd ?_;clear M;intro w' g M)
 go_step3
 go_upto_region 1 with(fail)
 refine AaB [] (.steps [(0,0),(0,2),(2,1),(2,3),(1,4),(1,5)] .leaf) (by kernel_rfl) (by kernel_rfl) ?_;(simp only[MixT6,MT.steps,stepAt,List.getD_cons_zero,List.getD_cons_succ]);replace M:=bx (M.o.drew)
 refine zNM ?_
 refine zMRd ?_
 refine zMC (Ahj Γ s v k H.o.si H.o.k _ M.ok H.o.g) Tryz.func81 ?_
 rintro e5 w5 ⟨A5,c5,Γ5,rfl,hc5,hs5,hx5⟩
 refine⟨_,rfl,hx5.bel,?_⟩
 replace M:=bx (M.o.call hx5)
 have H5:=bx (H.o.mono hx5.le)
 have HS5:=bx hs5
 clear hc5 hs5 hx5 H
 refine zNM ?_
 refine zMRd ?_
 refine zMC (H5.o.live _ M.ok) Tryz.func62 ?_
 rintro e6 w6 ⟨A6,c6,Γ6,rfl,hc6,hs6,hx6⟩
 refine⟨_,rfl,hx6.bel,?_⟩
 replace M:=bx (M.o.call hx6)
 rw[LL.o]at hs6
 rw[LL.o]
 have H6:=bx (H5.o.mono hx6.le)
 have HS6:=bx hs6
 have HS5':=bx (HS5.o.mono hx6.le)
 clear hc6 hs6 hx6 H5 HS5
 refine zNM ?_
 refine zMRd ?_
 refine NoPanic.normal ?_
 (go_wp2_with (refine zLAd ?_))
 refine(AfP Γ6 v.nodes s.nodes s.just.r _ M.ok H6.o.g.nodes H6.o.nb).mono ?_
 rintro e7 w7 ⟨rfl,hx7⟩
 replace M:=bx (M.o.call hx7)
 clear hx7
 rw[EJ.o]
 have BE:=bx (fun i w ok=>H6.o.best A5 A6 c5 c6 i w ok HS5'.o HS6.o)
 clear HS5' HS6 EJ LL
 (go_wp2_with (fail))
 go_step3
 (go_wp2_with (fail))
 go_loopw [5] (fun s5 wr=>∃(f m:Nat),m<s.nodes.length/\headF s.nodes s.wts s.lives f (j:Int)=(m:Int)/\s5=.int .i64 (m:Int)/\MM Γ w Γ6 wr [⟨g,stP s v,stL⟩] []) (fun s5 _=>s.nodes.length-(intOf s5).toNat)
 case atStart=>exact⟨0,j,hj,rfl,rfl,M.o⟩
 case round=>
  obtain⟨f,m,hm,hf,rfl,hM⟩:=hrel
  clear M
  have M:=bx hM
  have HF:=bx hf
  clear hM hf
  (go_wp2_with (refine zLAd ?_))
  refine(BE.o (m:Int) _ M.ok).mono ?_
  rintro e8 w8 ⟨rfl,hx8⟩
  replace M:=bx (M.o.call hx8)
  clear hx8
  have HD':=bx (fun h=>HD.o f (by rw[HF.o];exact h))
  have SN:=bx (AcL (N:=s.nodes) (W:=s.wts) (L:=s.lives) f (j:Int))
  rw[HF.o]at HD' SN
  rcases AfJ (N:=s.nodes) (W:=s.wts) (L:=s.lives) (i:=(m:Int))with hb|⟨c,hb⟩
  .have HE:=bx (HD'.o hb)
   have hb':decide (bestI s.nodes s.wts s.lives (m:Int)<0)=true:=decide_eq_true hb
   clear HD HD' SN
   generalize bestI s.nodes s.wts s.lives (m:Int)=bb at *
   (go_wp2_with (fail))
   (try rw[Exit.noGoto_ret])
   go_ret
   exact⟨by rw[HE.o];rfl,Ext.below OK0.o M.bel⟩
  .have HC:Bx (∃hc:c<s.nodes.length,m<c):=⟨by
    obtain⟨hc,hu⟩:=Aol hb
    have:=AcJ LK.o c hc
    exact⟨hc,by omega⟩⟩
   have SN':Bx (headF s.nodes s.wts s.lives (f+1) (j:Int)=(c:Int)):=⟨by rw[SN.o,hb,if_neg (by omega)]⟩
   rw[hb]
   have hc0:¬(c:Int)<0:=by omega
   have hc2:decide ((c:Int)<0)=false:=decide_eq_false hc0
   clear HD' SN hb
   (go_wp2_with (fail))
   go_roundw
   case rel=>exact⟨f+1,c,HC.o.1,SN'.o,rfl,M.o⟩
   case measure=>have:=HC.o.1;have:=HC.o.2;simp[intOf];omega
theorem Amv(Γ:Gam)(s:Sto)(v:Sls)(hb:s.nodes.length<=4096)(w:World)(ok:Ok Γ w)(h:StG Γ v s) :
  Calls Tryz.prog 17 #[.agg (fl (stP s v)).toArray] w fun e w'=>e=.returned (.agg (rc (safeR s)).toArray)/\Ext Γ w Γ w':=by
 have M:=bx (MM.start ok)
 have FI:=bx (fun w ok=>AfP Γ v.nodes s.nodes s.just.r w ok h.nodes hb)
 have HG:=bx h
 have LN:=bx h.nodes.n
 have HD:Bx (safeR s=if statR s.nodes s.just.r 1=true then s.just.r else r0):=⟨rfl⟩
 clear ok h hb
 generalize safeR s=res at *
 rcases Ab8 s.nodes s.just.r with n1|⟨k,hk,n1⟩
 .have HR:=bx (HD.o.trans (if_neg (by rw[Ag1 n1];exact Bool.false_ne_true)))
  rw[n1]at FI
  clear n1 HD
  go_enter Tryz.func17,Tryz.ntmps17
  (go_wp2_with (first|go_skip|((first|refine zBXd ?_|refine zALd (ztRt) ?_);clear M;intro w' g M)|fail|refine zLAd ?_|refine zBDd 29 [] (rc r0) (by kernel_rfl) ?_))
  refine zCA M (FI.o _ M.ok) ?_;clear M;intro w1 M
  (go_wp2_with (first|go_skip|((first|refine zBXd ?_|refine zALd (ztRt) ?_);clear M;intro w' g M)|(refine zSSd M 0 [rc r0] [rc r0] (lenR _) (Aac _) ?_;clear M;intro w' M)|refine zLAd ?_|refine zBDd 29 [] (rc r0) (by kernel_rfl) ?_))
  exact zR M.o.at0 ⟨by rw[HR.o];rfl,M.o.ext⟩
 .have HS:=bx (AeG (st:=1) n1 hk)
  rw[HS.o]at HD
  rw[n1]at FI
  obtain⟨gn,hA,hf⟩:=HG.o.nodeAt k hk
  have HA:=bx hA
  have F1:=bx hf
  have hki:(k:Int)<(v.nodes.n:Int):=by rw[LN.o];omega
  have hk0:0<=(k:Int):=by omega
  clear n1 hA hf HS
  generalize s.nodes[k]=y at *
  by_cases hs:y.st=1
  .have b1:(y.st != 1)=false:=by rw[hs];rfl
   have HR:=bx (HD.o.trans (if_pos (decide_eq_true hs)))
   clear hs HD
   go_enter Tryz.func17,Tryz.ntmps17
   (go_wp2_with (first|go_skip|((first|refine zBXd ?_|refine zALd (ztRt) ?_);clear M;intro w' g M)|fail|refine zLAd ?_|refine zBDd 29 [] (rc r0) (by kernel_rfl) ?_))
   refine zCA M (FI.o _ M.ok) ?_;clear M;intro w1 M
   (go_wp2_with (first|go_skip|((first|refine zBXd ?_|refine zALd (ztRt) ?_);clear M;intro w' g M)|refine zLHd HA ?_|refine zRFd F1 ?_|(refine zSSd M 0 [rc s.just.r] [rc s.just.r] (lenR _) (Aac _) ?_;clear M;intro w' M)|refine zLAd ?_|refine zBDd 29 [] (rc r0) (by kernel_rfl) ?_))
   exact zR M.o.at0 ⟨by rw[HR.o];rfl,M.o.ext⟩
  .have b1:(y.st != 1)=true:=bne_iff_ne.2 hs
   have HR:=bx (HD.o.trans (if_neg (by rw[decide_eq_false hs];exact Bool.false_ne_true)))
   clear hs HD
   go_enter Tryz.func17,Tryz.ntmps17
   (go_wp2_with (first|go_skip|((first|refine zBXd ?_|refine zALd (ztRt) ?_);clear M;intro w' g M)|fail|refine zLAd ?_|refine zBDd 29 [] (rc r0) (by kernel_rfl) ?_))
   refine zCA M (FI.o _ M.ok) ?_;clear M;intro w1 M
   (go_wp2_with (first|go_skip|((first|refine zBXd ?_|refine zALd (ztRt) ?_);clear M;intro w' g M)|refine zLHd HA ?_|refine zRFd F1 ?_|(refine zSSd M 0 [rc r0] [rc r0] (lenR _) (Aac _) ?_;clear M;intro w' M)|refine zLAd ?_|refine zBDd 29 [] (rc r0) (by kernel_rfl) ?_))
   exact zR M.o.at0 ⟨by rw[HR.o];rfl,M.o.ext⟩
theorem Ail(Γ:Gam)(s:Sto)(v:Sls)(k:Nat)(hh:HOk Γ s v k)(w:World)(ok:Ok Γ w) :
  Calls Tryz.prog 19 #[.agg (fl (stP s v)).toArray] w fun e w'=>e=.returned (.agg (fl (cmP s.cmd)).toArray)/\Ext Γ w Γ w':=by
 have M:=bx (MM.start ok)
 have h:=hh.g
 have HD:=bx (fun w ok=>Ale Γ s v k hh w ok)
 have SF:=bx (fun w ok=>Amv Γ s v hh.nb w ok h)
 obtain⟨k,hk,ek⟩:=AmX (hh.si.wok hh.k)
 obtain⟨gn,hA,hf⟩:=h.nodeAt k hk
 have HA:=bx hA
 have F1:=bx hf
 have hki:(k:Int)<(v.nodes.n:Int):=by rw[h.nodes.n];omega
 have hk0:0<=(k:Int):=by omega
 have HC:Bx (s.cmd=⟨s.nodes[k].b.root,safeR s,s.fin.r⟩):=⟨by unfold Sto.cmd;rw[ek,Int.toNat_natCast,nget hk]⟩
 rw[ek]at HD
 clear ok h hh hA hf ek
 rw[HC.o]
 generalize safeR s=sr at *
 generalize s.nodes[k]=y at *
 go_enter Tryz.func19,Tryz.ntmps19
 go_wp2_with (first|go_skip|((first|refine zBXd ?_|refine zALd (ztCm) ?_);clear M;intro w' g M)|refine zLAd ?_)
 refine AaB [16] (.steps [(1,0),(1,1),(0,2),(0,3),(0,9),(1,11),(1,12),(1,13),(0,14),(2,4),(1,5),(1,6),(1,7),(0,8),(2,10),(1,15),(3,16)] .leaf) (by kernel_rfl) (by kernel_rfl) ?_;(simp only[MixT6,MT.steps,stepAt,List.getD_cons_zero,List.getD_cons_succ]);replace M:=bx (M.o.drew)
 refine zNM ?_
 (repeat(first|refine zM0 ?_|(go_big_quiet_want;first|((first|refine zQHd HA ?_|refine zQFd F1 ?_|refine zQAd ?_);go_big_quiet_on;refine zNM ?_)|(refine zQO ?_;go_big_quiet_on))))
 refine zMC (HD.o _ M.ok) Tryz.func44 ?_
 rintro e2 w2 ⟨rfl,hx2⟩
 refine⟨_,rfl,hx2.bel,?_⟩
 replace M:=bx (M.o.call hx2)
 clear hx2
 refine zNM ?_
 (repeat(first|refine zM0 ?_|(go_big_quiet_want;first|((first|refine zQHd HA ?_|refine zQFd F1 ?_|refine zQAd ?_);go_big_quiet_on;refine zNM ?_)|(refine zQO ?_;go_big_quiet_on))))
 refine zMC (SF.o _ M.ok) Tryz.func17 ?_
 rintro e3 w3 ⟨rfl,hx3⟩
 refine⟨_,rfl,hx3.bel,?_⟩
 replace M:=bx (M.o.call hx3)
 clear hx3
 refine zNM ?_
 (repeat(first|refine zM0 ?_|(go_big_quiet_want;first|((first|((with_reducible refine AaT 52 _ rfl [(0,.agg (rc y.b.root).toArray),(1,.agg (rc sr).toArray),(2,.agg (rc s.fin.r).toArray)] (fl (cmP ⟨y.b.root,sr,s.fin.r⟩)) ?_ (Akh _ _ _) ?_);rfl)|refine zQAd ?_);go_big_quiet_on;refine zNM ?_)|(refine zQO ?_;go_big_quiet_on))))
 refine Aam M.o 0 (cmP ⟨y.b.root,sr,s.fin.r⟩) (cmP ⟨y.b.root,sr,s.fin.r⟩) rfl rfl rfl rfl rtCm rfl (Aai _) (AdT _) rfl rfl ?_
 intro w7 M'
 simp only[List.set_cons_zero,List.set_cons_succ]at M'
 (replace M:=bx M';clear M')
 refine zNM ?_
 refine zMRd ?_
 refine NoPanic.normal ?_
 go_wp2_with fail
 exact zRb M.o.at0 ⟨rfl,M.o.ext⟩
def EmvP(Γ:Gam)(w:World)(z:Zst)(e:Ending)(w':World):Prop:=∃(y:Zls) (A:Option Addr) (c:Nat) (Γ':Gam),e=.returned (.tuple #[.agg (fl (zsP (emtZ z) y)).toArray,.slice A (emtL z).length c])/\CapOk A (emtL z).length c/\SlG Γ' A (emtL z).length ((emtL z).flatMap cmx)/\ZsG Γ' y z/\Ext Γ w Γ' w'
theorem Aqz(Γ:Gam)(z:Zst)(x:Zls)(k:Nat)(hh:HOk Γ z.s x.s k)(hz:SzK z.s)(h1:z.reqs.length<=4096)(h2:z.rets.length<=4096)(w:World)(ok:Ok Γ w)(h:ZsG Γ x z) :
  Calls Tryz.prog 15 #[.agg (fl (zsP z x)).toArray] w (EmvP Γ w z):=by
 have M:=bx (MM.start ok)
 have CS:=bx (fun w ok=>AhY Γ z x hz h1 h2 w ok h)
 have CD:=bx (fun Γ' (hl:Le Γ Γ') w ok=>Ail Γ' z.s x.s k (hh.mono hl) w ok)
 clear ok h hh hz h1 h2
 obtain⟨cmd,hcmd⟩:∃c,z.s.cmd=c:=⟨_,rfl⟩
 have HC:=bx hcmd
 rw[hcmd]at CD
 clear hcmd
 cases hs:z.sent with
 |false=>
  have HT:Bx (Value.bool z.sent=.bool false):=⟨by rw[hs]⟩
  have HY:Bx (emtZ z = {z with sent:=true,last:=cmd}/\emtL z = [cmd]):=⟨by have h:¬(z.sent=true/\z.last=z.s.cmd):=(by rw[HC.o];exact fun h=>by rw[hs]at h;cases h.1);unfold emtZ emtL;rw[if_neg h,if_neg h,HC.o];exact⟨rfl,rfl⟩⟩
  clear hs
  unfold EmvP
  rw[HY.o.1,HY.o.2]
  go_enter Tryz.func15,Tryz.ntmps15
  (go_wp2_with (first|go_skip|((first|refine zBXd ?_|refine zALd (ztZs) ?_|refine zALd (ztCm) ?_);clear M;intro w' g M)|fail|refine zLAd ?_))
  refine(CS.o _ M.ok).mono ?_
  rintro e1 w1 ⟨y,Γ1,rfl,hy,hx⟩
  replace M:=bx (M.o.call hx)
  have HY1:=bx hy
  have CD1:=bx (CD.o _ hx.le)
  clear hy hx CS CD
  (go_wp2_with (first|go_skip|((first|refine zBXd ?_|refine zALd (ztZs) ?_|refine zALd (ztCm) ?_);clear M;intro w' g M)|(refine zSSd M 0 (zsP z y) (zsP z y) (AaH _ _) (AaP _ _) ?_;clear M;intro w' M)|refine zLAd ?_))
  refine zCA M (CD1.o _ M.ok) ?_;clear M;intro w1 M
  go_upto_region 5 with(first|go_skip|(refine zALd (ztCm) ?_;clear M;intro w' g M)|refine zLHd HT ?_|refine zLAd ?_|(refine zSSd M 0 (cmP cmd) (cmP cmd) (Aai _) (AdT _) ?_;clear M;intro w' M))
  (go_wp2_with (first|go_skip|((first|refine zBXd ?_|refine zALd (ztZs) ?_|refine zALd (ztCm) ?_);clear M;intro w' g M)|fail|refine zLAd ?_))
  refine AaF (fun w'=>HL w' g (cmP cmd) [32,32,32]) (.steps [(0,0),(1,1),(3,2),(1,3),(3,4)] .leaf) (by kernel_rfl) (by kernel_rfl) M.o.drew.at0 ?_;(simp only[MixT7,MT.steps,stepI,List.getD_cons_zero,List.getD_cons_succ]);replace M:=bx (M.o.drew)
  refine zNM ?_
  (repeat(first|refine zM0 ?_|(go_big_quiet_want;first|(refine zQL (fun _ h=>h) (Aai cmd) ?_;go_big_quiet_on;refine zNM ?_)|(refine zQO ?_;go_big_quiet_on))))
  refine Aa6 M.o 1 (.bool true) (zsP {z with sent:=true} y) rfl rfl rfl rfl AiC rfl rfl rfl rfl rfl rfl ?_
  intro w7 M'
  simp only[List.set_cons_zero,List.set_cons_succ]at M'
  (replace M:=bx M';clear M')
  refine zNM ?_
  refine⟨M.o.at0,?_⟩
  refine zMR7 ?_
  refine zXS M 1 (cmP cmd) (zsP {z with sent:=true,last:=cmd} y) (Aai _) (AdT _) ?_;clear M;intro w7 M
  refine⟨M.o.at0,?_⟩
  refine zMR7 ?_
  refine NoPanic.normal ?_
  go_wp2_with fail
  rename_i gz _ _ _ _ _ _
  refine AaF (fun w'=>HL w' g (cmP cmd) [32,32,32]/\HL w' gz (zsP {z with sent:=true,last:=cmd} y) zsL) (.steps [(0,0),(0,1)] (.fork 2 (.steps [(3,3),(1,4)] .leaf) 3 (.steps [(2,2),(1,4)] .leaf))) (by kernel_rfl) (by kernel_rfl) ⟨M.o.drew.at0,M.o.drew.at1⟩ ?_;(simp only[MixT7,MT.steps,stepI,List.getD_cons_zero,List.getD_cons_succ]);replace M:=bx (M.o.drew)
  refine zNM ?_
  (repeat(first|refine zM0 ?_|(go_big_quiet_want;first|((first|((with_reducible apply AaM (fun _ h=>h.1) (Aai cmd));rfl;rfl;exact zrts;rfl;rfl)|((with_reducible apply AaL (fun _ h=>h.1));rfl;rfl;exact zots;rfl;rfl)|((with_reducible apply AaI (fun _ h=>h.1) (Aai cmd));rfl;rfl;exact zrts;rfl;refine zCT ?_)|((with_reducible apply AaM (fun _ h=>h.2) (AaH _ _));rfl;rfl;exact zrts;rfl;rfl)|((with_reducible apply AaL (fun _ h=>h.2));rfl;rfl;exact zots;rfl;rfl)|((with_reducible apply AaI (fun _ h=>h.2) (AaH _ _));rfl;rfl;exact zrts;rfl;refine zCT ?_));go_big_quiet_on;refine zNM ?_)|(refine zQO ?_;go_big_quiet_on))))
  refine⟨?_,?_⟩
  focus
   refine AaA (Aau elCm rfl rfl (v:=.agg (fl (cmP cmd)).toArray) (cs:=fl (cmP cmd)) rfl (Acj _)) rfl ?_
   replace M:=bx (M.o.alloc (P:=cmP cmd) (ls:=[32,32,32]) (Aai _) rfl 52)
   refine zNM ?_
   refine⟨⟨M.o.at1,M.o.at2⟩,?_⟩
   refine zMR7 ?_
   refine zXS M 2 (zsP {z with sent:=true,last:=cmd} y) (zsP {z with sent:=true,last:=cmd} y) (AaH _ _) (AaP _ _) ?_;clear M;intro w7 M
  rotate_left
  focus
   refine zXS M 1 (zsP {z with sent:=true,last:=cmd} y) (zsP {z with sent:=true,last:=cmd} y) (AaH _ _) (AaP _ _) ?_;clear M;intro w7 M
   refine⟨⟨M.o.at0,M.o.at1⟩,?_⟩
   refine zMR7 ?_
   refine AaA (Aau elCm rfl rfl (v:=.agg (fl (cmP cmd)).toArray) (cs:=fl (cmP cmd)) rfl (Acj _)) rfl ?_
   replace M:=bx (M.o.alloc (P:=cmP cmd) (ls:=[32,32,32]) (Aai _) rfl 52)
   refine zNM ?_
  all_goals
   refine⟨⟨M.o.at1,M.o.at2⟩,?_⟩
   refine zMR7 ?_
   refine NoPanic.normal ?_
   go_wp2_with fail
   obtain⟨Γ',e1,l1,h4⟩:=M.o.frzL
   (try refine zsm ?_);refine bodyPost_ret (AaN (by rfl) _ h4.at1 (by rfl) rtZs rfl) rfl ?_
   exact⟨y,_,1,Γ',rfl,⟨Nat.le_refl _,by unfold maxLen;omega,fun h=>(by cases h)⟩,fun _=>⟨_,[],rfl,by rw[e1];simp⟩,HY1.o.mono l1,h4.ext⟩
 |true=>
  have HT:Bx (Value.bool z.sent=.bool true):=⟨by rw[hs]⟩
  have hq:=AjZ z.last cmd
  by_cases he:z.last=cmd
  .rw[decide_eq_true he]at hq
   have HY:Bx (emtZ z=z/\emtL z = []):=⟨by
    have h:z.sent=true/\z.last=z.s.cmd:=⟨hs,by rw[HC.o];exact he⟩
    unfold emtZ emtL
    rw[if_pos h,if_pos h]
    exact⟨rfl,rfl⟩⟩
   clear hs he
   unfold EmvP
   rw[HY.o.1,HY.o.2]
   go_enter Tryz.func15,Tryz.ntmps15
   (go_wp2_with (first|go_skip|((first|refine zBXd ?_|refine zALd (ztZs) ?_|refine zALd (ztCm) ?_);clear M;intro w' g M)|fail|refine zLAd ?_))
   refine(CS.o _ M.ok).mono ?_
   rintro e1 w1 ⟨y,Γ1,rfl,hy,hx⟩
   replace M:=bx (M.o.call hx)
   have HY1:=bx hy
   have CD1:=bx (CD.o _ hx.le)
   clear hy hx CS CD
   (go_wp2_with (first|go_skip|((first|refine zBXd ?_|refine zALd (ztZs) ?_|refine zALd (ztCm) ?_);clear M;intro w' g M)|(refine zSSd M 0 (zsP z y) (zsP z y) (AaH _ _) (AaP _ _) ?_;clear M;intro w' M)|refine zLAd ?_))
   refine zCA M (CD1.o _ M.ok) ?_;clear M;intro w1 M
   (go_wp2_with (first|go_skip|((first|refine zBXd ?_|refine zALd (ztZs) ?_|refine zALd (ztCm) ?_);clear M;intro w' g M)|refine zLHd HT ?_|((first|refine zSSd M 0 (cmP cmd) (cmP cmd) (Aai _) (AdT _) ?_|refine zSSd M 1 (zsP z y) (zsP z y) (AaH _ _) (AaP _ _) ?_);clear M;intro w' M)|refine zLAd ?_))
   refine zRt M.o.at1 ?_
   exact⟨y,none,0,Γ1,rfl,⟨Nat.le_refl _,Nat.zero_le _,fun _=>rfl⟩,fun h=>absurd h (Nat.lt_irrefl _),HY1.o,M.o.ext⟩
  .rw[decide_eq_false he]at hq
   have HY:Bx (emtZ z = {z with sent:=true,last:=cmd}/\emtL z = [cmd]):=⟨by have h:¬(z.sent=true/\z.last=z.s.cmd):=(by rw[HC.o];exact fun h=>he h.2);unfold emtZ emtL;rw[if_neg h,if_neg h,HC.o];exact⟨rfl,rfl⟩⟩
   clear hs he
   unfold EmvP
   rw[HY.o.1,HY.o.2]
   go_enter Tryz.func15,Tryz.ntmps15
   (go_wp2_with (first|go_skip|((first|refine zBXd ?_|refine zALd (ztZs) ?_|refine zALd (ztCm) ?_);clear M;intro w' g M)|fail|refine zLAd ?_))
   refine(CS.o _ M.ok).mono ?_
   rintro e1 w1 ⟨y,Γ1,rfl,hy,hx⟩
   replace M:=bx (M.o.call hx)
   have HY1:=bx hy
   have CD1:=bx (CD.o _ hx.le)
   clear hy hx CS CD
   (go_wp2_with (first|go_skip|((first|refine zBXd ?_|refine zALd (ztZs) ?_|refine zALd (ztCm) ?_);clear M;intro w' g M)|(refine zSSd M 0 (zsP z y) (zsP z y) (AaH _ _) (AaP _ _) ?_;clear M;intro w' M)|refine zLAd ?_))
   refine zCA M (CD1.o _ M.ok) ?_;clear M;intro w1 M
   go_upto_region 5 with(first|go_skip|(refine zALd (ztCm) ?_;clear M;intro w' g M)|refine zLHd HT ?_|refine zLAd ?_|(refine zSSd M 0 (cmP cmd) (cmP cmd) (Aai _) (AdT _) ?_;clear M;intro w' M))
   (go_wp2_with (first|go_skip|((first|refine zBXd ?_|refine zALd (ztZs) ?_|refine zALd (ztCm) ?_);clear M;intro w' g M)|fail|refine zLAd ?_))
   refine AaF (fun w'=>HL w' g (cmP cmd) [32,32,32]) (.steps [(0,0),(1,1),(3,2),(1,3),(3,4)] .leaf) (by kernel_rfl) (by kernel_rfl) M.o.drew.at0 ?_;(simp only[MixT7,MT.steps,stepI,List.getD_cons_zero,List.getD_cons_succ]);replace M:=bx (M.o.drew)
   refine zNM ?_
   (repeat(first|refine zM0 ?_|(go_big_quiet_want;first|(refine zQL (fun _ h=>h) (Aai cmd) ?_;go_big_quiet_on;refine zNM ?_)|(refine zQO ?_;go_big_quiet_on))))
   refine Aa6 M.o 1 (.bool true) (zsP {z with sent:=true} y) rfl rfl rfl rfl AiC rfl rfl rfl rfl rfl rfl ?_
   intro w7 M'
   simp only[List.set_cons_zero,List.set_cons_succ]at M'
   (replace M:=bx M';clear M')
   refine zNM ?_
   refine⟨M.o.at0,?_⟩
   refine zMR7 ?_
   refine zXS M 1 (cmP cmd) (zsP {z with sent:=true,last:=cmd} y) (Aai _) (AdT _) ?_;clear M;intro w7 M
   refine⟨M.o.at0,?_⟩
   refine zMR7 ?_
   refine NoPanic.normal ?_
   go_wp2_with fail
   rename_i gz _ _ _ _ _ _
   refine AaF (fun w'=>HL w' g (cmP cmd) [32,32,32]/\HL w' gz (zsP {z with sent:=true,last:=cmd} y) zsL) (.steps [(0,0),(0,1)] (.fork 2 (.steps [(3,3),(1,4)] .leaf) 3 (.steps [(2,2),(1,4)] .leaf))) (by kernel_rfl) (by kernel_rfl) ⟨M.o.drew.at0,M.o.drew.at1⟩ ?_;(simp only[MixT7,MT.steps,stepI,List.getD_cons_zero,List.getD_cons_succ]);replace M:=bx (M.o.drew)
   refine zNM ?_
   (repeat(first|refine zM0 ?_|(go_big_quiet_want;first|((first|((with_reducible apply AaM (fun _ h=>h.1) (Aai cmd));rfl;rfl;exact zrts;rfl;rfl)|((with_reducible apply AaL (fun _ h=>h.1));rfl;rfl;exact zots;rfl;rfl)|((with_reducible apply AaI (fun _ h=>h.1) (Aai cmd));rfl;rfl;exact zrts;rfl;refine zCT ?_)|((with_reducible apply AaM (fun _ h=>h.2) (AaH _ _));rfl;rfl;exact zrts;rfl;rfl)|((with_reducible apply AaL (fun _ h=>h.2));rfl;rfl;exact zots;rfl;rfl)|((with_reducible apply AaI (fun _ h=>h.2) (AaH _ _));rfl;rfl;exact zrts;rfl;refine zCT ?_));go_big_quiet_on;refine zNM ?_)|(refine zQO ?_;go_big_quiet_on))))
   refine⟨?_,?_⟩
   focus
    refine AaA (Aau elCm rfl rfl (v:=.agg (fl (cmP cmd)).toArray) (cs:=fl (cmP cmd)) rfl (Acj _)) rfl ?_
    replace M:=bx (M.o.alloc (P:=cmP cmd) (ls:=[32,32,32]) (Aai _) rfl 52)
    refine zNM ?_
    refine⟨⟨M.o.at1,M.o.at2⟩,?_⟩
    refine zMR7 ?_
    refine zXS M 2 (zsP {z with sent:=true,last:=cmd} y) (zsP {z with sent:=true,last:=cmd} y) (AaH _ _) (AaP _ _) ?_;clear M;intro w7 M
   rotate_left
   focus
    refine zXS M 1 (zsP {z with sent:=true,last:=cmd} y) (zsP {z with sent:=true,last:=cmd} y) (AaH _ _) (AaP _ _) ?_;clear M;intro w7 M
    refine⟨⟨M.o.at0,M.o.at1⟩,?_⟩
    refine zMR7 ?_
    refine AaA (Aau elCm rfl rfl (v:=.agg (fl (cmP cmd)).toArray) (cs:=fl (cmP cmd)) rfl (Acj _)) rfl ?_
    replace M:=bx (M.o.alloc (P:=cmP cmd) (ls:=[32,32,32]) (Aai _) rfl 52)
    refine zNM ?_
   all_goals
    refine⟨⟨M.o.at1,M.o.at2⟩,?_⟩
    refine zMR7 ?_
    refine NoPanic.normal ?_
    go_wp2_with fail
    obtain⟨Γ',e1,l1,h4⟩:=M.o.frzL
    (try refine zsm ?_);refine bodyPost_ret (AaN (by rfl) _ h4.at1 (by rfl) rtZs rfl) rfl ?_
    exact⟨y,_,1,Γ',rfl,⟨Nat.le_refl _,by unfold maxLen;omega,fun h=>(by cases h)⟩,fun _=>⟨_,[],rfl,by rw[e1];simp⟩,HY1.o.mono l1,h4.ext⟩
theorem head_new(c:Cf)(bal:List U)(h:CfB c bal):(newS c bal).head=0:=by
 obtain⟨j,hj,ej,_⟩:=AhL (Aj2 h)
 have hj':j<1:=hj
 obtain rfl:j=0:=by omega
 have:=AiT (W:=(newS c bal).wts) (L:=(newS c bal).lives) (Aj2 h).t.lk hj (f:=0) (by
  show bestI (newS c bal).nodes _ _ 0<0
  rw[Akk];decide)
 unfold Sto.head
 rw[ej]
 exact this
theorem SI.szk{k:Nat}{s:Sto}(h:SI k s)(hk:k<=40):SzK s where
 bal:=by have:=h.bal;omega
 lat:=by have:=h.bal;have:=h.lat;omega
 eqv:=by have:=h.eqv;omega
 early:=by have:=h.el;omega
 att:=fun a ha=>by have:=h.att a ha;omega
 orph:=by have:=h.ol;omega
 nodes:=by have:=h.nl;omega
 tabs:=by have:=h.tl;omega
 tbs:=fun t ht=>by
  have h1:=h.tbs t ht
  have h2:=h.bal
  unfold tbE valE at h1
  split at h1
  .omega
  .cases h1
theorem Anr{N:List Nod}(t:TI N)(h0:(N[0]'t.pos).st=2):∀m (hm:m<N.length),N[m].st=2:=by
 intro m
 induction m using Nat.strongRecOn with
 |_ m ih=>
  intro hm
  rcases Ady t.lk hm with⟨rfl,_⟩|⟨u,hu,e⟩
  .exact h0
  .exact t.cl2 m u hm (by omega) e (ih u hu (by omega))
structure Snd(s:Sto)(o j m:Nat):Prop where
 hj:j<s.nodes.length
 hm:m<s.nodes.length
 h0:o<s.nodes.length
 c:s.cmd=⟨s.nodes[m].b.root,safeR s,s.fin.r⟩
 fm:fndI s.nodes s.nodes[m].b.root=(m:Int)
 f0:fndI s.nodes s.fin.r=(o:Int)
 mi:(s.nodes[m].st==2)=false
 zi:(s.nodes[o].st==2)=false
 am:ancI s.nodes (o:Int) (m:Int)=true
 sf:safeR s=r0\/(safeR s=s.just.r/\s.just.r≠r0/\s.nodes[j].st=1)
 fj:fndI s.nodes s.just.r=(j:Int)
 ajm:ancI s.nodes (j:Int) (m:Int)=true
 aj:ancI s.nodes (o:Int) (j:Int)=true
theorem SI.snd{k:Nat}{s:Sto}(h:SI k s)(hk:k<=40):∃o j m,Snd s o j m:=by
 obtain⟨j,hj,ej,nj⟩:=AhL h
 obtain⟨m,hm,em,ajm⟩:=Ahs h.t.lk hj (AkD ej)
 have hs:=AkD ej
 rw[em]at hs
 have h0:=h.t.pos
 obtain⟨_,hf⟩:=h.fin
 refine⟨0,j,m,hj,hm,h0,?_,Agm h.t.diff hm,?_,?_,?_,Akm h.t.lk hm,?_,ej,ajm,Akm h.t.lk hj⟩
 .unfold Sto.cmd;rw[em,Int.toNat_natCast,nget hm]
 .rw[<-hf];exact Agm h.t.diff h0
 .exact beq_eq_false_iff_ne.2 (AqQ h.t hj nj hm hs)
 .exact beq_eq_false_iff_ne.2 fun e=>nj (Anr h.t e j hj)
 .by_cases hv:s.nodes[j].st=1
  .refine .inr ⟨?_,?_,hv⟩
   .unfold safeR;rw[AeG ej hj,decide_eq_true hv,if_pos rfl]
   .obtain⟨q,hq,e,_⟩:=h.just
    rw[<-e]
    exact h.t.nz _ (List.getElem_mem hq)
  .refine .inl ?_
   unfold safeR;rw[AeG ej hj,decide_eq_false hv];rfl
theorem cmd_new{c:Cf}{bal:List U}(h:CfB c bal):(newS c bal).cmd=⟨c.gen,c.gen,c.gen⟩:=by
 obtain⟨j,hj,ej,_⟩:=AhL (Aj2 h)
 have hj':j<1:=hj
 obtain rfl:j=0:=by omega
 unfold Sto.cmd safeR
 rw[head_new c bal h,AeG ej hj]
 rfl
structure Beg1(z q r:Zst)(cm:Cm):Prop where
 zi:ZI 0 z
 e1:emtZ z=z
 l1:emtL z = []
 qe:q = {z with sent:=false,last:=cm0}
 zq:ZI 0 q
 eq:emtZ q=r
 lq:emtL q = [cm]
 rs:r.sent=true
 rl:r.last=cm
 h1:cm.head=q.s.c.gen
 h2:cm.safe=q.s.c.gen
theorem beg_1{c:Cf}{bal:List U}(h:CfB c bal):∃q r cm,Beg1 (begZ c bal) q r cm:=by
 have hb:begZ c bal = {zs0 with s:=newS c bal,ntag:=⟨1,by decide⟩,sent:=true,last:=(newS c bal).cmd}:=by
  unfold begZ emtZ
  rw[if_neg fun h=>Bool.false_ne_true h.1]
 have hz:=Aq7 h
 rw[hb]at hz |-
 refine⟨_,_,(newS c bal).cmd,hz,?_,?_,rfl,⟨hz.s,hz.nreq,hz.nret,hz.tries⟩,rfl,?_,?_,?_,?_,?_⟩
 .unfold emtZ
  rw[if_pos ⟨rfl,rfl⟩]
 .unfold emtL
  rw[if_pos ⟨rfl,rfl⟩]
 .unfold emtL
  rw[if_neg fun h=>Bool.false_ne_true h.1]
 .unfold emtZ
  rw[if_neg fun h=>Bool.false_ne_true h.1]
 .unfold emtZ
  rw[if_neg fun h=>Bool.false_ne_true h.1]
 .rw[cmd_new h];rfl
 .rw[cmd_new h];rfl
theorem awake29_any(w:World):Calls Tryz.prog 23 #[] w fun e w'=>e=.returned (.bool true)/\Below w.heap.size w w':=by
 have M:=bx (MM.start (AiD w))
 go_enter Tryz.func23,Tryz.ntmps23
 (go_wp2_with (first|go_skip|((first|refine zBXd ?_|refine zALd (ztZs) ?_);clear M;intro w' g M)|fail|refine zLAd ?_))
 refine(Af4 g0 none 0 0 [] _ M.ok (Row.nil ..) (Nat.zero_le _)).mono ?_
 rintro e1 w1 ⟨cf,sb,bal,Γ1,rfl,hcb,hsb,hx⟩
 replace M:=bx (M.o.call hx)
 have HCB:=bx hcb
 have HSB:=bx hsb
 clear hx hcb hsb
 (go_wp2_with (first|go_skip|((first|refine zBXd ?_|refine zALd (ztZs) ?_);clear M;intro w' g M)|fail|refine zLAd ?_))
 refine(AnQ Γ1 cf sb bal HCB.o _ M.ok HSB.o).mono ?_
 rintro e1 w1 ⟨x1,Γ2,A1,n1,c1,L1,rfl,hn1,hca1,hsl1,hz1,hx⟩
 replace M:=bx (M.o.call hx)
 have HG:=bx hz1
 obtain⟨q,r,cm,hb1⟩:=beg_1 HCB.o
 have HB:=bx hb1
 clear hx hn1 hca1 hsl1 hz1 HSB HCB hb1
 generalize begZ cf bal=z at *
 have HZ:=bx (HB.o.zi.s.szk (by decide))
 have HR:=bx (And.intro HB.o.zi.nreq HB.o.zi.nret)
 go_upto_region 2 with(first|go_skip|((refine zALd (ztZs) ?_;clear M;intro w' g M);(obtain⟨g1,hg0⟩:∃y,y=g:=⟨_,rfl⟩);subst hg0)|(refine zSSd M 0 (zsP z x1) (zsP z x1) (AaH _ _) (AaP _ _) ?_;clear M;intro w' M)|refine zLAd ?_)
 (go_wp2_with (first|go_skip|((first|refine zBXd ?_|refine zALd (ztZs) ?_);clear M;intro w' g M)|fail|refine zLAd ?_))
 refine(Aqz Γ2 z x1 0 ⟨HB.o.zi.s,by decide,HG.o.s⟩ HZ.o (by have:=HR.o.1;omega) (by have:=HR.o.2;omega) _ M.ok HG.o).mono ?_
 rintro e1 w1 ⟨y,A2,c2,Γ3,rfl,_,_,_,hx⟩
 replace M:=bx (M.o.call hx)
 have HG3:=bx (HG.o.mono hx.le)
 clear hx
 rw[HB.o.e1,HB.o.l1,List.length_nil]
 go_upto_region 3 with(first|go_skip|((refine zALd (ztZs) ?_;clear M;intro w' g M);(obtain⟨g4,hg0⟩:∃y,y=g:=⟨_,rfl⟩);subst hg0)|(refine zSSd M 0 (zsP z y) (zsP z y) (AaH _ _) (AaP _ _) ?_;clear M;intro w' M)|refine zLAd ?_)
 (go_wp2_with (first|go_skip|((first|refine zBXd ?_|refine zALd (ztZs) ?_);clear M;intro w' g M)|refine zBDd 52 [] (fl (cmP cm0)) (by kernel_rfl) ?_|((first|refine zS1d M 1 (.bool false) (zsP {z with sent:=false} x1) ?_|refine zSSd M 1 (cmP cm0) (zsP {z with sent:=false,last:=cm0} x1) (Aai _) (AdT _) ?_);clear M;intro w' M)|refine zLAd ?_))
 rw[<-HB.o.qe]at M |-
 have HZQ:=bx (HB.o.zq.s.szk (by decide))
 have GQ:Bx (ZsG Γ3 x1 q):=⟨by rw[HB.o.qe];exact⟨HG3.o.s,HG3.o.reqs,HG3.o.rets⟩⟩
 refine(Aqz Γ3 q x1 0 ⟨HB.o.zq.s,by decide,GQ.o.s⟩ HZQ.o (by have:=HB.o.zq.nreq;omega) (by have:=HB.o.zq.nret;omega) _ M.ok GQ.o).mono ?_
 rintro e1 w1 ⟨y4,A4,c4,Γ4,rfl,_,hs4,_,hx⟩
 replace M:=bx (M.o.call hx)
 rw[HB.o.lq]at hs4
 rw[HB.o.eq,HB.o.lq]
 obtain⟨g7,post,hA,hg⟩:=hs4 Nat.zero_lt_one
 obtain⟨b,hb⟩:∃b:Nat,0=b:=⟨_,rfl⟩
 rw[hb]at hA
 subst hA
 have F0:Bx (Fz Γ4 g7 b (cmP cm) [32,32,32]):=⟨⟨_,hg,fun j u hu=>by
  rw[<-hb,Nat.zero_add]
  rw[List.getElem?_append_left]
  .simpa using hu
  .have:=(List.getElem?_eq_some_iff.1 hu).1;simpa using this⟩,Aai _⟩
 have hq1:=Aa5 cm.head q.s.c.gen
 rw[decide_eq_true HB.o.h1]at hq1
 have hq4:=hq1
 rw[show rc cm.head=fl (List.take 1 (cmP cm))by simp[cmP,fl]]at hq4
 have hq2:=Aa5 cm.safe q.s.c.gen
 rw[decide_eq_true HB.o.h2]at hq2
 have hq3:=AjZ r.last cm
 rw[decide_eq_true HB.o.rl]at hq3
 have HT:Bx (Value.bool r.sent=.bool true):=⟨by rw[HB.o.rs]⟩
 clear hx HB HZ HR HG HG3 HZQ GQ hg hb
 go_upto_region 5 with(first|go_skip|((refine zALd (ztZs) ?_;clear M;intro w' g M);(obtain⟨g6,hg0⟩:∃y,y=g:=⟨_,rfl⟩);subst hg0)|(refine zSSd M 0 (zsP r y4) (zsP r y4) (AaH _ _) (AaP _ _) ?_;clear M;intro w' M)|refine zLAd ?_)
 (go_wp2_with (first|go_skip|((first|refine zBXd ?_|refine zALd (ztZs) ?_);clear M;intro w' g M)|fail|refine zLAd ?_))
 refine zRG ?_;(repeat(first|go_big_quiet_skip|(go_big_quiet_want;first|((first|refine zQFd F0 ?_|refine zQHd HT ?_|refine zQAd ?_);go_big_quiet_on;refine zNM ?_)|(refine zQO ?_;go_big_quiet_on))));(refine zQN ?_;clear M;intro w4 M)
 (go_wp2_with (first|go_skip|((first|refine zBXd ?_|refine zALd (ztZs) ?_);clear M;intro w' g M)|fail|refine zLAd ?_))
 go_ret
 exact⟨rfl,M.bel⟩
end
end Go.Proofs.YtpaihpeoiliioaaGreat
