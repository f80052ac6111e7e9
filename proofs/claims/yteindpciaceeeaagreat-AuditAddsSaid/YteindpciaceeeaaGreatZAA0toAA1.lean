import Derived.Test.YteindpciaceeeaaGreatZSh43
set_option linter.all false
set_option maxHeartbeats 8000000
namespace Go.Sh
open Go Go.Proofs
variable [Con]
noncomputable def EAF:Env Ob Tryz.prog:=sN (EAz.addS 85 eachAS RU) rfl
def QQ(Y:AUS)(n:Nat)(row:Nat->List AVal)(K:AVal->aC Ob->Prop):Prop:=(jZ Y.ss.length Y.lv.length Y.ss Y.lv/\auW Y/\n<=(4294967296:Nat)/\rowOk row)/\K (.int .i64 (runA Y 0 (dY n row)).2) (QR (runA Y 0 (dY n row)).1)
theorem GL(Y:AUS)(n:Nat)(row:Nat->List AVal)(K:AVal->aC Ob->Prop)(h:QQ Y n row K):cT' 62 [.ptr 0 0,.view n 2 row] (XR Y) (eJ 4 K):=by
 exact cM' (E:=EAF) (by kernel_rfl) h
def auRuS:aI Ob:=fun args h=>match args,h with
 | [.ptr 0 0,.view n 2 row],[some (.cells [.ptr 1 0,.int .i64 c1,.int .i64 c2,.int .i64 c3,.int .i64 c4,.int .i64 c5,.slice 2 0 p 1,.slice 3 0 q 1]),some (.abs (.engine e) []),some (.abs (.srow ss) []),some (.ints (some .u64) lv)]=>some (.pre (jZ p q ss lv/\auW ⟨e,⟨c1,c2,c3,c4,c5⟩,ss,lv⟩/\n<=4294967296/\rowOk row) (.ret (.int .i64 (runA ⟨e,⟨c1,c2,c3,c4,c5⟩,ss,lv⟩ 0 (dY n row)).2) (QR (runA ⟨e,⟨c1,c2,c3,c4,c5⟩,ss,lv⟩ 0 (dY n row)).1)))
 | _,_=>none
theorem XT:sT' 62 auRuS:=by
 intro args h o ho K hK;unfold auRuS at ho;split at ho
 case h_2=>cases ho
 rename_i n row c1 c2 c3 c4 c5 p q e ss lv;cases ho;obtain⟨⟨⟨rfl,rfl⟩,hx⟩,hK⟩:=hK;exact aLw (GL ⟨e,⟨c1,c2,c3,c4,c5⟩,ss,lv⟩ n row K ⟨⟨⟨rfl,rfl⟩,hx⟩,hK⟩)
theorem aJJ{I:Itp Ob}(h:I=obI tbl)(ρ:Operand->AVal)(o:Oper)(g:aC Ob)(r:ORes Ob)(hr:BI.catB Tryz.prog (BI.dro Tryz.prog fun _ _ _=>none) ρ o.op g=some r)(ho:r.obl)(V:Val)(hR:PHeap)(w:World)(ρ':Operand->Value)(hi:Inv I V (toF g) hR w)(hf:gT V g.length r.new.length)(hρ: ∀x,Rep V (ρ x) (ρ' x)):dG I Tryz.prog V g.length hR w r.v (toF (r.apply g)) r.new.length (execOp ρ' o):=by
 subst h;exact BI.catB_ok rB (BI.dro_ok rB qI) ρ o g r hr ho V hR w ρ' hi hf hρ
noncomputable def aI7(E:Env Ob Tryz.prog)(h:E.I=obI tbl):Env Ob Tryz.prog:= {E with fld:=fun _ _ _ _=>none,fldOk:=aH2,dro:=BI.catB Tryz.prog (BI.dro Tryz.prog fun _ _ _=>none),droCongr:=BI.catB_congr (BI.dro_congr lZ),droOk:=aJJ h}
noncomputable def EAA:Env Ob Tryz.prog:=aI7 ((((((((EAz.addS 25 gn2S SY).addR 26 cfR QZ).addS 54 abS aHd).addS 51 aw22S XX).addS 62 auRuS XT).addS 85 elenS ZC).addS 23 grS aCs).addS 42 onS aIU) rfl
abbrev vRq(ln:Nat->Nat)(f g:Nat->Nat->Int):Nat->List AVal:=fun i=>[.view (ln i) 2 fun j=>[.int .i64 (f i j),.int .i64 (g i j)]]
abbrev au0(X:EGS):AUS:=⟨X,⟨0,0,0,0,0⟩,[bF X],lvI X (Int.toNat X.s.n)⟩
abbrev aG8(l s v:Nat)(y:AUS):Option (aG Ob):=some (.cells [.ptr (l+1) 0,.int .i64 y.c.ch,.int .i64 y.c.tk,.int .i64 y.c.gv,.int .i64 y.c.lo,.int .i64 y.c.tw,.slice s 0 y.ss.length 1,.slice v 0 y.lv.length 1])
abbrev aG9(y:AUS):Option (aG Ob):=some (.abs (.engine y.e) [])
abbrev xV(s:List (List Int)):Option (aG Ob):=some (.abs (.srow s) [])
abbrev aHb(y:AUS):Option (aG Ob):=some (.ints (some .u64) y.lv)
abbrev aJA(s t u:Nat):List AVal:=List.replicate 7 .O ++ [.ptr 0 0,.O,.O,.ptr 4 0]++List.replicate 3 .O ++ [.slice 8 0 s 1,.slice 9 0 t 1,.slice 10 0 u 1]++List.replicate 177 .O
abbrev aJz(s:Nat)(i:Int)(n:Nat):List AVal:=List.replicate 7 .O ++ [.ptr 0 0,.O,.O,.ptr 4 0]++List.replicate 3 .O ++ [.slice 8 0 s 1]++List.replicate 155 .O ++ [.slice 9 0 n 1,.int .i64 (n:Int),.int .i64 i]++List.replicate 21 .O
abbrev aaH(a z:AUS):aC Ob:=[aG8 0 2 3 a,aG9 a,xV a.ss,aHb a,aG8 4 6 7 z,aG9 z,xV z.ss,aHb z]
def HJA(a z:AUS)(s t u:List (List Int)):Hint Ob:= {X:=Unit,st:=fun _=>(aJA s.length t.length u.length,aaH a z++ [xV s,xV t,xV u]),ok:=fun _=>True,mu:=fun _=>0,keep:=[7,10,14,15,16] }
structure aaI (s:List (List Int)) (i:Nat):Prop where
 h:i<=s.length
def WY(a z:AUS)(s:List (List Int)):Hint Ob:= {X:=Nat,st:=fun i=>(aJz s.length (i:Int) s.length,aaH a z++ [xV s,xV s]),ok:=aaI s,mu:=fun i=>s.length - i,keep:=[7,10,14,170,171,172] }
def LAA(a z:AUS)(s t u:List (List Int)):FuncId->Nat->Option (mS Ob):=fun _ j=>match j with
 | 100019=>some (.told [] fun _=>HJA a z s t u)
 | 20=>some (.told [] fun _=>WY a z s)
 | _=>none
abbrev aaK(n:Nat)(at':Int):Int:=bif ilt (↑n:Int) (W at')then(↑n:Int)else W at'
abbrev aaN(n:Nat)(at':Int):Nat:=Int.toNat (aaK n at')
section
variable (a z:AUS) (s t u:List (List Int)) (KR:Bool->Prop)
def aaL(x:Nat):Prop:=okT (Env.I EAA) 0 (WY a z s) (fun x'=>Hint.ok (WY a z s) x'/\Hint.mu (WY a z s) x'<Hint.mu (WY a z s) x) (List.replicate 7 .O ++ [.ptr 0 0,.O,.O,.ptr 4 0,.O,.O,.O,.slice 8 0 s.length 1]++List.replicate 155 .O ++ [.slice 10 0 s.length 1,.int .i64 (↑s.length:Int),.int .i64 (W ((↑x:Int)+1))]++List.replicate 21 .O) (aaH a z++ [some (.abs (.shole s (0+Int.toNat (↑x:Int)*1)) [9]),some (.ints (some .i64) (slAt s (0+Int.toNat (↑x:Int)*1))),some (.abs (.shole s (0+Int.toNat (↑x:Int)*1)) [11]),some (.ints (some .i64) (slAt s (0+Int.toNat (↑x:Int)*1)))])
def aC7:Prop:=(0=0/\0+t.length=t.length/\0+t.length<=(4294967296:Nat))/\((0:Int)<=(1:Int)/\Int.toNat (1:Int)<=u.length)/\(0+t.length=List.length ([]++List.drop 0 t)/\0+Int.toNat 1*1+(u.length - Int.toNat 1)=u.length/\0+t.length+(u.length - Int.toNat 1)<=(4294967296:Nat))/\okT (Env.I EAA) 0 (WY a z s) (Hint.ok (WY a z s)) (List.replicate 7 .O ++ [.ptr 0 0,.O,.O,.ptr 4 0,.O,.O,.O,.slice 8 0 s.length 1]++List.replicate 155 .O ++ [.slice 9 0 (0+t.length+(u.length - Int.toNat 1)) 1,.int .i64 (↑(0+t.length+(u.length - Int.toNat 1)):Int),.int .i64 0]++List.replicate 21 .O) (aaH a z++ [xV s,xV ([]++List.drop 0 t++List.drop (0+Int.toNat 1*1) u)])/\ ∀(x:Nat),aaI s x->bif ilt (↑x:Int) (↑s.length:Int)then((0:Int)<=(↑x:Int)/\(↑x:Int)<(↑s.length:Int))/\0+Int.toNat (↑x:Int)*(1:Nat)<s.length/\((0:Int)<=(↑x:Int)/\(↑x:Int)<(↑s.length:Int))/\0+Int.toNat (↑x:Int)*(1:Nat)<s.length/\((lE' (slAt s (0+Int.toNat (↑x:Int)*1))/\lE' (slAt s (0+Int.toNat (↑x:Int)*1)))/\List.length (slAt s (0+Int.toNat (↑x:Int)*1))<=(4294967296:Nat))/\bif !eE (slAt s (0+Int.toNat (↑x:Int)*1)) (slAt s (0+Int.toNat (↑x:Int)*1))then KR false else aaL a z s x else((a.1=z.1/\KP a.1)/\True)/\KR true
variable (A Y Z:AUS)
abbrev aaI1:Nat:=0+Int.toNat (W ((↑Y.3.length:Int) - 1))*1
def aC6:Prop:=bif !ieq A.2.1 (W (Y.2.1+Z.2.1))then KR false else bif !ieq A.2.2 (W (Y.2.2+Z.2.2))then KR false else bif !ieq A.2.3 (W (Y.2.3+Z.2.3))then KR false else bif !ieq A.2.4 (W (Y.2.4+Z.2.4))then KR false else bif !ieq A.2.5 (W (Y.2.5+Z.2.5))then KR false else(jZ A.3.length A.4.length A.3 A.4/\LE A.3)/\(jZ Y.3.length Y.4.length Y.3 Y.4/\LE Y.3)/\(jZ Z.3.length Z.4.length Z.3 Z.4/\LE Z.3)/\(bif ieq (↑Y.3.length:Int) 0 then KR false else bif ieq (↑Z.3.length:Int) 0 then KR false else bif !ieq (↑A.3.length:Int) (W (W ((↑Y.3.length:Int)+(↑Z.3.length:Int)) - 1))then KR false else((0:Int)<=W ((↑Y.3.length:Int) - 1)/\W ((↑Y.3.length:Int) - 1)<(↑Y.3.length:Int))/\0+Int.toNat (W ((↑Y.3.length:Int) - 1))*(1:Nat)<Y.3.length/\((0:Int)<=(0:Int)/\(0:Int)<(↑Z.3.length:Int))/\0+Int.toNat 0*(1:Nat)<Z.3.length/\((lE' (slAt Y.3 (aaI1 Y))/\lE' (slAt Z.3 0))/\List.length (slAt Y.3 (aaI1 Y))<=(4294967296:Nat))/\bif !eE (slAt Y.3 (aaI1 Y)) (slAt Z.3 (0+Int.toNat 0*1))then KR false else okT (Env.I EAA) 0 (HJA a z s t u) (Hint.ok (HJA a z s t u)) (List.replicate 7 .O ++ [.ptr 0 0,.O,.O,.ptr 4 0,.O,.O,.O,.slice 8 0 A.3.length 1,.slice 9 0 Y.3.length 1,.slice 11 0 Z.3.length 1]++List.replicate 177 .O) (aaH A Z++ [xV A.3,some (.abs (.shole Y.3 (aaI1 Y)) [10]),some (.ints (some .i64) (slAt Y.3 (aaI1 Y))),some (.abs (.shole Z.3 0) [12]),some (.ints (some .i64) (slAt Z.3 (0+Int.toNat 0*1)))]))/\ ∀(q:Unit),True->aC7 a z s t u KR
def aC5(X:EGS)(n:Nat)(pt pm:Nat->Int)(at':Int):Prop:=(jZ 1 (lvI X (Int.toNat X.s.2)).length [bF X] (lvI X (Int.toNat X.s.2))/\auW (au0 X)/\n<=(4294967296:Nat)/\rowOk (pkW pt pm))/\(((0:Int)<=(aaK n at'))/\(aaN n at')<=n)/\(jZ 1 (lvI X (Int.toNat X.s.2)).length [bF X] (lvI X (Int.toNat X.s.2))/\auW (au0 X)/\(aaN n at')<=(4294967296:Nat)/\rowOk (pkW pt pm))/\B4 Y.1/\(((0:Int)<=(aaK n at'))/\(aaN n at')<=n)/\(jZ 1 (lvI Y.1 (Int.toNat Y.1.s.2)).length [bF Y.1] (lvI Y.1 (Int.toNat Y.1.s.2))/\auW (au0 Y.1)/\n - (aaN n at')<=(4294967296:Nat)/\rowOk fun i=>pkW pt pm (aaN n at'+i))/\aC6 a z s t u KR A Y Z
end
abbrev aaA(X:EGS)(n:Nat)(row:Nat->List AVal):AUS:=(runA (au0 X) 0 (dY n row)).1
def aC8(sh th nd tr:Int)(m:Nat)(ln:Nat->Nat)(f g:Nat->Nat->Int)(n:Nat)(pt pm:Nat->Int)(at':Int)(a z:AUS)(s t u:List (List Int))(K:AVal->aC Ob->Prop):Prop:=fX (vRq ln f g)/\bif JU m n (vL (vRq ln f g))then K (.bool true) []else(m<=(1000000:Nat)/\fX (vRq ln f g))/\bif !ieq (gnC sh th nd tr m (vL (vRq ln f g)) (vK (vRq ln f g)) (vY (vRq ln f g))) 0 then K (.bool true) []else(n<=(4294967296:Nat)/\rowOk (pkW pt pm))/\bif ilt 50000 (↑(List.length (dY n (pkW pt pm))):Int)then K (.bool true) []else((((m<=(1000000:Nat)/\fX (vRq ln f g))/\gnC sh th nd tr m (vL (vRq ln f g)) (vK (vRq ln f g)) (vY (vRq ln f g))=(0:Int))/\B4 (CV sh th nd tr m (vRq ln f g)))/\True)/\((((m<=(1000000:Nat)/\fX (vRq ln f g))/\gnC sh th nd tr m (vL (vRq ln f g)) (vK (vRq ln f g)) (vY (vRq ln f g))=(0:Int))/\B4 (CV sh th nd tr m (vRq ln f g)))/\True)/\aC5 a z s t u (fun b=>K (.bool b) []) (aaA (CV sh th nd tr m (vRq ln f g)) n (pkW pt pm)) (aaA (CV sh th nd tr m (vRq ln f g)) (aaN n at') (pkW pt pm)) (aaA (aaA (CV sh th nd tr m (vRq ln f g)) (aaN n at') (pkW pt pm)).1 (n - aaN n at') (fun i=>pkW pt pm (aaN n at'+i))) (CV sh th nd tr m (vRq ln f g)) n pt pm at'
theorem PY(sh th nd tr:Int)(m:Nat)(ln:Nat->Nat)(f g:Nat->Nat->Int)(n:Nat)(pt pm:Nat->Int)(at':Int)(a z:AUS)(s t u:List (List Int))(K:AVal->aC Ob->Prop)(h:aC8 sh th nd tr m ln f g n pt pm at' a z s t u K):cT' 12 [.agg [.int .i64 sh,.int .i64 th,.int .i64 nd,.int .i64 tr,EG m ln f g],.view n 2 (pkW pt pm),.int .u8 at'] [] (eJ 0 K):=by
 exact aD (E:=EAA) Tryz.checked.mixed (L:=LAA a z s t u) (n:=10) (aJ (by kernel_rfl) h)
end Go.Sh
namespace Go.Sh
open Go Go.Proofs
variable [Con]
structure xZ (x y z:CNT):Prop where
 ch:x.ch=W (y.ch+z.ch)
 tk:x.tk=W (y.tk+z.tk)
 gv:x.gv=W (y.gv+z.gv)
 lo:x.lo=W (y.lo+z.lo)
 tw:x.tw=W (y.tw+z.tw)
structure cW (c:CNT):Prop where
 ch:W c.ch=c.ch
 tk:W c.tk=c.tk
 gv:W c.gv=c.gv
 lo:W c.lo=c.lo
 tw:W c.tw=c.tw
theorem PX(y z:Int):W (W (y+z)+1)=W (y+W (z+1)):=by
 show IntKind.wrap IntKind.i64 (IntKind.wrap IntKind.i64 (y+z)+1)=IntKind.wrap IntKind.i64 (y+IntKind.wrap IntKind.i64 (z+1));simp only [IntKind.wrap_i64];omega
theorem xZ.up{x y z:CNT}(h:xZ x y z):W (x.ch+1)=W (y.ch+W (z.ch+1))/\W (x.tk+1)=W (y.tk+W (z.tk+1))/\W (x.gv+1)=W (y.gv+W (z.gv+1))/\W (x.lo+1)=W (y.lo+W (z.lo+1))/\W (x.tw+1)=W (y.tw+W (z.tw+1)):=by
 obtain⟨h1,h2,h3,h4,h5⟩:=h;rw [h1,h2,h3,h4,h5];exact⟨PX _ _,PX _ _,PX _ _,PX _ _,PX _ _⟩
theorem CD{x y z:CNT}(h:xZ x y z)(n a:Int)(lv:List Int):xZ (cnCh n a lv x) y (cnCh n a lv z):=by
 obtain⟨u1,u2,u3,u4,u5⟩:=h.up;obtain⟨h1,h2,h3,h4,h5⟩:=h;unfold cnCh;cases ilt a 1 with
 | true=>exact⟨h1,h2,h3,h4,h5⟩
 | false=>
   cases ile (n+1+4) a with
   | true=>exact⟨h1,h2,h3,h4,h5⟩
   | false=>
     cases bG n a with
     | true=>cases frB lv a with
       | true=>exact⟨u1,h2,h3,u4,h5⟩
       | false=>exact⟨u1,h2,h3,h4,h5⟩
     | false=>exact⟨u1,h2,h3,h4,h5⟩
theorem CE{x y z:CNT}(h:xZ x y z)(k:Int)(ok:Bool)(nd:Int)(lv:List Int):xZ (cnLf k ok nd lv x) y (cnLf k ok nd lv z):=by
 obtain⟨u1,u2,u3,u4,u5⟩:=h.up;obtain⟨h1,h2,h3,h4,h5⟩:=h;unfold cnLf;cases (ieq k 3&&ok)with
 | true=>exact⟨h1,u2,h3,h4,h5⟩
 | false=>
   cases ieq k 4 with
   | true=>cases frB lv nd with
     | true=>exact⟨h1,h2,u3,h4,u5⟩
     | false=>exact⟨h1,h2,u3,h4,h5⟩
   | false=>exact⟨h1,h2,h3,h4,h5⟩
theorem aA2{x y z:CNT}(h:xZ x y z)(e:EGS)(lv:List Int):xZ (naC e lv x) y (naC e lv z):=by
 unfold naC;cases bG e.s.n (ndI e)<;>cases (e.s.ok&&(ieq e.s.k 2||ieq e.s.k 3))
 ·exact h
 ·exact CD h _ _ _
 ·exact CE h _ _ _ _
 ·exact CE (CD h _ _ _) _ _ _ _
theorem RF{c:CNT}(h:cW c)(n a:Int)(lv:List Int):cW (cnCh n a lv c):=by
 obtain⟨h1,h2,h3,h4,h5⟩:=h;unfold cnCh;cases ilt a 1 with
 | true=>exact⟨h1,h2,h3,h4,h5⟩
 | false=>
   cases ile (n+1+4) a with
   | true=>exact⟨h1,h2,h3,h4,h5⟩
   | false=>
     cases bG n a with
     | true=>cases frB lv a with
       | true=>exact⟨PW _,h2,h3,PW _,h5⟩
       | false=>exact⟨PW _,h2,h3,h4,h5⟩
     | false=>exact⟨PW _,h2,h3,h4,h5⟩
theorem RG{c:CNT}(h:cW c)(k:Int)(ok:Bool)(nd:Int)(lv:List Int):cW (cnLf k ok nd lv c):=by
 obtain⟨h1,h2,h3,h4,h5⟩:=h;unfold cnLf;cases (ieq k 3&&ok)with
 | true=>exact⟨h1,PW _,h3,h4,h5⟩
 | false=>
   cases ieq k 4 with
   | true=>cases frB lv nd with
     | true=>exact⟨h1,h2,PW _,h4,PW _⟩
     | false=>exact⟨h1,h2,PW _,h4,h5⟩
   | false=>exact⟨h1,h2,h3,h4,h5⟩
theorem aIG{c:CNT}(h:cW c)(e:EGS)(lv:List Int):cW (naC e lv c):=by
 unfold naC;cases bG e.s.n (ndI e)<;>cases (e.s.ok&&(ieq e.s.k 2||ieq e.s.k 3))
 ·exact h
 ·exact RF h _ _ _
 ·exact RG h _ _ _ _
 ·exact RG (RF h _ _ _) _ _ _ _
abbrev WO(ss:List (List Int)):List Int:=slAt ss (ss.length - 1)
theorem tL(ss:List (List Int))(x:List Int):WO (ss++ [x])=x:=by
 show slAt (ss++ [x]) ((ss++ [x]).length - 1)=x;have:(ss++ [x]).length - 1=ss.length:=by simp
 rw [this,vE,gD',List.getElem?_append_right (Nat.le_refl _),Nat.sub_self];rfl
theorem pE{e:EGS}{ss:List (List Int)}(h0:1<=ss.length)(h1:ss.length<=1000000):(bF e=WO ss/\naS e ss=ss)\/(bF e≠WO ss/\naS e ss=ss++ [bF e]):=by
 have hW:W ((ss.length:Int) - 1)=(ss.length:Int) - 1:=cG ⟨by omega,by omega⟩
 have hi:0+Int.toNat (W ((ss.length:Int) - 1))*1=ss.length - 1:=by rw [hW];omega
 unfold naS;rw [hi];cases hs:eE (bF e) (slAt ss (ss.length - 1))with
 | true=>exact .inl ⟨nG.1 hs,rfl⟩
 | false=>exact .inr ⟨(fun h=>by rw [show slAt ss (ss.length - 1)=bF e from h.symm,vD]at hs;cases hs),rfl⟩
structure lsW (y:AUS):Prop where
 c:cW y.c
 l:WO y.ss=bF y.e
theorem vJ{th nd:Int}{y:AUS}(h:acW th nd y):1<=y.ss.length/\y.ss.length<=1000000:=by
 have:=h.s1;have:=h.w.k;exact⟨h.s0,by omega⟩
theorem aFH{th nd:Int}{y:AUS}(hy:acW th nd y)(h:lsW y)(u:Int):lsW (PM u y):=by
 cases hd:(pkF u y.e).1 with
 | false=>rw [vU hy.w hd];exact h
 | true=>
   obtain⟨a1,a2,a3⟩:=sT hd;obtain⟨n0,n1⟩:=vJ hy;refine⟨?_,?_⟩
   ·show cW (apC u y.e y.lv y.c);rw [a1];exact aIG h.c _ _
   ·show WO (apS u y.e y.ss)=bF (pkF u y.e).2;rw [a2];rcases pE (e:=(pkF u y.e).2) n0 n1 with⟨e1,e2⟩ | ⟨_,e2⟩
    ·rw [e2,e1]
    ·rw [e2,tL]
theorem aAZ{th nd:Int}(us:List Int): ∀(x:AUS) (c:Int),acW th nd x->lsW x->lsW (runA x c us).1:=by
 induction us with
 | nil=>intro x c _ h;exact h
 | cons u us ih=>intro x c hx h;exact ih _ _ (B0 hx u) (aFH hx h u)
structure adR (y x z:AUS):Prop where
 e:x.e=z.e
 lv:x.lv=z.lv
 c:xZ x.c y.c z.c
 ss:x.ss=y.ss++z.ss.drop 1
 la:WO x.ss=WO z.ss
theorem aDb{th nd:Int}{y x z:AUS}(hx:acW th nd x)(hz:acW th nd z)(h:adR y x z)(u:Int):adR y (PM u x) (PM u z):=by
 cases hd:(pkF u x.e).1 with
 | false=>
   rw [vU hx.w hd,vU hz.w (by rw [<-h.e];exact hd)];exact h
 | true=>
   have aa:(pkF u z.e).1=true:=by rw [<-h.e];exact hd
   obtain⟨a1,a2,a3⟩:=sT hd;obtain⟨b1,b2,b3⟩:=sT aa;obtain⟨n0,n1⟩:=vJ hx;obtain⟨m0,m1⟩:=vJ hz;obtain⟨he,hl,hc,hs,ha⟩:=h
   have hS:apS u x.e x.ss=y.ss++(apS u z.e z.ss).drop 1/\WO (apS u x.e x.ss)=WO (apS u z.e z.ss):=by
    rw [a2,b2,he];rcases pE (e:=(pkF u z.e).2) n0 n1 with⟨e1,e2⟩ | ⟨e1,e2⟩<;>rcases pE (e:=(pkF u z.e).2) m0 m1 with⟨f1,f2⟩ | ⟨f1,f2⟩
    ·rw [e2,f2];exact⟨hs,ha⟩
    ·exact(f1 (e1.trans ha)).elim
    ·exact(e1 (f1.trans ha.symm)).elim
    ·rw [e2,f2,tL,tL];refine⟨?_,rfl⟩;rw [List.drop_append_of_le_length m0,<-List.append_assoc,<-hs]
   refine⟨?_,?_,?_,hS.1,hS.2⟩
   ·show(pkF u x.e).2=(pkF u z.e).2;rw [he]
   ·show FP u x.e x.lv=FP u z.e z.lv;rw [he,hl]
   ·show xZ (apC u x.e x.lv x.c) y.c (apC u z.e z.lv z.c);rw [a1,b1,he,hl];exact aA2 hc _ _
theorem XA{th nd:Int}{y:AUS}(us:List Int): ∀(x z:AUS) (c d:Int),acW th nd x->acW th nd z->adR y x z->adR y (runA x c us).1 (runA z d us).1:=by
 induction us with
 | nil=>intro x z c d _ _ h;exact h
 | cons u us ih=>intro x z c d hx hz h;exact ih _ _ _ _ (B0 hx u) (B0 hz u) (aDb hx hz h u)
theorem aGh(us:List Int): ∀(x:AUS) (c d:Int),(runA x c us).1=(runA x d us).1:=by
 induction us with
 | nil=>intro x c d;rfl
 | cons u us ih=>intro x c d;exact ih _ _ _
theorem P9(th tm:Nat->Int)(b:Nat): ∀(a i:Nat) (left:Int),allF th tm (a+b) i left=allF th tm a i left++allF th tm b (i+a) (left - ((allF th tm a i left).length :Int)):=by
 intro a
 induction a with
 | zero=>intro i left;show allF th tm (0+b) i left=[]++allF th tm b i (left - ((0:Nat):Int));rw [Nat.zero_add,List.nil_append];congr 1;omega
 | succ a ih=>
   intro i left;rw [show a+1+b=(a+b)+1 from by omega]
   show List.replicate (min (tm i) left).toNat (th i)++allF th tm (a+b) (i+1) (left - ((min (tm i) left).toNat :Int))=(List.replicate (min (tm i) left).toNat (th i)++allF th tm a (i+1) (left - ((min (tm i) left).toNat :Int)))++allF th tm b (i+(a+1)) (left - ((List.replicate (min (tm i) left).toNat (th i)++allF th tm a (i+1) (left - ((min (tm i) left).toNat :Int))).length :Int));rw [ih,List.append_assoc,List.length_append,List.length_replicate,show i+(a+1)=i+1+a from by omega]
   congr 2;congr 1;omega
theorem XF(th tm:Nat->Int)(k:Nat): ∀(n i:Nat) (left:Int),allF (fun j=>th (k+j)) (fun j=>tm (k+j)) n i left=allF th tm n (k+i) left:=by
 intro n
 induction n with
 | zero=>intro i left;rfl
 | succ n ih=>
   intro i left;show List.replicate (min (tm (k+i)) left).toNat (th (k+i))++allF (fun j=>th (k+j)) (fun j=>tm (k+j)) n (i+1) (left - ((min (tm (k+i)) left).toNat :Int))=List.replicate (min (tm (k+i)) left).toNat (th (k+i))++allF th tm n (k+i+1) (left - ((min (tm (k+i)) left).toNat :Int));rw [ih];rfl
theorem XG(th tm:Nat->Int): ∀(n i:Nat) (l1 l2:Int),((allF th tm n i l1).length :Int)<l1->l1<=l2->allF th tm n i l1=allF th tm n i l2:=by
 intro n
 induction n with
 | zero=>intro i l1 l2 _ _;rfl
 | succ n ih=>
   intro i l1 l2 h1 h2;have h1:(((List.replicate (min (tm i) l1).toNat (th i)++allF th tm n (i+1) (l1 - ((min (tm i) l1).toNat :Int))).length :Nat):Int)<l1:=h1;rw [List.length_append,List.length_replicate]at h1;have e:(min (tm i) l1).toNat =(min (tm i) l2).toNat :=by omega
   show List.replicate (min (tm i) l1).toNat (th i)++allF th tm n (i+1) (l1 - ((min (tm i) l1).toNat :Int))=List.replicate (min (tm i) l2).toNat (th i)++allF th tm n (i+1) (l2 - ((min (tm i) l2).toNat :Int));rw [ih (i+1) (l1 - ((min (tm i) l1).toNat :Int)) (l2 - ((min (tm i) l2).toNat :Int)) omz omz,e]
theorem OJ(pt pm:Nat->Int){n k:Nat}(hk:k<=n)(hl:(dY n (pkW pt pm)).length <=50000):dY n (pkW pt pm)=dY k (pkW pt pm)++dY (n - k) (fun i=>pkW pt pm (k+i)):=by
 have e:n=k+(n - k):=by omega
 have hl:(allF pt pm n 0 60000).length <=50000:=hl;have h1:=P9 pt pm (n - k) k 0 60000;rw [<-e]at h1;rw [h1,List.length_append]at hl;show allF pt pm n 0 60000=allF pt pm k 0 60000++allF (fun j=>pt (k+j)) (fun j=>pm (k+j)) (n - k) 0 60000;rw [h1,XF];congr 1;rw [Nat.zero_add,Nat.add_zero];refine XG pt pm (n - k) k _ 60000 ?_ omz;rw [Nat.zero_add]at hl;omega
theorem H8{I:Itp Ob}{H:Hint Ob}{ok:H.X->Prop}{tm tm2:List AVal}{h h2:aC Ob}(ht:aF I 0 (.tup tm) h (.tup tm2) h2)(q:H.X)(h1:H.st q=(tm2,h2))(hq:ok q):okT I 0 H ok tm h:=⟨⟨tm2,h2,ht,aR q h1 hq⟩⟩
theorem aI3{v:Int}(h:v8 (some .u8) v):0<=v/\v<256:=by
 have h:(Lit.int .u8 v).wf =true:=h;have h1:IntKind.u8.min=0:=rfl;have h2:IntKind.u8.max=255:=rfl;simp only [Lit.wf,Bool.and_eq_true,dT',h1,h2]at h;omega
structure aaS (s t u:List (List Int)):Prop where
 hs:s=t++u.drop 1
 ht:1<=t.length
 hu:1<=u.length
 n:s.length<=1000000
 it: ∀i,i<s.length->(slAt s i).length <=4294967296
theorem aJx{k:Nat}(h:k<=1000000):W ((k:Int)+1)=((k+1:Nat):Int):=by
 have:W ((k:Int)+1)=(k:Int)+1:=cG ⟨by omega,by omega⟩
 rw [this];omega
set_option maxRecDepth 100000 in
theorem aC4{a z:AUS}{s:List (List Int)}{x:Nat}(hx:x<s.length)(hn:s.length<=1000000):aaL a z s x:=by
 have hi:0+Int.toNat (↑x:Int)*1<s.length:=by omega
 unfold aaL;rw [aJx omz];refine H8 (H:=WY a z s) ((aL7 (l:=8) (k:=9) rfl rfl dS hi).trans ((aL7 (l:=10) (k:=11) rfl rfl dS hi).trans (aF.pick [0,1,2,3,4,5,6,7,8,10] rfl))) (x+1:Nat) rfl ⟨⟨by show x+1<=s.length;omega⟩,?_⟩
 show s.length - (x+1)<s.length - x;omega
theorem W9{a z:AUS}{s t u:List (List Int)}(h:aaS s t u)(he:a.1=z.1)(ho:KP a.1){KR:Bool->Prop}(hK:KR true):aC7 a z s t u KR:=by
 obtain⟨hs,ht,hu,hn,hit⟩:=h;have hl:s.length=t.length+(u.length - 1):=by rw [hs,List.length_append,List.length_drop]
 have ae:0+t.length+(u.length - Int.toNat 1)=s.length:=by
  have:Int.toNat 1=1:=rfl;omega
 have aa: []++List.drop 0 t++List.drop (0+Int.toNat 1*1) u=s:=hs.symm;unfold aC7;rw [aa,ae];refine⟨⟨rfl,by omega,by omega⟩,⟨by omega,hu⟩,⟨by show 0+t.length=t.length;omega,by show 0+1*1+(u.length - 1)=u.length;omega,by omega⟩,H8 (H:=WY a z s) (aLM _ _ _) (0:Nat) rfl ⟨Nat.zero_le _⟩,fun x hx=>aK (fun e=>?_) (fun e=>⟨⟨⟨he,ho⟩,trivial⟩,hK⟩)⟩
 have e:=f9 e;have ac:x<s.length:=by omega
 have hi:0+Int.toNat (↑x:Int)*1<s.length:=by omega
 rw [vD];exact⟨⟨by omega,e⟩,hi,⟨by omega,e⟩,hi,⟨⟨rfl,rfl⟩,hit _ hi⟩,aC4 ac hn⟩
theorem aH5{th nd:Int}{x:AUS}(hx:acW th nd x)(u:Int):slAt (PM u x).ss 0=slAt x.ss 0:=by
 cases hd:(pkF u x.e).1 with
 | false=>rw [vU hx.w hd]
 | true=>
   obtain⟨n0,n1⟩:=vJ hx;obtain⟨_,a2,_⟩:=sT hd;show slAt (apS u x.e x.ss) 0=_;rw [a2];rcases pE (e:=(pkF u x.e).2) n0 n1 with⟨_,e2⟩ | ⟨_,e2⟩
   ·rw [e2]
   ·rw [e2,vE,vE,gD',List.getElem?_append_left omz,<-gD']
theorem aEP{th nd:Int}(us:List Int): ∀(x:AUS) (c:Int),acW th nd x->slAt (runA x c us).1.ss 0=slAt x.ss 0:=by
 induction us with
 | nil=>intro x c _;rfl
 | cons u us ih=>intro x c hx;exact(ih _ _ (B0 hx u)).trans (aH5 hx u)
set_option maxRecDepth 100000 in
theorem W8{th nd:Int}{A Y Z:AUS}(hA:acW th nd A)(hY:acW th nd Y)(hZ:acW th nd Z)(h:adR Y A Z)(hla:WO Y.ss=slAt Z.ss 0){KR:Bool->Prop}(hK:KR true):aC6 A Z A.ss Y.ss Z.ss KR A Y Z:=by
 obtain⟨he,hl,⟨c1,c2,c3,c4,c5⟩,hs,_⟩:=h;have hr: ∀a:Int,ieq a a=true:=fun a=>by simp [cI]
 obtain⟨y0,y1⟩:=vJ hY;obtain⟨z0,z1⟩:=vJ hZ;obtain⟨a0,a1⟩:=vJ hA;have ag:A.ss.length=Y.ss.length+(Z.ss.length - 1):=by rw [hs,List.length_append,List.length_drop]
 have hW:W (W ((↑Y.ss.length:Int)+(↑Z.ss.length:Int)) - 1)=(A.ss.length:Int):=by
  have e1:W ((↑Y.ss.length:Int)+(↑Z.ss.length:Int))=(Y.ss.length:Int)+Z.ss.length:=cG ⟨by omega,by omega⟩
  rw [e1];have e2:W ((↑Y.ss.length:Int)+(↑Z.ss.length:Int) - 1)=(Y.ss.length:Int)+Z.ss.length - 1:=cG ⟨by omega,by omega⟩
  rw [e2];omega
 have aa:W ((↑Y.ss.length:Int) - 1)=(Y.ss.length:Int) - 1:=cG ⟨by omega,by omega⟩
 have af:aaI1 Y=Y.ss.length - 1:=by
  show 0+Int.toNat (W ((↑Y.ss.length:Int) - 1))*1=_;rw [aa];omega
 have ac:Y.ss.length - 1<Y.ss.length:=by omega
 have ae:eE (slAt Y.ss (Y.ss.length - 1)) (slAt Z.ss (0+Int.toNat 0*1))=true:=by
  rw [show slAt Z.ss (0+Int.toNat 0*1)=slAt Z.ss 0 from rfl,<-hla,vD]
 have f1:ieq (↑Y.ss.length:Int) 0=false:=by
  cases e:ieq (↑Y.ss.length:Int) 0 with
  | true=>have:=rZ e;omega
  | false=>rfl
 have f2:ieq (↑Z.ss.length:Int) 0=false:=by
  cases e:ieq (↑Z.ss.length:Int) 0 with
  | true=>have:=rZ e;omega
  | false=>rfl
 unfold aC6;rw [c1,c2,c3,c4,c5,hr,hr,hr,hr,hr,hW,hr,f1,f2,af,ae];refine⟨⟨⟨rfl,rfl⟩,⟨a0,by omega,hA.it⟩⟩,⟨⟨rfl,rfl⟩,⟨y0,by omega,hY.it⟩⟩,⟨⟨rfl,rfl⟩,⟨z0,by omega,hZ.it⟩⟩,⟨⟨by rw [aa];omega,by rw [aa];omega⟩,by rw [aa];omega,⟨by omega,by omega⟩,by show 0+0*1<_;omega,⟨⟨rfl,rfl⟩,hY.it _ ac⟩,?_⟩,fun _ _=>W9 ⟨hs,y0,z0,a1,hA.it⟩ he ⟨⟨_,_,hA.w⟩⟩ hK⟩
 exact H8 (H:=HJA A Z A.ss Y.ss Z.ss) ((aL7 (l:=9) (k:=10) rfl rfl dS ac).trans ((aL7 (l:=11) (k:=12) rfl rfl dS omz).trans (aF.pick [0,1,2,3,4,5,6,7,8,9,11] rfl))) () rfl trivial
theorem QO{th nd:Int}{X:EGS}(hw:egW th nd X):acW th nd (au0 X)/\B4 X:=by
 have r1:=hw.ht;have r2:=hw.hn;have r3:=hw.st;have r4:=hw.sn;have hk:=hw.k;refine⟨⟨hw,by show lvI X (Int.toNat X.s.n)=_;rw [r4],Nat.le_refl _,by show((1:Nat):Int)<=X.k+1;omega,fun i hi=>?_,rfl,rfl⟩,⟨⟨by omega,by omega⟩,⟨by omega,by omega⟩,gK ⟨by omega,by omega⟩⟩⟩
 have:i=0:=by have:i<1:=hi;omega
 subst this;exact gK (x:=X) ⟨by omega,by omega⟩
theorem W7{th nd:Int}{X:EGS}{n k:Nat}{pt pm:Nat->Int}{at':Int}(hw:egW th nd X)(hn:n<=60)(hk:k<=n)(ek:aaK n at'=(k:Int))(hl:(dY n (pkW pt pm)).length <=50000){KR:Bool->Prop}(hK:KR true):aC5 (aaA X n (pkW pt pm)) (aaA (aaA X k (pkW pt pm)).1 (n - k) (fun i=>pkW pt pm (k+i))) (aaA X n (pkW pt pm)).ss (aaA X k (pkW pt pm)).ss (aaA (aaA X k (pkW pt pm)).1 (n - k) (fun i=>pkW pt pm (k+i))).ss KR (aaA X n (pkW pt pm)) (aaA X k (pkW pt pm)) (aaA (aaA X k (pkW pt pm)).1 (n - k) (fun i=>pkW pt pm (k+i))) X n pt pm at':=by
 obtain⟨hx,ai⟩:=QO hw;have ah:aaN n at'=k:=by show Int.toNat (aaK n at')=k;rw [ek];omega
 have hY:=A4 (dY k (pkW pt pm)) (au0 X) 0 hx;have hA:=A4 (dY n (pkW pt pm)) (au0 X) 0 hx;have ac:=aAZ (dY k (pkW pt pm)) (au0 X) 0 hx ⟨⟨rfl,rfl,rfl,rfl,rfl⟩,rfl⟩
 have af:aaA X n (pkW pt pm)=(runA (aaA X k (pkW pt pm)) 0 (dY (n - k) (fun i=>pkW pt pm (k+i)))).1:=by
  show(runA (au0 X) 0 (dY n (pkW pt pm))).1=_;rw [OJ pt pm hk hl,FE];exact aGh _ _ _ 0
 have hY:acW th nd (aaA X k (pkW pt pm)):=hY;have hA:acW th nd (aaA X n (pkW pt pm)):=hA;have ac:lsW (aaA X k (pkW pt pm)):=ac;generalize aaA X k (pkW pt pm)=Y at*;obtain⟨aa,ae⟩:=QO hY.w;have hZ:=A4 (dY (n - k) (fun i=>pkW pt pm (k+i))) (au0 Y.1) 0 aa
 have h0:adR Y Y (au0 Y.1):=by
  obtain⟨⟨k1,k2,k3,k4,k5⟩,kl⟩:=ac;refine⟨rfl,?_,⟨?_,?_,?_,?_,?_⟩,by show Y.ss=Y.ss++ [];rw [List.append_nil],kl⟩
  ·show Y.lv=lvI Y.e (Int.toNat Y.e.s.n);rw [hY.l,hY.w.sn]
  ·show _=W (_+0);rw [Int.add_zero,k1]
  ·show _=W (_+0);rw [Int.add_zero,k2]
  ·show _=W (_+0);rw [Int.add_zero,k3]
  ·show _=W (_+0);rw [Int.add_zero,k4]
  ·show _=W (_+0);rw [Int.add_zero,k5]
 have hR:=XA (dY (n - k) (fun i=>pkW pt pm (k+i))) Y (au0 Y.1) 0 0 hY aa h0;rw [<-af]at hR;have ag:slAt (runA (au0 Y.1) 0 (dY (n - k) (fun i=>pkW pt pm (k+i)))).1.ss 0=bF Y.e:=aEP _ _ _ aa;unfold aC5;rw [ah,ek];refine⟨⟨⟨rfl,rfl⟩,⟨⟨_,_,hx⟩⟩,by omega,⟨⟨_,_,rfl⟩⟩⟩,⟨by omega,hk⟩,⟨⟨rfl,rfl⟩,⟨⟨_,_,hx⟩⟩,by omega,⟨⟨_,_,rfl⟩⟩⟩,ae,⟨by omega,hk⟩,⟨⟨rfl,rfl⟩,⟨⟨_,_,aa⟩⟩,by omega,⟨⟨_,_,rfl⟩⟩⟩,W8 hA hY hZ hR (by rw [ac.l];exact ag.symm) hK⟩
set_option maxRecDepth 100000 in
theorem aC9(sh th nd tr:Int)(m:Nat)(ln:Nat->Nat)(f g:Nat->Nat->Int)(n:Nat)(pt pm:Nat->Int)(at':Int)(hat:0<=at'/\at'<256):cT' 12 [.agg [.int .i64 sh,.int .i64 th,.int .i64 nd,.int .i64 tr,EG m ln f g],.view n 2 (pkW pt pm),.int .u8 at'] [] (fun v _=>v=.bool true):=by
 let X:=CV sh th nd tr m (vRq ln f g)
 let k:=min at'.toNat n
 let A:=aaA X n (pkW pt pm)
 let Y:=aaA X k (pkW pt pm)
 let Z:=aaA Y.1 (n - k) (fun i=>pkW pt pm (k+i))
 refine aLw (PY sh th nd tr m ln f g n pt pm at' A Z A.ss Y.ss Z.ss (fun v _=>v=.bool true) ?_);have eW:W at'=at':=cG ⟨by omega,by omega⟩
 have ae:k<=n:=Nat.min_le_right _ _
 have ek:aaK n at'=(k:Int):=by
  show(bif ilt (n:Int) (W at')then(n:Int)else W at')=((min at'.toNat n:Nat):Int);rw [eW];cases e:ilt (n:Int) at' with
  | true=>have:=f9 e;show(n:Int)=_;omega
  | false=>have:=f8 e;show at'=_;omega
 have af:aaN n at'=k:=by show Int.toNat (aaK n at')=k;rw [ek];omega
 have aa:fX (vRq ln f g):=⟨rfl⟩;unfold aC8;refine⟨aa,aK (fun _=>rfl) (fun h0=>?_)⟩;have hb:=aIe h0;have hm:m<=1000000:=by omega
 refine⟨⟨hm,aa⟩,aK (fun _=>rfl) (fun h1=>?_)⟩
 have h1:gnC sh th nd tr m (vL (vRq ln f g)) (vK (vRq ln f g)) (vY (vRq ln f g))=0:=by
  have:ieq (gnC sh th nd tr m (vL (vRq ln f g)) (vK (vRq ln f g)) (vY (vRq ln f g))) 0=true:=by simpa using h1
  exact rZ this
 refine⟨⟨by omega,⟨⟨_,_,rfl⟩⟩⟩,aK (fun _=>rfl) (fun hl=>?_)⟩
 have hl:=f8 hl;have hw:egW th nd X:=JH h1;have ac:=(QO hw).2;rw [af];exact⟨⟨⟨⟨⟨hm,aa⟩,h1⟩,ac⟩,trivial⟩,⟨⟨⟨⟨hm,aa⟩,h1⟩,ac⟩,trivial⟩,W7 hw omz ae ek omz rfl⟩
end Go.Sh
