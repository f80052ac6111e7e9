import Derived.RangeFuncLeaves
import Derived.Test.YteindpciaceeeaaGreatZSh42
set_option linter.all false
set_option maxHeartbeats 8000000
namespace Go.Sh
open Go Go.Proofs
variable [Con]
noncomputable def xA:Env Ob Tryz.prog:=aIK ((((((((EAz.addS 25 gn2S SF).addR 26 cfR QK).addS 54 abS aGI).addS 51 aw22S XD).addS 63 auFiS W7).addS 62 auRuS W9).addS 23 grS aB0).addS 42 onS aIw) rfl
def IU:Nat->Code->Code
 | 0,c=>c
 | k+1,c=>IU k (iP c)
noncomputable def FL:Code:=(Tryz.f11.body).getD .skip
noncomputable def arX:List Code:=[dG FL,dG (IU 1 FL),dG (IU 2 FL),dG (IU 3 FL),dG (IU 4 FL),dG (IU 5 FL),dG (dG (IU 6 FL))]
noncomputable def K8:Code:=dG (iP (dG (IU 6 FL)))
noncomputable def arZ:Code:=IU 7 FL
abbrev vRq(ln:Nat->Nat)(f g:Nat->Nat->Int):Nat->List AVal:=fun i=>[.view (ln i) 2 fun j=>[.int .i64 (f i j),.int .i64 (g i j)]]
abbrev jobQ(sh th nd tr:Int)(m:Nat)(ln:Nat->Nat)(f g:Nat->Nat->Int):Option (aG Ob):=some (.cells [.int .i64 sh,.int .i64 th,.int .i64 nd,.int .i64 tr,wG m ln f g])
abbrev xD(l s v:Nat)(y:AUS):Option (aG Ob):=some (.cells [.ptr (l+1) 0,.int .i64 y.c.ch,.int .i64 y.c.tk,.int .i64 y.c.gv,.int .i64 y.c.lo,.int .i64 y.c.tw,.slice s 0 y.ss.length 1,.slice v 0 y.lv.length 1])
abbrev xE(y:AUS):Option (aG Ob):=some (.abs (.engine y.e) [])
abbrev tY(y:AUS):Option (aG Ob):=some (.abs (.srow y.ss) [])
abbrev xF(y:AUS):Option (aG Ob):=some (.ints (some .u64) y.lv)
abbrev arTm(n:Nat)(pt pm:Nat->Int)(v:AVal):List AVal:=[.O,.view n 2 (pkW pt pm),.ptr 0 0,.O,.O,.ptr 1 0,.ptr 5 0,.ptr 9 0]++List.replicate 27 .O ++ [v]++List.replicate 98 .O
abbrev hpR(J:Option (aG Ob))(a b:AUS)(k:Int):aB Ob:=[J,xD 1 3 4 a,xE a,tY a,xF a,some (.cells [.ptr 6 0]),xD 6 10 8 b,xE b,xF b,some (.cells [.int .i64 k]),tY b]
abbrev hpG(J:Option (aG Ob))(a b:AUS)(k:Int):aB Ob:=[J,xD 1 3 4 a,xE a,tY a,xF a,some (.cells [.ptr 6 0]),xD 6 8 9 b,xE b,tY b,xF b,some (.cells [.int .i64 k])]
structure arT (p:Prop):Prop where
 h:p
def HR0(J:Option (aG Ob))(n:Nat)(pt pm:Nat->Int)(a:AUS)(p:Prop):Hint Ob:= {X:=Nat,st:=fun _=>(arTm n pt pm (.func (.func 114) [] [.ptr 11 0]),hpR J a a 0++ [some (.cells [.view n 2 (pkW pt pm)])]),ok:=fun _=>arT p,mu:=fun _=>0,keep:=[1,2,5,6,7,35] }
abbrev K9(n:Nat)(pt pm:Nat->Int)(b:Bool)(i:Int):List AVal:=[.O,.O,.ptr 0 0,.O,.O,.ptr 1 0,.ptr 5 0,.ptr 10 0,.O,.bool b,.int .i64 i]++List.replicate 123 .O
def PL(J:Option (aG Ob))(th:Int)(n:Nat)(pt pm:Nat->Int)(a:AUS):Hint Ob:= {X:=Nat,st:=fun i=>(K9 n pt pm (finS a i).2 (i:Int),hpG J a (finS a i).1 (finS a i).1.e.k),ok:=Y6 th,mu:=fun i=>th.toNat - i,keep:=[2,5,6,7,9,10] }
def WI(J:Option (aG Ob))(th:Int)(n:Nat)(pt pm:Nat->Int)(a:AUS)(i:Nat):Hint Ob:= {X:=Nat,st:=fun j=>(K9 n pt pm (finS a i).2 (i:Int),hpG J a (itA i j (finS a i).1) (itA i j (finS a i).1).e.k),ok:=itO i (finS a i).1,mu:=fun j=>60001 - j,keep:=[2,5,6,7,9,10] }
structure ac4 (n:Int) (q:Nat×List (List Int)):Prop where
 h:q.1<=q.2.length
 n:n=(q.2.length:Int)
 it: ∀i,i<q.2.length->(slAt q.2 i).length <=4294967296
def WJ(a b:AUS)(n:Int):Hint Ob:= {X:=Nat×List (List Int),st:=fun q=>(List.replicate 5 .O ++ [.ptr 0 0,.ptr 4 0]++List.replicate 4 .O ++ [.slice 9 0 q.2.length 1,.slice 10 0 q.2.length 1]++List.replicate 84 .O ++ [.int .i64 n,.int .i64 (q.1:Int)]++List.replicate 35 .O,[xD 0 2 3 a,xE a,tY a,xF a,some (.cells [.ptr 5 0]),xD 5 7 8 b,xE b,tY b,xF b,some (.abs (.srow q.2) []),some (.abs (.srow q.2) [])]),ok:=ac4 n,mu:=fun q=>n.toNat - q.1,keep:=[5,6,11,12,97,98] }
def LAR(J:Option (aG Ob))(th:Int)(n:Nat)(pt pm:Nat->Int)(a z:AUS):Nat->Option (kK Ob):=fun j=>match j with
 | 17=>some (.told [] fun _=>PL J th n pt pm a)
 | 19=>some (.told [10] fun is=>match is with
   | [i]=>WI J th n pt pm a i.toNat
   | _=>PL J th n pt pm a)
 | 26=>some (.told [97] fun is=>match is with
   | [k]=>WJ z z k
   | _=>PL J th n pt pm a)
 | _=>none
abbrev au0(X:EGS):AUS:=⟨X,⟨0,0,0,0,0⟩,[bM X],lvI X (Int.toNat X.s.n)⟩
abbrev arG(sh th nd tr:Int)(m:Nat)(ln:Nat->Nat)(f g:Nat->Nat->Int):Prop:=((((m<=(1000000:Nat)/\f6 (vRq ln f g))/\gnC sh th nd tr m (vL (vRq ln f g)) (vK (vRq ln f g)) (vY (vRq ln f g))=(0:Int))/\auNk (egX sh th nd tr m (vRq ln f g)))/\True)
def BV(sh th nd tr:Int)(m:Nat)(ln:Nat->Nat)(f g:Nat->Nat->Int)(n:Nat)(pt pm:Nat->Int)(a:AUS)(p:Prop)(KR:AVal->aB Ob->Prop):Prop:=f6 (vRq ln f g)/\bif JN m n (vL (vRq ln f g))then KR (.bool true) [jobQ sh th nd tr m ln f g]else(m<=(1000000:Nat)/\f6 (vRq ln f g))/\bif !ieq (gnC sh th nd tr m (vL (vRq ln f g)) (vK (vRq ln f g)) (vY (vRq ln f g))) 0 then KR (.bool true) [jobQ sh th nd tr m ln f g,jobQ sh th nd tr m ln f g]else arG sh th nd tr m ln f g/\arG sh th nd tr m ln f g/\H2 (obI tbl) 0 (HR0 (jobQ sh th nd tr m ln f g) n pt pm a p) (Hint.ok (HR0 (jobQ sh th nd tr m ln f g) n pt pm a p)) ([.O,.view n 2 (pkW pt pm),.ptr 0 0,.O,.O,.ptr 1 0,.ptr 5 0,.ptr 10 0]++List.replicate 27 .O ++ [.func (Fn.func 114) [] [.ptr 11 0]]++List.replicate 98 .O) (hpG (jobQ sh th nd tr m ln f g) (au0 (egX sh th nd tr m (vRq ln f g))) (au0 (egX sh th nd tr m (vRq ln f g))) 0++ [some (.cells [.view n 2 (pkW pt pm)])])
abbrev arK(H:Hint Ob)(KR:AVal->aB Ob->Prop):kJ Ob:=fun e tm h=>match e with | .normal =>pO (obI tbl) H 0 tm h H.ok | .exit _=>False | .ret =>KR (tm.getD 4 .O) h
theorem K6(sh th nd tr:Int)(m:Nat)(ln:Nat->Nat)(f g:Nat->Nat->Int)(n:Nat)(pt pm:Nat->Int)(a:AUS)(p:Prop)(KR:AVal->aB Ob->Prop)(h:BV sh th nd tr m ln f g n pt pm a p KR):Ev (mR xA (iY xA LL 9) (fun _=>none) 134 0 arX ([.agg [.int .i64 sh,.int .i64 th,.int .i64 nd,.int .i64 tr,wG m ln f g],.view n 2 (pkW pt pm)]++List.replicate 132 (.raw undef)) [] (arK (HR0 (jobQ sh th nd tr m ln f g) n pt pm a p) KR)):=aJ (q:=BV sh th nd tr m ln f g n pt pm a p KR) (by kernel_rfl) h
abbrev hpB(J:Option (aG Ob))(a b:AUS)(k:Int):aB Ob:=[J,xD 1 3 4 a,xE a,tY a,xF a,some (.cells [.ptr 6 0]),xD 6 11 8 b,xE b,xF b,some (.cells [.int .i64 k]),none,tY b]
def aBK(J:Option (aG Ob))(n:Nat)(pt pm:Nat->Int)(a b:AUS)(k u:Int)(K:aB Ob->Prop):Prop:=(iO b.ss.length b.lv.length b.ss b.lv/\zJ u b.e b.ss b.lv)/\bif (pkF u b.e).1 then K (hpB J a (apF u b) (W (k+1)))else K (hpB J a (apF u b) k)
theorem K5(J:Option (aG Ob))(n:Nat)(pt pm:Nat->Int)(a b:AUS)(k u:Int)(K:aB Ob->Prop)(h:aBK J n pt pm a b k u K):Ev (cI xA (iY xA LL 9) 134 (sJ K8) (List.set (arTm n pt pm .O) 36 (.int .i64 u)) (hpR J a b k) (fun tm1 h1=>cI xA (iY xA LL 9) 134 (sK K8) tm1 h1 (fun _ h2=>K h2))):=aJ (q:=aBK J n pt pm a b k u K) (by kernel_rfl) h
end Go.Sh
namespace Go.Sh
open Go Go.Proofs
variable [Con]
abbrev S1(q:Nat×List (List Int)):Nat:=0+Int.toNat (↑q.1:Int)*1
section
variable (J:Option (aG Ob)) (th:Int) (n:Nat) (pt pm:Nat->Int) (Y b z:AUS) (k:Int)
def arL1(x:Nat)(B:Bool)(y:AUS)(c:Int):Prop:=H2 (Env.I xA) 0 (PL J th n pt pm b) (fun x'=>Hint.ok (PL J th n pt pm b) x'/\Hint.mu (PL J th n pt pm b) x'<Hint.mu (PL J th n pt pm b) x) (K9 n pt pm B (W ((x:Int)+1))) (hpG J b (apF x y) c)
def aGP(x j:Nat)(y:AUS):Prop:=H2 (Env.I xA) 0 (WI J th n pt pm b x) (fun x'=>Hint.ok (WI J th n pt pm b x) x'/\Hint.mu (WI J th n pt pm b x) x'<Hint.mu (WI J th n pt pm b x) j) (K9 n pt pm (finS b x).2 x) (hpG J b (apF x y) (W (y.e.k+1)))
def aGQ(x:Nat):Prop:=H2 (Env.I xA) 0 (WI J th n pt pm b x) (Hint.ok (WI J th n pt pm b x)) (K9 n pt pm (finS b x).2 x) (hpG J b (finS b x).1 (finS b x).1.e.k)/\ ∀(j:Nat),itO x (finS b x).1 j->(iO (itA x j (finS b x).1).ss.length (itA x j (finS b x).1).lv.length (itA x j (finS b x).1).ss (itA x j (finS b x).1).lv /\zJ x (itA x j (finS b x).1).e (itA x j (finS b x).1).ss (itA x j (finS b x).1).lv)/\bif (pkF x (itA x j (finS b x).1).e).1 then aGP J th n pt pm b x j (itA x j (finS b x).1)else bif (finS b x).2 then True/\arL1 J th n pt pm b x (ieq (gL x (pkF x (itA x j (finS b x).1).e).2) 0) (itA x j (finS b x).1) (itA x j (finS b x).1).e.k else arL1 J th n pt pm b x false (itA x j (finS b x).1) (itA x j (finS b x).1).e.k
abbrev tm3(l1 l2 s:Nat)(n k:Int):List AVal:=List.replicate 5 .O ++ [.ptr 0 0,.ptr 4 0]++List.replicate 4 .O ++ [.slice 9 0 l1 1,.slice s 0 l2 1]++List.replicate 84 .O ++ [.int .i64 n,.int .i64 k]++List.replicate 35 .O
abbrev hp3(a b:AUS):aB Ob:=[xD 0 2 3 a,xE a,tY a,xF a,some (.cells [.ptr 5 0]),xD 5 7 8 b,xE b,tY b,xF b]
def aCS(N:Nat)(q:Nat×List (List Int)):Prop:=H2 (Env.I xA) 0 (WJ z z (Int.ofNat N)) (fun x'=>Hint.ok (WJ z z (Int.ofNat N)) x'/\Hint.mu (WJ z z (Int.ofNat N)) x'<Hint.mu (WJ z z (Int.ofNat N)) q) (tm3 q.2.length q.2.length 11 (N:Int) (W ((q.1:Int)+1))) (hp3 z z++ [some (.abs (.shole q.2 (S1 q)) [10]),some (.ints (some .i64) (slAt q.2 (S1 q))),some (.abs (.shole q.2 (S1 q)) [12]),some (.ints (some .i64) (slAt q.2 (S1 q)))])
def aGR(N:Nat)(KR:AVal->Prop):Prop:= ∀(q:Nat×List (List Int)),ac4 (↑N:Int) q->bif ilt (↑q.1:Int) (↑N:Int)then bif ile (↑q.2.length:Int) (↑q.1:Int)then KR (.bool false)else((0:Int)<=(↑q.1:Int)/\(↑q.1:Int)<(↑q.2.length:Int))/\0+Int.toNat (↑q.1:Int)*(1:Nat)<q.2.length/\((0:Int)<=(↑q.1:Int)/\(↑q.1:Int)<(↑q.2.length:Int))/\0+Int.toNat (↑q.1:Int)*(1:Nat)<q.2.length/\((lE' (slAt q.2 (S1 q))/\lE' (slAt q.2 (S1 q)))/\List.length (slAt q.2 (S1 q))<=(4294967296:Nat))/\bif !eR (slAt q.2 (S1 q)) (slAt q.2 (S1 q))then KR (.bool false)else aCS z N q else bif ieq (↑q.2.length:Int) (↑q.2.length:Int)then((z.e=z.e/\TU z.e)/\True)/\KR (.bool true)else KR (.bool false)
def aCU(F B:AUS×Bool)(KR:AVal->Prop):Prop:=bif !bif F.2 then B.2 else !B.2 then KR (.bool false)else True/\bif !ieq B.1.e.k B.1.e.k then KR (.bool false)else bif !bif ieq F.1.c.1 B.1.c.1 then bif ieq F.1.c.2 B.1.c.2 then bif ieq F.1.c.3 B.1.c.3 then bif ieq F.1.c.4 B.1.c.4 then bif ieq F.1.c.5 B.1.c.5 then true else false else false else false else false else false then KR (.bool false)else((iO F.1.ss.length F.1.lv.length F.1.ss F.1.lv/\asOk F.1.ss)/\True)/\((iO B.1.ss.length B.1.lv.length B.1.ss B.1.lv/\asOk B.1.ss)/\True)/\H2 (Env.I xA) 0 (WJ z z (Int.ofNat F.1.ss.length)) (Hint.ok (WJ z z (Int.ofNat F.1.ss.length))) (tm3 F.1.ss.length B.1.ss.length 10 (↑F.1.ss.length:Int) 0) (hp3 F.1 B.1++ [tY F.1,tY B.1])/\aGR z F.1.ss.length KR
def P7(KR:AVal->Prop):Prop:=((iO Y.ss.length Y.lv.length Y.ss Y.lv/\auW Y/\n<=(4294967296:Nat)/\rowOk (pkW pt pm))/\True)/\bif !ieq (runA Y 0 (eP n (pkW pt pm))).2 k then KR (.bool false)else H2 (Env.I xA) 0 (PL J th n pt pm b) (Hint.ok (PL J th n pt pm b)) (K9 n pt pm true 0) (hpG J (runA Y 0 (eP n (pkW pt pm))).1 b k)/\ ∀(x:Nat),Y6 th x->bif ilt (↑x:Int) th then aGQ J th n pt pm b x else((iO b.ss.length b.lv.length b.ss b.lv/\auW b)/\True)/\aCU z (finS b (Int.toNat b.e.th)) (finS b x) KR
end
abbrev aJc(KR:AVal->Prop):kJ Ob:=fun e tm h=>match e with | .exit _=>False | _=>KR (tm.getD 4 .O)
theorem K7(sh th nd tr:Int)(m:Nat)(ln:Nat->Nat)(f g:Nat->Nat->Int)(n:Nat)(pt pm:Nat->Int)(Y b z:AUS)(k:Int)(KR:AVal->Prop)(h:P7 (jobQ sh th nd tr m ln f g) th n pt pm Y b z k KR):Ev (dA xA (iY xA LL 9) (LAR (jobQ sh th nd tr m ln f g) th n pt pm b z) 134 0 arZ (arTm n pt pm .O) (hpR (jobQ sh th nd tr m ln f g) Y b k) (aJc KR)):=aJ (q:=P7 (jobQ sh th nd tr m ln f g) th n pt pm Y b z k KR) (by kernel_rfl) h
end Go.Sh
namespace Go.Sh
open Go Go.Proofs
variable [Con]
theorem qV{A:Type}{P:Program}{E:Env A P}{inl:s9 A}{L:Nat->Option (kK A)}{nt n0:Nat}{z:Code} : ∀(xs:List Code) (tm:List AVal) (h:aB A) (K:kJ A),mR E inl L nt n0 (xs++ [z]) tm h K=mR E inl L nt n0 xs tm h (fun e tm' h'=>match e with
 | .normal =>mR E inl L nt n0 [z] tm' h' K
 | .exit id=>K (.exit id) tm' h'
 | .ret =>K .ret tm' h')
 | [],tm,h,K=>rfl
 | x::xs,tm,h,K=>by
   show dA E inl L nt n0 x tm h _=dA E inl L nt n0 x tm h _;congr 1;funext e tm' h';cases e with
   | normal=>exact qV xs tm' h' K
   | exit id=>rfl
   | ret=>rfl
noncomputable def aCV:List Code:=[dG FL,dG (IU 1 FL),dG (IU 2 FL),dG (IU 3 FL),dG (IU 4 FL),dG (IU 5 FL)]
noncomputable def arz:Code:=dG (dG (IU 6 FL))
theorem aCW:arX=aCV++ [arz]:=rfl
theorem W3:Tryz.f11.body=some (IV aCV (.seq (.seq arz (.block 0 (.rangeFunc (.tmp 35) #[36] (sJ K8) (sK K8)))) arZ)):=by kernel_rfl
theorem aCR{sh th nd tr:Int}{m:Nat}{ln:Nat->Nat}{f g:Nat->Nat->Int}{n:Nat}{pt pm:Nat->Int}(a b:AUS)(k u:Int)(hx:zJ u b.e b.ss b.lv):Ev (cI xA (iY xA LL 9) 134 (sJ K8) (List.set (arTm n pt pm .O) 36 (.int .i64 u)) (hpR (jobQ sh th nd tr m ln f g) a b k) (fun tm1 h1=>cI xA (iY xA LL 9) 134 (sK K8) tm1 h1 (fun _ h2=>aE (obI tbl) 10 (.bool true) h2 (.bool true) (hpR (jobQ sh th nd tr m ln f g) a (apF u b) (bif (pkF u b.e).1 then W (k+1)else k))))):=by
 refine K5 (jobQ sh th nd tr m ln f g) n pt pm a b k u (fun h2=>aE (obI tbl) 10 (.bool true) h2 (.bool true) (hpR (jobQ sh th nd tr m ln f g) a (apF u b) (bif (pkF u b.e).1 then W (k+1)else k))) ?_;refine⟨⟨⟨rfl,rfl⟩,hx⟩,?_⟩;cases (pkF u b.e).1 with
 | true=>exact aE.pick [0,1,2,3,4,5,6,7,8,9,11] rfl
 | false=>exact aE.pick [0,1,2,3,4,5,6,7,8,9,11] rfl
set_option maxRecDepth 100000 in
theorem W4(sh th nd tr:Int)(m:Nat)(ln:Nat->Nat)(f g:Nat->Nat->Int)(n:Nat)(pt pm:Nat->Int)(a z:AUS)(xs:List Int)(hxs:xs=BK pt pm n 0 60000)
 (h1:BV sh th nd tr m ln f g n pt pm a ((∃t u,acW t u a)/\n<=4294967296/\P7 (jobQ sh th nd tr m ln f g) th n pt pm a (runA a 0 xs).1 z (runA a 0 xs).2 (fun v=>v=.bool true)) (fun v _=>v=.bool true)):
 cT' 11 [.agg [.int .i64 sh,.int .i64 th,.int .i64 nd,.int .i64 tr,wG m ln f g],.view n 2 (pkW pt pm)] [] (fun v _=>v=.bool true):=by
 intro V hR w ai hi hf hr;obtain⟨a0,l0,e0,r0,a1,l1,e1,r1,e2⟩:=hr;have e2:l1=[]:=e2;subst e2;have ad:ai= #[a0,a1]:=by apply Array.ext';rw [e0,e1]
 subst ad;have am: ∀l,V l=none:=fun l=>hf l (Nat.zero_le _);have ao: ∀V':Val,V.le V':=fun V' i y e=>by rw [am i]at e;cases e
 have aa:=lJ (E:=xA) Tryz.checked.mixed LL 9;refine callsIn_wide.1 (callsIn_of_wp_marks (F:=Fence.wide) (n:=0) Tryz.func11 W3 trivial ?_);refine wpIn_wide.2 ?_
 have az:aH V ([.agg [.int .i64 sh,.int .i64 th,.int .i64 nd,.int .i64 tr,wG m ln f g],.view n 2 (pkW pt pm)]++List.replicate 132 (.raw undef)) (#[a0,a1]++Array.replicate (Tryz.f11.ntmps - (#[a0,a1]:Array Value).size) undef).toList :=by
  rw [Array.toList_append,Array.toList_replicate];refine aH.append ⟨_,_,rfl,r0,_,_,rfl,r1,rfl⟩ ?_
  have: ∀n:Nat,aH V (List.replicate n (.raw undef)) (List.replicate n undef):=by
   intro n
   induction n with
   | zero=>exact rfl
   | succ n ih=>exact⟨undef,_,rfl,rfl,ih⟩
  exact this 132
 have ac: ∀ {tm:List AVal} {V':Val} {q:Act},aH V' tm q.tmps.toList->tm.getD 4 .O =.bool true->q.tmps.getD 4 undef=.bool true:=fun h1 h2=>aIB h1 h2 (fun _ h=>h) (by intro h;cases h)
 have hp:=(K6 sh th nd tr m ln f g n pt pm a _ (fun v _=>v=.bool true) h1).get;rw [aCW,qV]at hp;refine pC aa Tryz.checked.mixed (ds:=[]) (V0:=V) (n0:=0) (w0:=w) hf aCV _ _ _ _ _ V hp hi hf az rfl V.le_refl (Nat.le_refl _) (aLu w) ?_ ?_ ?_
 rotate_left
 ·rintro id q1 w1 ⟨aj,V1,g1,k1,_⟩;exact k1.elim
 ·rintro q1 w1 ⟨aj,V1,g1,k1,k2,k3,k4,k5,k6,k7,k8⟩;show LeavesInM Fence.wide 0 Tryz.prog Tryz.f11 q1.tmps _ q1.defers .returning w1;rw [k8];exact⟨_,results_tmp rfl _ _ _,.bool true,_,V1,g1,rfl,rfl,ac k2 k1,k3,k4,k5,k6,k7⟩
 rintro q1 w1 ⟨aj,V1,g1,k1,k2,k3,k4,k5,k6,k7,k8⟩;refine wp_seq (wp_seq (jU aa Tryz.checked.mixed (ds:=[]) (V0:=V) (n0:=0) (w0:=w) hf arz _ _ _ _ _ V1 _ k1 k6 k4 k2 k8 k3 k5 k7 ?_));rintro e q3 w3 ⟨tm3,V2,g3,j1,y2,y3,y4,y5,y6,y7,y8⟩;cases e with
 | exit id=>exact j1.elim
 | ret=>
   show LeavesInM Fence.wide 0 Tryz.prog Tryz.f11 q3.tmps _ q3.defers .returning w3;rw [y8];exact⟨_,results_tmp rfl _ _ _,.bool true,_,V2,g3,rfl,rfl,ac y2 j1,y3,y4,y5,y6,y7⟩
 | normal=>
 obtain⟨x0,V3,⟨⟨t,u,ha⟩,hn,h2⟩,z5,_,z2,_,z6⟩:=sG (I:=obI tbl) (V0:=V) (n0:=0) (hR:=hR) (fun l _=>am l) (HR0 (jobQ sh th nd tr m ln f g) n pt pm a _) _ _ _ q3 w3 _ j1 y6 y4 y2 y3;refine wp_block ?_;have a8:=fE z5 (.tmp 35);obtain⟨fs,cs,bc,ah,bb⟩: ∃fs cs,q3.eval (.tmp 35)=.func (.func 114) fs cs/\aH V3 [] fs.toList/\aH V3 [.ptr 11 0] cs.toList:=a8;obtain⟨v0,vs,ag,⟨blk,k,ba,rfl⟩,af⟩:=bb;have af:vs=[]:=af;subst af;have ah:fs= #[]:=by apply Array.ext';exact ah
 have ag:cs= #[.pointer (some ⟨blk,0,none⟩)]:=by apply Array.ext';rw [ag]
 subst ah;subst ag
 have al:aH V3 (arTm n pt pm .O) q3.tmps.toList:=by
  obtain⟨y,hy,_⟩:=aH.get z5 35 _ rfl;have:=aH.set z5 35 .O y trivial;rw [FB hy]at this;exact this
 refine yR (E:=xA) aa (fA:=114) (view:=PJ n pt pm) (xs:=xs) (by rw [hxs];exact BM pt pm hn) (nt:=134) (m:=11) (m0:=10) (by decide) (tm:=arTm n pt pm .O) (S:=fun j=>hpR (jobQ sh th nd tr m ln f g) a (runA a 0 (xs.take j)).1 (runA a 0 (xs.take j)).2) (fun j=>rfl) rfl rfl ?_ z6 z2 ba al rfl y8 bc (by kernel_rfl) ?_
 ·intro j v hv;have hw:=IS (xs.take j) a 0 ha
  have ay:xs.take (j+1)=xs.take j++ [v]:=by
   rw [List.take_succ,hv];rfl
  have:=(aCR (sh:=sh) (th:=th) (nd:=nd) (tr:=tr) (m:=m) (ln:=ln) (f:=f) (g:=g) (n:=n) (pt:=pt) (pm:=pm) a (runA a 0 (xs.take j)).1 (runA a 0 (xs.take j)).2 v (BU hw v)).get;rw [ay,FA];exact this
 ·intro w4 D V4 ax a7 ae bd ap a6;rw [List.take_length]at ap;have ak:aH V4 (arTm n pt pm .O) q3.tmps.toList:=yS al rfl ax;have hq:=(K7 sh th nd tr m ln f g n pt pm a (runA a 0 xs).1 z (runA a 0 xs).2 (fun v=>v=.bool true) h2).get;refine jU aa Tryz.checked.mixed (ds:=[{target:=.collected D,args:= #[] }]) (V0:=V) (n0:=0) (w0:=w) (hR:=fun b=>if b=D then some (.deferred (some []))else hR b) hf arZ _ _ _ {q3 with defers:=[{target:=.collected D,args:= #[] }] } w4 V4 _ hq ap a7 ak rfl (ao _) (Nat.zero_le _) (y7.trans a6) ?_
  rintro e q5 w5 ⟨au,V5,g5,p1,p4,p5,p6,p7,p8,p9,av⟩
  have fin:au.getD 4 .O =.bool true->LeavesInM Fence.wide 0 Tryz.prog Tryz.f11 q5.tmps (zD (obI tbl) V 0 hR (fun v _=>v=.bool true) w) q5.defers .returning w5:=by
   intro p1;rw [av]
   have aq:w5.heap[D]? =some (.deferred (some [])):=by
    obtain⟨_,_,_,_,_,_,s6,_⟩:=p8;exact s6 D _ (if_pos rfl)
   refine⟨by simp,.inl ⟨D,_,rfl,run_takeDeferred aq,?_⟩⟩
   have ar:Con.con D=none:=by
    cases e:Con.con D with
    | none=>rfl
    | some o=>
      obtain⟨_,_,_,_,_,_,_,s7⟩:=hi;rw [s7 D o e]at ae;cases ae
   refine⟨_,results_tmp rfl _ _ _,.bool true,_,V5,g5,rfl,rfl,ac p4 p1,p5,p6,p7,?_,p9.trans (aMe aq)⟩;refine Inv.shrink (hX:=fun b=>if b=D then some (.deferred none)else hR b) (Inv.put (o:=.deferred (some [])) p8 (if_pos rfl) (if_pos rfl) ?_ ar) ?_ ?_
   ·intro b hb;show(if b=D then _ else _)=(if b=D then _ else _)
    rw [if_neg hb,if_neg hb]
   ·intro b o e;show(if b=D then _ else _)=_
    rw [if_neg (fun e2=>by subst e2;rw [ae]at e;cases e)]
    exact e
   ·obtain⟨_,_,_,_,_,_,_,s7⟩:=hi;exact s7
  cases e with
  | exit id=>exact p1.elim
  | ret=>exact fin p1
  | normal=>exact fin p1
end Go.Sh
namespace Go.Sh
open Go Go.Proofs
variable [Con]
theorem wE{H:Hint Ob}{ok:H.X->Prop}{tm:List AVal}{h:aB Ob}(q:H.X)(h1:H.st q=(tm,h))(h2:ok q):H2 (Env.I xA) 0 H ok tm h:=⟨⟨tm,h,aLo _ _ _,aQ q h1 h2⟩⟩
theorem TQ{I:Itp Ob}{H:Hint Ob}{ok:H.X->Prop}{tm tm2:List AVal}{h h2:aB Ob}(ht:aE I 0 (.tup tm) h (.tup tm2) h2)(q:H.X)(h1:H.st q=(tm2,h2))(hq:ok q):H2 I 0 H ok tm h:=⟨⟨tm2,h2,ht,aQ q h1 hq⟩⟩
theorem hr(a:Int):ieq a a=true:=by simp [cA]
theorem aFN{th nd:Int}(us:List Int): ∀(x:AUS) (c:Int),acW th nd x->c=x.e.k->(runA x c us).2=(runA x c us).1.e.k :=by
 induction us with
 | nil=>intro x c _ h;exact h
 | cons u us ih=>
   intro x c hx h;refine ih (apF u x) _ (I7 hx u) ?_;cases hd:(pkF u x.e).1 with
   | true=>
     have h2:=((kY u hx.w).yes hd).2.1;have hk:=(kY u hx.w).w.k;have hW:W (c+1)=c+1:=cK ⟨by omega,by omega⟩
     show W (c+1)=(pkF u x.e).2.k;rw [hW,h2,h]
   | false=>rw [zI hx.w hd];exact h
section
variable {th nd:Int} {n:Nat} {pt pm:Nat->Int} {b:AUS} {sh tr:Int} {m:Nat} {ln:Nat->Nat} {f g:Nat->Nat->Int}
theorem WX(hb:acW th nd b){x:Nat}(hx:(x:Int)<th):aGQ (jobQ sh th nd tr m ln f g) th n pt pm b x:=by
 have h2:=hb.w.ht;have hw:=G7 hb x;refine⟨wE (H:=WI (jobQ sh th nd tr m ln f g) th n pt pm b x) (0:Nat) rfl ⟨fun l hl=>by omega⟩,fun j hj=>?_⟩
 have hi:=KA hw (x:Int) j;refine⟨⟨⟨rfl,rfl⟩,BU hi x⟩,aL (fun e2=>?_) (fun e2=>?_)⟩
 ·have hm:=AF hw hj.h;have h3:=((kY (x:Int) hi.w).yes e2).2.1;have hk:=(kY (x:Int) hi.w).w.k
  have hW:W ((itA x j (finS b x).1).e.k +1)=(apF x (itA x j (finS b x).1)).e.k :=by
   have:W ((itA x j (finS b x).1).e.k +1)=(itA x j (finS b x).1).e.k +1:=cK ⟨by omega,by omega⟩
   rw [this,<-h3];rfl
  unfold aGP;rw [hW];refine wE (H:=WI (jobQ sh th nd tr m ln f g) th n pt pm b x) (j+1:Nat) rfl ⟨⟨fun l hl=>?_⟩,by show 60001 - (j+1)<60001 - j;omega⟩
  by_cases h:l<j
  ·exact hj.h l h
  ·have:l=j:=by omega
   subst this;exact e2
 ·have hp:=EE hw hj.h e2;have ha:=zI hi.w e2;have hn:=(kY (x:Int) hi.w).no e2;have hs:=R7 b x;rw [hp]at hs
  have go:arL1 (jobQ sh th nd tr m ln f g) th n pt pm b x (finS b (x+1)).2 (itA x j (finS b x).1) (itA x j (finS b x).1).e.k :=by
   unfold arL1;rw [ha,aCD (by omega)]
   have h3:(finS b (x+1)).1=itA x j (finS b x).1:=by rw [hs]
   rw [<-h3];refine wE (H:=PL (jobQ sh th nd tr m ln f g) th n pt pm b) (x+1:Nat) rfl ⟨⟨by show((x+1:Nat):Int)<=th;omega⟩,by show th.toNat - (x+1)<th.toNat - x;omega⟩
  have h4:(finS b (x+1)).2=((finS b x).2&&ieq (gL x (itA x j (finS b x).1).e) 0):=by rw [hs]
  rw [h4]at go;rw [hn];cases h5:(finS b x).2 with
  | true=>rw [h5]at go;exact⟨trivial,go⟩
  | false=>rw [h5]at go;exact go
set_option maxRecDepth 100000 in
theorem WV{z:AUS}{N:Nat}{q:Nat×List (List Int)}(hq:ac4 (N:Int) q)(hl:q.1<N)(hN:N<=1000000):aCS z N q:=by
 have hn:=hq.n;have hi:0+Int.toNat (↑q.1:Int)*1<q.2.length:=by omega
 unfold aCS;rw [aCD (by omega)]
 refine TQ (H:=WJ z z (Int.ofNat N)) ((aLQ (l:=9) (k:=10) rfl rfl (by decide) hi).trans ((aLQ (l:=11) (k:=12) rfl rfl (by decide) hi).trans (aE.pick [0,1,2,3,4,5,6,7,8,9,11] rfl))) (q.1+1,q.2) rfl ⟨⟨by show q.1+1<=q.2.length;omega,hn,hq.it⟩,?_⟩
 show(Int.ofNat N).toNat - (q.1+1)<(Int.ofNat N).toNat - q.1;have:(Int.ofNat N).toNat =N:=rfl;omega
theorem WZ{z:AUS}(hz:acW th nd z){KR:AVal->Prop}(hK:KR (.bool true)):aGR z z.ss.length KR:=by
 have aa:=hz.s1;have hk:=hz.w.k;intro q hq;refine aL (fun h=>?_) (fun _=>?_)
 ·have h:=fK h;have hl:=hq.n;have ac:q.1<q.2.length:=by omega
  have g:0+Int.toNat (q.1:Int)*1<q.2.length:=by omega
  refine aL (fun e=>?_) (fun _=>?_)
  ·have e:(q.2.length:Int)<=(q.1:Int):=by rw [bY]at e;exact of_decide_eq_true e
   omega
  ·refine⟨⟨by omega,by omega⟩,g,⟨by omega,by omega⟩,g,⟨⟨rfl,rfl⟩,hq.it _ g⟩,?_⟩
   rw [KO];exact WV hq (by omega) (by omega)
 ·rw [hr];exact⟨⟨⟨rfl,⟨⟨th,nd,hz.w⟩⟩⟩,trivial⟩,hK⟩
theorem WY{B:AUS×Bool}(hz:acW th nd B.1){KR:AVal->Prop}(hK:KR (.bool true)):aCU B.1 B B KR:=by
 have aa:=hz.s1;have hk:=hz.w.k;have ho:asOk B.1.ss:=⟨hz.s0,by omega,hz.it⟩
 have g:(bif B.2 then B.2 else !B.2)=true:=by cases B.2<;>rfl
 unfold aCU;rw [g,hr,hr,hr,hr,hr,hr];exact⟨trivial,⟨⟨⟨rfl,rfl⟩,ho⟩,trivial⟩,⟨⟨⟨rfl,rfl⟩,ho⟩,trivial⟩,wE (H:=WJ B.1 B.1 (Int.ofNat B.1.ss.length)) (0,B.1.ss) rfl ⟨Nat.zero_le _,rfl,hz.it⟩,WZ hz hK⟩
theorem WW{Y:AUS}(hY:acW th nd Y)(h0:Y.e.k=0)(hn:n<=4294967296){KR:AVal->Prop}(hK:KR (.bool true)):P7 (jobQ sh th nd tr m ln f g) th n pt pm Y (runA Y 0 (eP n (pkW pt pm))).1 (finS (runA Y 0 (eP n (pkW pt pm))).1 th.toNat).1 (runA Y 0 (eP n (pkW pt pm))).2 KR:=by
 have hb:=IS (eP n (pkW pt pm)) Y 0 hY;have hk:=aFN (eP n (pkW pt pm)) Y 0 hY h0.symm;unfold P7;refine⟨⟨⟨⟨rfl,rfl⟩,⟨⟨th,nd,hY⟩⟩,hn,⟨⟨pt,pm,rfl⟩⟩⟩,trivial⟩,?_⟩;rw [hr];generalize runA Y 0 (eP n (pkW pt pm))=R at*;have h2:=hb.w.ht;have h3:=hb.w.xt;refine⟨?_,fun x hx=>aL (fun e=>?_) (fun e=>?_)⟩
 ·rw [hk];exact wE (H:=PL (jobQ sh th nd tr m ln f g) th n pt pm R.1) (0:Nat) rfl ⟨by show(0:Int)<=th;omega⟩
 ·exact WX hb (fK e)
 ·have e:=fQ e;have hh:=hx.h;have e1:x=th.toNat:=by omega
  have e2:R.1.e.th.toNat=th.toNat:=by rw [h3]
  rw [e1,e2];exact⟨⟨⟨⟨rfl,rfl⟩,⟨⟨th,nd,hb⟩⟩⟩,trivial⟩,WY (G7 hb _) hK⟩
end
set_option maxRecDepth 100000 in
theorem aCT(sh th nd tr:Int)(m:Nat)(ln:Nat->Nat)(f g:Nat->Nat->Int)(n:Nat)(pt pm:Nat->Int)(p:Prop)(hp:acW th nd (au0 (egX sh th nd tr m (vRq ln f g)))->(egX sh th nd tr m (vRq ln f g)).k =0->n<=60->p):BV sh th nd tr m ln f g n pt pm (au0 (egX sh th nd tr m (vRq ln f g))) p (fun v _=>v=.bool true):=by
 have aa:f6 (vRq ln f g):=⟨rfl⟩;unfold BV arG;refine⟨aa,aL (fun _=>rfl) (fun h0=>?_)⟩;have hb:=aHT h0;have hm:m<=1000000:=by omega
 refine⟨⟨hm,aa⟩,aL (fun _=>rfl) (fun h1=>?_)⟩
 have h1:gnC sh th nd tr m (vL (vRq ln f g)) (vK (vRq ln f g)) (vY (vRq ln f g))=0:=by
  have:ieq (gnC sh th nd tr m (vL (vRq ln f g)) (vK (vRq ln f g)) (vY (vRq ln f g))) 0=true:=by simpa using h1
  exact fJ this
 have hw:egW th nd (egX sh th nd tr m (vRq ln f g)):=JD h1;have ad:(egX sh th nd tr m (vRq ln f g)).k =0:=rfl;have r1:=hw.ht;have r2:=hw.hn;have r3:=hw.st;have r4:=hw.sn;have hk:=hw.k;generalize egX sh th nd tr m (vRq ln f g)=X at*
 have ac:acW th nd (au0 X):=by
  refine⟨hw,by show((lvI X (Int.toNat X.s.n)).length :Int)=nd;rw [uP,r4];omega,Nat.le_refl _,by show((1:Nat):Int)<=X.k+1;omega,fun i hi=>?_,rfl,rfl⟩
  have:i=0:=by have:i<1:=hi;omega
  subst this;exact f0 (x:=X) ⟨by omega,by omega⟩
 have hn:auNk X:=⟨⟨by omega,by omega⟩,⟨by omega,by omega⟩,f0 ⟨by omega,by omega⟩⟩
 refine⟨⟨⟨⟨⟨hm,aa⟩,h1⟩,hn⟩,trivial⟩,⟨⟨⟨⟨hm,aa⟩,h1⟩,hn⟩,trivial⟩,?_⟩;exact TQ (H:=HR0 (jobQ sh th nd tr m ln f g) n pt pm (au0 X) p) ((aE.move 8 (of_decide_eq_true rfl)).trans (aE.pick [0,1,2,3,4,5,6,7,9,10,12,11] rfl)) (0:Nat) rfl ⟨hp ac ad hb.2⟩
theorem aCX(sh th nd tr:Int)(m:Nat)(ln:Nat->Nat)(f g:Nat->Nat->Int)(n:Nat)(pt pm:Nat->Int):cT' 11 [.agg [.int .i64 sh,.int .i64 th,.int .i64 nd,.int .i64 tr,wG m ln f g],.view n 2 (pkW pt pm)] [] (fun v _=>v=.bool true):=by
 refine W4 sh th nd tr m ln f g n pt pm (au0 (egX sh th nd tr m (vRq ln f g))) _ (eP n (pkW pt pm)) rfl (aCT sh th nd tr m ln f g n pt pm _ (fun h1 h2 h3=>⟨⟨th,nd,h1⟩,by omega,WW h1 h2 (by omega) rfl⟩))
end Go.Sh
