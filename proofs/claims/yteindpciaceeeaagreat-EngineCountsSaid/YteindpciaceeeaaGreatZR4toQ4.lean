import Derived.RangeFuncLeaves
import Derived.Test.YteindpciaceeeaaGreatZSh34
set_option linter.all false
set_option maxHeartbeats 8000000
namespace Go.Sh
open Go Go.Proofs
variable [Con]
def aEB:EGS→Int→List Int→EGS×Int
 | x,c,[]=>(x,c)
 | x,c,u::us=>aEB (pkF u x).2 (bif (pkF u x).1 then W (c+1)else c) us
def runP(x:EGS)(c:Int)(us:List Int):EGS×Int:=aEB x c us
theorem PT(us vs:List Int): ∀(x:EGS) (c:Int),runP x c (us++vs)=runP (runP x c us).1 (runP x c us).2 vs:=by
 induction us with
 | nil=>intro x c;rfl
 | cons u us ih=>intro x c;exact ih _ _
theorem FY{t n:Int}(us:List Int): ∀(x:EGS) (c:Int),egW t n x→egW t n (runP x c us).1:=by
 induction us with
 | nil=>intro x c h;exact h
 | cons u us ih=>intro x c h;exact ih _ _ (FI u h).w
def thR(row:Nat→List AVal)(i:Nat):Int:=match row i with
 | .int _ a::_=>a
 | _=>0
def tmR(row:Nat→List AVal)(i:Nat):Int:=match row i with
 | _:: .int _ a::_=>a
 | _=>0
def cD(n:Nat)(row:Nat→List AVal):List Int:=DO (thR row) (tmR row) n 0 60000
structure rowOk (row:Nat→List AVal):Prop where
 h: ∃th tm:Nat→Int,row=fun i=>[.int .i64 (th i),.int .i64 (tm i)]
structure IM (x:EGS):Prop where
 h: ∃t n:Int,egW t n x
abbrev HH:AVal:=.func (.func 41) [.ptr 0 0] []
abbrev pY(x:EGS)(c:Int):aC Ob:=[some (.abs (.engine x) []),some (.cells [HH]),some (.cells [.int .i64 c])]
abbrev AP(n:Nat)(row:Nat→List AVal):List AVal:=[HH,.view n 2 row,.ptr 1 0,.raw undef,.int .i64 0,.ptr 2 0,.raw undef,.view n 2 row,.O]++List.replicate 7 (.raw undef)
theorem bZ.putD{w:World}{l:Nat}{d d':Option (List Deferred)}(h:w.heap[l]? =some (.deferred d)):bZ w (w.putObj l (.deferred d')):=by
 have hlt:l<w.heap.size:=(Array.getElem?_eq_some_iff.1 h).1;refine⟨rfl,rfl,?_,?_⟩
 ·show w.heap.size≤(w.heap.setIfInBounds l _).size
  simp
 ·intro a _;unfold World.frozen?
  by_cases e:a.block=l
  ·rw [e,h,World.putObj_heap_same hlt]
  ·rw [World.putObj_heap_other e]
theorem PW{α:Type}{l:List α}{i:Nat}{z:α}(h:l[i]? =some z):l.set i z=l:=by
 apply List.ext_getElem?;intro j
 by_cases e:i=j
 ·subst e;have hlt:=(List.getElem?_eq_some_iff.1 h).1;rw [List.getElem?_set_self hlt,h]
 ·rw [List.getElem?_set_ne e]
theorem KK{V V':Val}{m:Nat}{us:List AVal}{vs:List Value}(h:aG V us vs)(hw:aGS (upto 0 m) us=true)(hv: ∀l y,l<m→V l=some y→V' l=some y):aG V' us vs:=by
 have h1:aG (fun i=>if i<m then V i else none) us vs:=aG7 (pl:=upto 0 m) (fun i hi=>by
  have:=(iQ m 0 i).1 hi;show V i=if i<m then V i else none
  rw [if_pos (by omega)]) _ _ hw h
 refine aG.mono ?_ _ _ h1;intro i y e;have e:(if i<m then V i else none)=some y:=e
 by_cases hi:i<m
 ·rw [if_pos hi]at e;exact hv i y hi e
 ·rw [if_neg hi]at e;cases e
theorem MF:XT=.seq (jX mV) (.seq (jX (jY mV)) (jX (jX (jY (jY mV))))):=rfl
abbrev aAk(n:Nat)(th tm:Nat→Int):List AVal:=[HH,.view n 2 (fun i=>[.int .i64 (th i),.int .i64 (tm i)]),.ptr 1 0,.raw undef,.int .i64 0,.ptr 2 0,.raw undef,.view n 2 (fun i=>[.int .i64 (th i),.int .i64 (tm i)]),.func (.func 114) [] [.ptr 3 0]]++List.replicate 7 (.raw undef)
structure MH (x:EGS) (n:Nat) (th tm:Nat→Int) (t:List AVal) (h:aC Ob):Prop where
 ht:t=aAk n th tm
 hh:h=pY x 0++ [some (.cells [VW n th tm])]
theorem MG(x:EGS)(n:Nat)(th tm:Nat→Int):GP x n (fun i=>[.int .i64 (th i),.int .i64 (tm i)]) (MH x n th tm):=by
 unfold GP;exact⟨rfl,rfl⟩
theorem MI(x:EGS)(n:Nat)(row:Nat→List AVal)(c u:Int)(hx:VU u x):Ev (cR EU9 (mW EU9 LL 9) 16 (D4 rL) (List.set (AP n row) 9 (.int .i64 u)) (pY x c) (fun tm1 h1=>cR EU9 (mW EU9 LL 9) 16 (D5 rL) tm1 h1 (fun _ h2=>aF (obI tbl) 3 (.bool true) h2 (.bool true) (pY (pkF u x).2 (bif (pkF u x).1 then W (c+1)else c))))):=by
 refine IS x n row c u (fun h2=>aF (obI tbl) 3 (.bool true) h2 (.bool true) (pY (pkF u x).2 (bif (pkF u x).1 then W (c+1)else c))) ?_;unfold ND;refine⟨hx,?_⟩;cases (pkF u x).1 with
 | true=>exact aGW _ _ _
 | false=>exact aGW _ _ _
structure MM (x:EGS) (c:Int) (t:List AVal) (h:aC Ob):Prop where
 ht:t.getD 4 .O =.int .i64 c
 hl:t.length=16
 hh:h=pY x c
theorem MK(x:EGS)(n:Nat)(row:Nat→List AVal)(c:Int):Ev (cR EU9 (mW EU9 LL 9) 16 MJ (AP n row) (pY x c) (MM x c)):=by
 refine IT x n row c (MM x c) ?_;unfold NH;exact⟨rfl,rfl,rfl⟩
theorem IL:Tryz.f85.body=some (.seq (jX mV) (.seq (jX (jY mV)) (.seq (.seq (jX (jX (jY (jY mV)))) (.block 0 (.rangeFunc (.tmp 8) #[9] (D4 rL) (D5 rL)))) (.seq MJ .ret)))):=rfl
def eachS:aI Ob:=fun args h=>match args,h with
 | [.func (.func g) [.ptr 0 0] [],.view n 2 row],[some (.abs (.engine x) [])]=>cond (Nat.beq g 41) (some (.pre (IM x∧n≤4294967296∧rowOk row) (.ret (.int .i64 (runP x 0 (cD n row)).2) [some (.abs (.engine (runP x 0 (cD n row)).1) [])]))) none
 | _,_=>none
theorem TA:sT' 85 eachS:=by
 intro args h o ho K hK;unfold eachS at ho;split at ho
 case h_2=>cases ho
 rename_i g n row x;cases hg:Nat.beq g 41 with
 | false=>rw [hg]at ho;cases ho
 | true=>
 have hg:=Nat.eq_of_beq_eq_true hg;subst hg;simp only [Nat.beq_refl,cond_true,sI']at ho;subst ho;obtain⟨⟨⟨t,m,hx⟩,hn,⟨th,tm,rfl⟩⟩,hK⟩:=hK;obtain⟨xs,hxs⟩: ∃xs,xs=DO th tm n 0 60000:=⟨_,rfl⟩;have hpl:cD n (fun i=>[.int .i64 (th i),.int .i64 (tm i)])=xs:=by rw [hxs];rfl
 rw [hpl]at hK;have hK:K (.int .i64 (runP x 0 xs).2) [some (.abs (.engine (runP x 0 xs).1) [])]:=hK;intro V hR w args' hi hf hr;obtain⟨a0,l0,e0,r0,a1,l1,e1,r1,e2⟩:=hr;have e2:l1=[]:=e2;subst e2;have hargs:args'= #[a0,a1]:=by apply Array.ext';rw [e0,e1]
 subst hargs;have hinl:=mX (E:=EU9) Tryz.checked.mixed LL 9;refine callsIn_wide.1 (callsIn_of_wp_marks (F:=Fence.wide) (n:=0) Tryz.func85 IL trivial ?_)
 have ht0:aG V ([HH,.view n 2 (fun i=>[.int .i64 (th i),.int .i64 (tm i)])]++List.replicate 14 (.raw undef)) (#[a0,a1]++Array.replicate (Tryz.f85.ntmps - (#[a0,a1]:Array Value).size) undef).toList :=
  ⟨_,_,rfl,r0,_,_,rfl,r1,_,_,rfl,rfl,_,_,rfl,rfl,_,_,rfl,rfl,_,_,rfl,rfl,_,_,rfl,rfl,_,_,rfl,rfl,_,_,rfl,rfl,_,_,rfl,rfl,_,_,rfl,rfl,_,_,rfl,rfl,_,_,rfl,rfl,_,_,rfl,rfl,_,_,rfl,rfl,_,_,rfl,rfl,rfl⟩
 refine K4 hinl (ro:=none) (ds:=[]) MF (IR x n (fun i=>[.int .i64 (th i),.int .i64 (tm i)]) (MH x n th tm) (MG x n th tm)) hi hf ht0 rfl ?_;rintro q3 w3 ⟨tm3,V3,g3,⟨e3,e4⟩,y2,y3,y4,y5,y6,y7,y8⟩;subst e3;subst e4;refine wpIn_block ?_;have hcl:=f6 y2 (.tmp 8);obtain⟨fs,cs,c1,c2,c3⟩: ∃fs cs,q3.eval (.tmp 8)=.func (.func 114) fs cs∧aG V3 [] fs.toList∧aG V3 [.ptr 3 0] cs.toList:=hcl;obtain⟨v0,vs,c4,⟨blk,k,c5,rfl⟩,c6⟩:=c3;have c6:vs=[]:=c6;subst c6;have c2:fs= #[]:=by apply Array.ext';exact c2
 have c4:cs= #[.pointer (some ⟨blk,0,none⟩)]:=by apply Array.ext';rw [c4]
 subst c2;subst c4
 have htT:aG V3 (AP n (fun i=>[.int .i64 (th i),.int .i64 (tm i)])) q3.tmps.toList:=by
  have hlen:=aG.length y2;obtain⟨z,hz,_⟩:=aG.get y2 8 _ rfl;have:=aG.set y2 8 .O z trivial;rw [PW hz]at this;exact this
 refine(FN (E:=EU9) hinl (fA:=114) (view:=VW n th tm) (xs:=xs) (by rw [hxs];exact LM th tm hn) (nt:=16) (m:=3) (tm:=AP n (fun i=>[.int .i64 (th i),.int .i64 (tm i)])) (S:=fun j=>pY (runP x 0 (xs.take j)).1 (runP x 0 (xs.take j)).2) (fun j=>rfl) rfl rfl ?_ y6 y4 c5 htT rfl y8 c1 (by kernel_rfl) ?_)
 ·intro j u hu;have hw:=FY (xs.take j) x 0 hx
  have htk:xs.take (j+1)=xs.take j++ [u]:=by
   rw [List.take_succ,hu];rfl
  have:=MI (runP x 0 (xs.take j)).1 n (fun i=>[.int .i64 (th i),.int .i64 (tm i)]) (runP x 0 (xs.take j)).2 u (aBU u hw);rw [htk,PT];exact this
 ·intro w4 D V4 hv4 hf4 hRD hDw hI4 hg4;rw [List.take_length]at hI4;have htT4:aG V4 (AP n (fun i=>[.int .i64 (th i),.int .i64 (tm i)])) q3.tmps.toList:=KK htT rfl hv4;refine K3 hinl (ro:=none) (ds:=[{target:=.collected D,args:= #[] }]) (MK (runP x 0 xs).1 n (fun i=>[.int .i64 (th i),.int .i64 (tm i)]) (runP x 0 xs).2) hI4 hf4 htT4 rfl ?_;rintro q5 w5 ⟨tm5,V5,g5,⟨p1,p2,p3⟩,p4,p5,p6,p7,p8,p9,p10⟩;subst p3;refine wpIn_ret ?_;show LeavesInM Fence.wide 0 Tryz.prog Tryz.f85 q5.tmps _ q5.defers .returning w5;rw [p10]
  have hD5:w5.heap[D]? =some (.deferred (some [])):=by
   obtain⟨_,_,_,_,_,_,s6,_⟩:=p8;exact s6 D _ (if_pos rfl)
  refine⟨by simp,.inl ⟨D,_,rfl,run_takeDeferred hD5,?_⟩⟩
  refine⟨_,results_tmp rfl _ _ _,?_⟩
  have conD:Con.con D=none:=by
   cases e:Con.con D with
   | none=>rfl
   | some o=>
     obtain⟨_,_,_,_,_,_,_,s7⟩:=hi;rw [s7 D o e]at hRD;cases hRD
  obtain⟨V6,t1,t2,t3,t4,t5⟩:=aF.pick (I:=obI tbl) (n:=1) (v:=.bool true) (g:=pY (runP x 0 xs).1 (runP x 0 xs).2) [0] (by kernel_rfl) V5 _ w5 (.bool true) p8 p6 (by show 1≤3;decide) rfl
  have htr:gQ [0] (pY (runP x 0 xs).1 (runP x 0 xs).2)=[some (.abs (.engine (runP x 0 xs).1) [])]:=by kernel_rfl
  rw [htr]at t2 t3 t5
  have hvle:V.le V6:=by
   intro i z e
   by_cases h0:i<1
   ·refine t1 i z h0 (p5 _ _ (hv4 i z (by omega) (y3 _ _ e)))
   ·rw [hf i (by show 1≤i;omega)]at e;cases e
  have hres:q5.tmps.getD 4 undef=.int .i64 (runP x 0 xs).2:=by
   have hlt:4<tm5.length:=by rw [p2];decide
   have h4:tm5[4]? =some (.int .i64 (runP x 0 xs).2):=by
    rw [gE' hlt];rw [gD',gE' hlt]at p1;exact congrArg some p1
   obtain⟨z,z1,z2⟩:=aG.get p4 4 _ h4;have z2:z=.int .i64 (runP x 0 xs).2:=z2;subst z2;rw [Array.getElem?_toList]at z1;rw [Array.getD_eq_getD_getElem?,z1];rfl
  refine⟨.int .i64 (runP x 0 xs).2,_,V6,_,hK,rfl,hres,hvle,t2,Nat.le_refl _,?_,(y7.trans hg4).trans (p9.trans (bZ.putD hD5))⟩;refine Inv.shrink (hX:=fun b=>if b=D then some (.deferred none)else hR b) (Inv.put (o:=.deferred (some [])) t5 (if_pos rfl) (if_pos rfl) ?_ conD) ?_ ?_
  ·intro b hb;show(if b=D then _ else _)=(if b=D then _ else _)
   rw [if_neg hb,if_neg hb]
  ·intro b o e;show(if b=D then _ else _)=_
   rw [if_neg (fun e2=>by subst e2;rw [hRD]at e;cases e)]
   exact e
  ·obtain⟨_,_,_,_,_,_,_,s7⟩:=hi;exact s7
noncomputable def EUa:=EU9.addS 85 eachS TA
def YM(x:EGS)(n:Nat)(row:Nat→List AVal)(K:AVal→aC Ob→Prop):Prop:=(IM x∧n≤(4294967296:Nat)∧rowOk row)∧K (.int .i64 (runP x 0 (cD n row)).2) [some (.abs (.engine (runP x 0 (cD n row)).1) [])]
theorem KP(x:EGS)(n:Nat)(row:Nat→List AVal)(K:AVal→aC Ob→Prop)(h:YM x n row K):cT' 27 [.ptr 0 0,.view n 2 row] [some (.abs (.engine x) [])] (kJ 1 K):=by
 exact cM' (E:=EUa) (by kernel_rfl) h
def runS:aI Ob:=fun args h=>match args,h with
 | [.ptr 0 0,.view n 2 row],[some (.abs (.engine x) [])]=>some (.pre (IM x∧n≤4294967296∧rowOk row) (.ret (.int .i64 (runP x 0 (cD n row)).2) [some (.abs (.engine (runP x 0 (cD n row)).1) [])]))
 | _,_=>none
theorem FZ:sT' 27 runS:=by
 intro args h o ho K hK;unfold runS at ho;split at ho<;>cases ho
 rename_i n row x;obtain⟨hp,hK⟩:=hK;have hK:K (.int .i64 (runP x 0 (cD n row)).2) [some (.abs (.engine (runP x 0 (cD n row)).1) [])]:=hK;exact aGK (KP x n row K ⟨hp,hK⟩)
noncomputable def EUb:=EUa.addS 27 runS FZ
theorem d0{a b:Int}(h:ilt a b=true):a<b:=by rw [aV]at h;exact of_decide_eq_true h
theorem eD{a b:Int}(h:ilt a b=false): ¬a<b:=by rw [aV]at h;exact of_decide_eq_false h
noncomputable def EUc:=EUb
abbrev CO(m:Nat)(ln:Nat→Nat)(f g:Nat→Nat→Int):AVal:=.view m 1 (fun i=>[.view (ln i) 2 (fun j=>[.I (f i j),.I (g i j)])])
structure er1 (m:Nat) (ln:Nat→Nat) (x:Nat):Prop where
 hi:x≤m
 hl: ∀j,j<x→ln j≤40
structure er2 (sh:Int) (m:Nat) (ln:Nat→Nat) (f g:Nat→Nat→Int) (x:Nat):Prop where
 hi:x≤m
 hl: ∀j,j<x→d3 sh (ln j) (f j) (g j)=true
structure er3 (sh:Int) (m:Nat) (ln:Nat→Nat) (f g:Nat→Nat→Int) (i0:Int) (x:Nat×Nat):Prop where
 hi:x.1<m
 h0:(x.1:Int)=i0
 hk:x.2≤ln x.1
 hl: ∀j,j<x.1→d3 sh (ln j) (f j) (g j)=true
 hr: ∀j,j<x.2→b9 sh (f x.1 j) (g x.1 j)=true
def RC(sh th nd tr:Int)(m:Nat)(ln:Nat→Nat)(f g:Nat→Nat→Int):Hint Ob:= {X:=Nat,st:=fun x=>([.I sh,.I th,.I nd,.I tr,CO m ln f g,.O,.O,.O,.O,.O,.O,.I (x:Int)]++List.replicate 71 .O,[]),ok:=er1 m ln,mu:=fun x=>m - x,keep:=[0,1,2,3,4,11] }
def RD(sh th nd tr:Int)(m:Nat)(ln:Nat→Nat)(f g:Nat→Nat→Int):Hint Ob:= {X:=Nat,st:=fun x=>([.I sh,.O,.O,.O,CO m ln f g,.O,.O,.O,.O,.O,.O,.O,.I (x:Int)]++List.replicate 70 .O,[]),ok:=er2 sh m ln f g,mu:=fun x=>m - x,keep:=[0,4,12] }
def RE(sh th nd tr:Int)(m:Nat)(ln:Nat→Nat)(f g:Nat→Nat→Int)(i0:Int):Hint Ob:= {X:=Nat×Nat,st:=fun x=>([.I sh,.O,.O,.O,CO m ln f g,.O,.O,.O,.O,.O,.O,.O,.I (x.1:Int),.I (x.2:Int)]++List.replicate 69 .O,[]),ok:=er3 sh m ln f g i0,mu:=fun x=>ln x.1 - x.2,keep:=[0,4,12,13] }
def LER(sh th nd tr:Int)(m:Nat)(ln:Nat→Nat)(f g:Nat→Nat→Int):FuncId→Nat→Option (pR Ob):=fun _ k=>match k with
 | 8=>some (.states (RC sh th nd tr m ln f g))
 | 13=>some (.states (RD sh th nd tr m ln f g))
 | 16=>some (.statesAt 12 (RE sh th nd tr m ln f g))
 | _=>none
def TK(sh th nd tr:Int)(m:Nat)(ln:Nat→Nat)(f g:Nat→Nat→Int)(K:AVal→aC Ob→Prop):Prop:=bif ilt sh 1 then K (.I 1) []else bif ilt 4 sh then K (.I 1) []else bif ilt th 1 then K (.I 2) []else bif ilt 8 th then K (.I 2) []else bif ilt nd 1 then K (.I 2) []else bif ilt 200 nd then K (.I 2) []else bif ilt tr 0 then K (.I 2) []else bif ilt 50 tr then K (.I 2) []else bif ilt th (↑m:Int)then K (.I 6) []else okSt (RC sh th nd tr m ln f g) (Hint.ok (RC sh th nd tr m ln f g)) (.I sh::.I th::.I nd::.I tr::(.view m 1 fun i=>[.view (ln i) 2 fun j=>[.I (f i j),.I (g i j)]])::.O::.O::.O::.O::.O::.O::.I 0::(tO' 71 [])) []∧ ∀(x:Nat),er1 m ln x→bif ilt (↑x:Int) (↑m:Int)then((0:Int)≤(↑x:Int)∧(↑x:Int)<(↑m:Int))∧bif ilt 40 (↑(ln (Int.toNat (↑x:Int))):Int)then K (.I 6) []else okSt (RC sh th nd tr m ln f g) (fun x'=>Hint.ok (RC sh th nd tr m ln f g) x'∧Hint.mu (RC sh th nd tr m ln f g) x'<Hint.mu (RC sh th nd tr m ln f g) x) (.I sh::.I th::.I nd::.I tr::(.view m 1 fun i=>[.view (ln i) 2 fun j=>[.I (f i j),.I (g i j)]])::.O::.O::.O::.O::.O::.O::.I (W ((↑x:Int)+1))::(tO' 71 [])) []else okSt (RD sh th nd tr m ln f g) (Hint.ok (RD sh th nd tr m ln f g)) (.I sh::.O::.O::.O::(.view m 1 fun i=>[.view (ln i) 2 fun j=>[.I (f i j),.I (g i j)]])::.O::.O::.O::.O::.O::.O::.O::.I 0::(tO' 70 [])) []∧ ∀(x:Nat),er2 sh m ln f g x→bif ilt (↑x:Int) (↑m:Int)then okSt (RE sh th nd tr m ln f g (↑x:Int)) (Hint.ok (RE sh th nd tr m ln f g (↑x:Int))) (.I sh::.O::.O::.O::(.view m 1 fun i=>[.view (ln i) 2 fun j=>[.I (f i j),.I (g i j)]])::.O::.O::.O::.O::.O::.O::.O::.I (↑x:Int)::.I 0::(tO' 69 [])) []∧ ∀(x_1:(Nat×Nat)),er3 sh m ln f g (↑x:Int) x_1→((0:Int)≤(↑x_1.1:Int)∧(↑x_1.1:Int)<(↑m:Int))∧bif ilt (↑x_1.2:Int) (↑(ln (Int.toNat (↑x_1.1:Int))):Int)then((0:Int)≤(↑x_1.1:Int)∧(↑x_1.1:Int)<(↑m:Int))∧((0:Int)≤(↑x_1.2:Int)∧(↑x_1.2:Int)<(↑(ln (Int.toNat (↑x_1.1:Int))):Int))∧True∧bif !b9 sh (f (Int.toNat (↑x_1.1:Int)) (Int.toNat (↑x_1.2:Int))) (g (Int.toNat (↑x_1.1:Int)) (Int.toNat (↑x_1.2:Int)))then K (.I 1) []else okSt (RE sh th nd tr m ln f g (↑x:Int)) (fun x'=>Hint.ok (RE sh th nd tr m ln f g (↑x:Int)) x'∧Hint.mu (RE sh th nd tr m ln f g (↑x:Int)) x'<Hint.mu (RE sh th nd tr m ln f g (↑x:Int)) x_1) (.I sh::.O::.O::.O::(.view m 1 fun i=>[.view (ln i) 2 fun j=>[.I (f i j),.I (g i j)]])::.O::.O::.O::.O::.O::.O::.O::.I (↑x_1.1:Int)::.I (W ((↑x_1.2:Int)+1))::(tO' 69 [])) []else okSt (RD sh th nd tr m ln f g) (fun x'=>Hint.ok (RD sh th nd tr m ln f g) x'∧Hint.mu (RD sh th nd tr m ln f g) x'<Hint.mu (RD sh th nd tr m ln f g) x) (.I sh::.O::.O::.O::(.view m 1 fun i=>[.view (ln i) 2 fun j=>[.I (f i j),.I (g i j)]])::.O::.O::.O::.O::.O::.O::.O::.I (W ((↑x_1.1:Int)+1))::(tO' 70 [])) []else K (.I 0) []
set_option maxRecDepth 100000 in
theorem NB(sh th nd tr:Int)(m:Nat)(ln:Nat→Nat)(f g:Nat→Nat→Int)(K:AVal→aC Ob→Prop)(h:TK sh th nd tr m ln f g K):cT' 78 [.I sh,.I th,.I nd,.I tr,CO m ln f g] [] (kJ 0 K):=by
 exact aD (E:=EUc) Tryz.checked.mixed (L:=LER sh th nd tr m ln f g) (n:=10) (aJ (by kernel_rfl) h)
theorem NT{sh th nd tr:Int}{m:Nat}{ln:Nat→Nat}{f g:Nat→Nat→Int}(h:gnC sh th nd tr m ln f g=0):wrE sh th nd tr=0:=by
 unfold gnC at h;cases h1:ieq (wrE sh th nd tr) 0 with
 | true=>exact fV h1
 | false=>rw [h1]at h;exact h
theorem NU{sh th nd tr:Int}{m:Nat}{ln:Nat→Nat}{f g:Nat→Nat→Int}(h:gnC sh th nd tr m ln f g=0):lgB th m ln=false:=by
 have h0:=NT h;unfold gnC at h;rw [h0]at h;cases e:lgB th m ln with
 | false=>rfl
 | true=>rw [e]at h;exact absurd (show(6:Int)=0 from h) (by decide)
theorem aA5{sh th nd tr:Int}{m:Nat}{ln:Nat→Nat}{f g:Nat→Nat→Int}(h:gnC sh th nd tr m ln f g=0){i:Nat}(hi:i<m):ln i≤40:=by
 have h1:=NU h;unfold lgB at h1;rw [Bool.or_eq_false_iff]at h1;have h2:=List.any_eq_false.1 h1.1 i (List.mem_range.2 hi)
 simpa using h2
theorem J3(k:Nat):VQ (List.replicate k 0):=by
 refine⟨fun x hx=>?_⟩;rw [List.eq_of_mem_replicate hx];exact⟨by decide,by decide⟩
theorem W7{sh th nd tr:Int}{m:Nat}{ln:Nat→Nat}{f g:Nat→Nat→Int}(h:gnC sh th nd tr m ln f g=0){j:Nat}(hj:(j:Int)<th)(hth:th≤8):W9 th nd 0 (cP sh th nd m ln f g j):=by
 have hl:((bif ilt (j:Int) (m:Int)then ofR sh (ln j) (f j) (g j)else []).length :Int)≤40:=by
  cases e:ilt (j:Int) (m:Int)with
  | false=>exact(by decide:((0:Nat):Int)≤40)
  | true=>
    rw [aV,dT']at e;have h1:=aA5 h (i:=j) (by omega)
    show((ofR sh (ln j) (f j) (g j)).length :Int)≤40;unfold ofR;cases d3 sh (ln j) (f j) (g j)with
    | false=>exact(by decide:((0:Nat):Int)≤40)
    | true=>show((fB sh (ln j) (f j) (g j)).length :Int)≤40;rw [hJ];omega
 unfold cP;generalize (bif ilt (j:Int) (m:Int)then ofR sh (ln j) (f j) (g j)else [])=tk at hl⊢;exact⟨rfl,rfl,⟨⟨by show(0:Int)≤(j:Int);omega,by show(j:Int)≤1000;omega⟩,rU,(by decide:((0:Nat):Int)≤0)⟩,fun e=>Bool.noConfusion e,(by decide:(0:Int)≤0),by show(0:Int)≤(tk.length:Int);omega,rfl,(by decide:((0:Nat):Int)≤0),by show(tk.length:Int)≤100000;omega⟩
theorem GK{sh th nd tr:Int}{m:Nat}{ln:Nat→Nat}{f g:Nat→Nat→Int}(h:gnC sh th nd tr m ln f g=0):egW th nd (dC sh th nd tr m ln f g):=by
 have h0:=NT h;obtain⟨_,_,⟨t0,t1,n0,n1⟩,_⟩:=YP (by rw [cX,h0];rfl)
 refine⟨⟨t0,t1⟩,⟨n0,by omega⟩,rfl,rfl,rfl,rfl,⟨(by decide:(0:Int)≤0),(by decide:(0:Int)≤60000)⟩,rfl,J3 _,?_,?_,?_⟩
 ·show(((List.range th.toNat).map _).length :Int)=th;rw [List.length_map,List.length_range];omega
 ·intro i hi;have hi:i<((List.range th.toNat).map (cP sh th nd m ln f g)).length :=hi;rw [List.length_map,List.length_range]at hi
  have e:a8 (dC sh th nd tr m ln f g).ws i=cP sh th nd m ln f g i:=by
   show a8 ((List.range th.toNat).map (cP sh th nd m ln f g)) i=_;unfold a8;rw [gD',List.getElem?_map,List.getElem?_range hi];rfl
  rw [e];exact W7 h (by omega) t1
 ·refine⟨(by decide:((0:Nat):Int)≤2*0),(by decide:((0:Nat):Int)≤0),?_,?_,?_,?_,?_,?_,?_,?_⟩<;>exact⟨(by decide:(0:Int)≤0),(by decide:(0:Int)≤((0:Nat):Int))⟩
theorem kP{sh th nd tr:Int}{m:Nat}{ln:Nat→Nat}{f g:Nat→Nat→Int}{c:Int}(h:wrE sh th nd tr=c)(h0:ieq c 0=false):gnC sh th nd tr m ln f g=c:=by
 unfold gnC;rw [h,h0];rfl
theorem XZ{sh th nd tr:Int}{m:Nat}{ln:Nat→Nat}{f g:Nat→Nat→Int}(h:wrE sh th nd tr=0)(hl:lgB th m ln=true):gnC sh th nd tr m ln f g=6:=by
 unfold gnC;rw [h,hl];rfl
theorem aDO{sh th nd tr:Int}{m:Nat}{ln:Nat→Nat}{f g:Nat→Nat→Int}(h:wrE sh th nd tr=0)(hl:lgB th m ln=false)(ha: ∃i k,i<m∧k<ln i∧b9 sh (f i k) (g i k)=false):gnC sh th nd tr m ln f g=1:=by
 have:((List.range m).all fun j=>d3 sh (ln j) (f j) (g j))=false:=by
  obtain⟨i,k,hi,hk,hr⟩:=ha;rw [List.all_eq_false];refine⟨i,List.mem_range.2 hi,?_⟩;intro e;rw [oI.1 e k hk]at hr;cases hr
 unfold gnC;rw [h,hl,this];rfl
theorem aA6{sh th nd tr:Int}{m:Nat}{ln:Nat→Nat}{f g:Nat→Nat→Int}(h:wrE sh th nd tr=0)(hl:lgB th m ln=false)(ha: ∀i,i<m→d3 sh (ln i) (f i) (g i)=true):gnC sh th nd tr m ln f g=0:=by
 have:((List.range m).all fun j=>d3 sh (ln j) (f j) (g j))=true:=by
  rw [List.all_eq_true];intro i hi;exact ha i (List.mem_range.1 hi)
 unfold gnC;rw [h,hl,this];rfl
theorem qQ{t n:Int}(h:t<1∨8<t∨n<1∨200<n):dM t n=false:=by
 cases e:dM t n with
 | false=>rfl
 | true=>have:=sX.1 e;omega
theorem G8{a b:Int}(h:a<b):ilt a b=true:=by rw [aV];exact decide_eq_true h
theorem sT{a b:Int}(h: ¬a<b):ilt a b=false:=by rw [aV];exact decide_eq_false h
theorem W1{i:Nat}{m:Nat}(hi:i<m)(hm:m≤1000000):W ((i:Int)+1)=((i+1:Nat):Int):=by
 have:=dB (x:=(i:Int)+1) ⟨by omega,by omega⟩
 exact this.trans (by omega)
set_option maxRecDepth 10000 in
theorem aDE(sh th nd tr:Int)(m:Nat)(ln:Nat→Nat)(f g:Nat→Nat→Int)(K:AVal→aC Ob→Prop)(hm:m≤1000000)(hK:K (.I (gnC sh th nd tr m ln f g)) []):TK sh th nd tr m ln f g K:=by
 have key: ∀c,gnC sh th nd tr m ln f g=c→K (.I c) []:=fun c e=>by rw [←e];exact hK
 have w1:(sh<1∨4<sh)→wrE sh th nd tr=1:=by
  intro h;unfold wrE
  by_cases h1:sh<1
  ·rw [G8 h1];rfl
  ·rw [sT h1,G8 (show 4<sh by omega)];rfl
 have w2: ¬(sh<1∨4<sh)→(dM th nd=false∨tr<0∨50<tr)→wrE sh th nd tr=2:=by
  intro h h2;unfold wrE;rw [sT (show¬sh<1 by omega),sT (show¬4<sh by omega)]
  cases e:dM th nd with
  | false=>rfl
  | true=>
    rw [e]at h2
    by_cases h3:tr<0
    ·rw [G8 h3];rfl
    ·rw [sT h3,G8 (show 50<tr by rcases h2 with h2 | h2 | h2<;>first | (exact Bool.noConfusion h2) | omega)];rfl
 unfold TK;refine aT (fun e1=>key 1 (kP (w1 (.inl (d0 e1))) rfl)) (fun e1=>?_);refine aT (fun e2=>key 1 (kP (w1 (.inr (d0 e2))) rfl)) (fun e2=>?_);have e1:=eD e1;have e2:=eD e2;have hs: ¬(sh<1∨4<sh):=by omega
 refine aT (fun e3=>key 2 (kP (w2 hs (.inl (qQ (.inl (d0 e3))))) rfl)) (fun e3=>?_);refine aT (fun e4=>key 2 (kP (w2 hs (.inl (qQ (.inr (.inl (d0 e4)))))) rfl)) (fun e4=>?_);refine aT (fun e5=>key 2 (kP (w2 hs (.inl (qQ (.inr (.inr (.inl (d0 e5))))))) rfl)) (fun e5=>?_);refine aT (fun e6=>key 2 (kP (w2 hs (.inl (qQ (.inr (.inr (.inr (d0 e6))))))) rfl)) (fun e6=>?_);refine aT (fun e7=>key 2 (kP (w2 hs (.inr (.inl (d0 e7)))) rfl)) (fun e7=>?_);refine aT (fun e8=>key 2 (kP (w2 hs (.inr (.inr (d0 e8)))) rfl)) (fun e8=>?_);have e3:=eD e3;have e4:=eD e4;have e5:=eD e5;have e6:=eD e6;have e7:=eD e7;have e8:=eD e8;have hr:dM th nd=true:=sX.2 ⟨by omega,by omega,by omega,by omega⟩
 have hw:wrE sh th nd tr=0:=by
  unfold wrE;rw [sT e1,sT e2,hr,sT e7,sT e8];rfl
 refine aT (fun e9=>key 6 (XZ hw (HA (.inr (d0 e9))))) (fun e9=>?_);have e9:=eD e9;refine⟨aP (H:=RC sh th nd tr m ln f g) (0:Nat) rfl ⟨Nat.zero_le _,fun j hj=>absurd hj (Nat.not_lt_zero _)⟩,?_⟩;rintro x ⟨hx,hxl⟩;refine aT (fun a1=>?_) (fun a1=>?_)
 ·have a1:=d0 a1;have hxm:x<m:=by omega
  rw [Int.toNat_natCast];refine⟨⟨by omega,by omega⟩,aT (fun a2=>key 6 (XZ hw (HA (.inl ⟨x,hxm,by have:=d0 a2;omega⟩)))) (fun a2=>?_)⟩
  have a2:=eD a2;rw [W1 hxm hm];refine aP (H:=RC sh th nd tr m ln f g) (x+1:Nat) rfl ⟨⟨hxm,fun j hj=>?_⟩,by show m - (x+1)<m - x;omega⟩
  by_cases e:j=x
  ·subst e;omega
  ·exact hxl j (by omega)
 ·have a1:=eD a1;have hxm:x=m:=by omega
  subst hxm;have hlg:lgB th x ln=false:=OM.2 ⟨hxl,by omega⟩
  refine⟨aP (H:=RD sh th nd tr x ln f g) (0:Nat) rfl ⟨Nat.zero_le _,fun j hj=>absurd hj (Nat.not_lt_zero _)⟩,?_⟩;rintro i ⟨hi,hil⟩;refine aT (fun b1=>?_) (fun b1=>?_)
  ·have b1:=d0 b1;have him:i<x:=by omega
   refine⟨aP (H:=RE sh th nd tr x ln f g (i:Int)) (i,(0:Nat)) rfl ⟨him,rfl,Nat.zero_le _,hil,fun j hj=>absurd hj (Nat.not_lt_zero _)⟩,?_⟩;rintro⟨i2,k⟩ ⟨ci,c0,ck,cl,cr⟩;dsimp only at ci c0 ck cl cr⊢;have c0:i2=i:=by omega
   subst c0;rw [Int.toNat_natCast,Int.toNat_natCast];have hln:=hxl i2 ci;refine⟨⟨by omega,by omega⟩,aT (fun d1=>?_) (fun d1=>?_)⟩
   ·have d1:=d0 d1;refine⟨⟨by omega,by omega⟩,⟨by omega,by omega⟩,trivial,aT (fun d2=>key 1 (aDO hw hlg ⟨i2,k,ci,by omega,by simpa using d2⟩)) (fun d2=>?_)⟩
    rw [W1 (show k<ln i2 by omega) (by omega)]
    refine aP (H:=RE sh th nd tr x ln f g (i2:Int)) (i2,(k+1:Nat)) rfl ⟨⟨ci,rfl,by dsimp only;omega,cl,fun j hj=>?_⟩,by show ln i2 - (k+1)<ln i2 - k;omega⟩
    dsimp only at hj⊢
    by_cases e:j=k
    ·subst e;simpa using d2
    ·exact cr j (by omega)
   ·have d1:=eD d1;rw [W1 ci hm];refine aP (H:=RD sh th nd tr x ln f g) (i2+1:Nat) rfl ⟨⟨ci,fun j hj=>?_⟩,by show x - (i2+1)<x - i2;omega⟩
    by_cases e:j=i2
    ·subst e;exact oI.2 (fun q hq=>cr q (by omega))
    ·exact cl j (by omega)
  ·have b1:=eD b1;have him:i=x:=by omega
   subst him;exact key 0 (aA6 hw hlg hil)
def erS:aI Ob:=fun args h=>match args,h with
 | [.int .i64 sh,.int .i64 th,.int .i64 nd,.int .i64 tr,.view m 1 vr],[]=>some (.pre (m≤1000000∧iX vr) (.ret (.I (gnC sh th nd tr m (vL vr) (vK vr) (vY vr))) []))
 | _,_=>none
theorem aDD:sT' 78 erS:=by
 intro args h o ho K hK;unfold erS at ho;split at ho<;>cases ho
 rename_i sh th nd tr m vr;obtain⟨⟨hm,⟨hr⟩⟩,hK⟩:=hK;rw [hr];exact aGK (NB sh th nd tr m (vL vr) (vK vr) (vY vr) K (aDE sh th nd tr m (vL vr) (vK vr) (vY vr) K hm hK))
noncomputable def EUd:=EUc.addS 78 erS aDD
end Go.Sh
