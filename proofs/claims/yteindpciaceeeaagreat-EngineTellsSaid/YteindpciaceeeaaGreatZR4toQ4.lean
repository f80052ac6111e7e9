import Derived.RangeFuncLeaves
import Derived.Test.YteindpciaceeeaaGreatZSh34
set_option linter.all false
set_option maxHeartbeats 8000000
namespace Go.Sh
open Go Go.Proofs
variable [Con]
def aEE:EGS→Int→List Int→EGS×Int
 | x,c,[]=>(x,c)
 | x,c,u::us=>aEE (pkF u x).2 (bif (pkF u x).1 then W (c+1)else c) us
def runP(x:EGS)(c:Int)(us:List Int):EGS×Int:=aEE x c us
theorem C3(us vs:List Int): ∀(x:EGS) (c:Int),runP x c (us++vs)=runP (runP x c us).1 (runP x c us).2 vs:=by
 induction us with
 | nil=>intro x c;rfl
 | cons u us ih=>intro x c;exact ih _ _
theorem yP{t n:Int}(us:List Int): ∀(x:EGS) (c:Int),egW t n x→egW t n (runP x c us).1:=by
 induction us with
 | nil=>intro x c h;exact h
 | cons u us ih=>intro x c h;exact ih _ _ (PC u h).w
def thR(row:Nat→List AVal)(i:Nat):Int:=match row i with
 | .int _ a::_=>a
 | _=>0
def tmR(row:Nat→List AVal)(i:Nat):Int:=match row i with
 | _:: .int _ a::_=>a
 | _=>0
def cC(n:Nat)(row:Nat→List AVal):List Int:=zH (thR row) (tmR row) n 0 60000
structure rowOk (row:Nat→List AVal):Prop where
 h: ∃th tm:Nat→Int,row=fun i=>[.int .i64 (th i),.int .i64 (tm i)]
structure IU (x:EGS):Prop where
 h: ∃t n:Int,egW t n x
abbrev HO:AVal:=.func (.func 41) [.ptr 0 0] []
abbrev qG(x:EGS)(c:Int):aC Ob:=[some (.abs (.engine x) []),some (.cells [HO]),some (.cells [.int .i64 c])]
abbrev AP(n:Nat)(row:Nat→List AVal):List AVal:=[HO,.view n 2 row,.ptr 1 0,.raw undef,.int .i64 0,.ptr 2 0,.raw undef,.view n 2 row,.O]++List.replicate 7 (.raw undef)
theorem bZ.putD{w:World}{l:Nat}{d d':Option (List Deferred)}(h:w.heap[l]? =some (.deferred d)):bZ w (w.putObj l (.deferred d')):=by
 have hlt:l<w.heap.size:=(Array.getElem?_eq_some_iff.1 h).1;refine⟨rfl,rfl,?_,?_⟩
 ·show w.heap.size≤(w.heap.setIfInBounds l _).size
  simp
 ·intro a _;unfold World.frozen?
  by_cases e:a.block=l
  ·rw [e,h,World.putObj_heap_same hlt]
  ·rw [World.putObj_heap_other e]
theorem P8{α:Type}{l:List α}{i:Nat}{z:α}(h:l[i]? =some z):l.set i z=l:=by
 apply List.ext_getElem?;intro j
 by_cases e:i=j
 ·subst e;have hlt:=(List.getElem?_eq_some_iff.1 h).1;rw [List.getElem?_set_self hlt,h]
 ·rw [List.getElem?_set_ne e]
theorem KV{V V':Val}{m:Nat}{us:List AVal}{vs:List Value}(h:aG V us vs)(hw:aGI (upto 0 m) us=true)(hv: ∀l y,l<m→V l=some y→V' l=some y):aG V' us vs:=by
 have h1:aG (fun i=>if i<m then V i else none) us vs:=aGX (pl:=upto 0 m) (fun i hi=>by
  have:=(iZ m 0 i).1 hi;show V i=if i<m then V i else none
  rw [if_pos (by omega)]) _ _ hw h
 refine aG.mono ?_ _ _ h1;intro i y e;have e:(if i<m then V i else none)=some y:=e
 by_cases hi:i<m
 ·rw [if_pos hi]at e;exact hv i y hi e
 ·rw [if_neg hi]at e;cases e
theorem MV:X1=.seq (kC m9) (.seq (kC (kD m9)) (kC (kC (kD (kD m9))))):=rfl
abbrev aAr(n:Nat)(th tm:Nat→Int):List AVal:=[HO,.view n 2 (fun i=>[.int .i64 (th i),.int .i64 (tm i)]),.ptr 1 0,.raw undef,.int .i64 0,.ptr 2 0,.raw undef,.view n 2 (fun i=>[.int .i64 (th i),.int .i64 (tm i)]),.func (.func 114) [] [.ptr 3 0]]++List.replicate 7 (.raw undef)
structure MY (x:EGS) (n:Nat) (th tm:Nat→Int) (t:List AVal) (h:aC Ob):Prop where
 ht:t=aAr n th tm
 hh:h=qG x 0++ [some (.cells [WB n th tm])]
theorem MX(x:EGS)(n:Nat)(th tm:Nat→Int):GZ x n (fun i=>[.int .i64 (th i),.int .i64 (tm i)]) (MY x n th tm):=by
 unfold GZ;exact⟨rfl,rfl⟩
theorem MZ(x:EGS)(n:Nat)(row:Nat→List AVal)(c u:Int)(hx:PA u x):Ev (cQ EU9 (nA EU9 LL 9) 16 (D4 rO) (List.set (AP n row) 9 (.int .i64 u)) (qG x c) (fun tm1 h1=>cQ EU9 (nA EU9 LL 9) 16 (D5 rO) tm1 h1 (fun _ h2=>aF (obI tbl) 3 (.bool true) h2 (.bool true) (qG (pkF u x).2 (bif (pkF u x).1 then W (c+1)else c))))):=by
 refine I1 x n row c u (fun h2=>aF (obI tbl) 3 (.bool true) h2 (.bool true) (qG (pkF u x).2 (bif (pkF u x).1 then W (c+1)else c))) ?_;unfold NQ;refine⟨hx,?_⟩;cases (pkF u x).1 with
 | true=>exact aGL _ _ _
 | false=>exact aGL _ _ _
structure NB (x:EGS) (c:Int) (t:List AVal) (h:aC Ob):Prop where
 ht:t.getD 4 .O =.int .i64 c
 hl:t.length=16
 hh:h=qG x c
theorem NA(x:EGS)(n:Nat)(row:Nat→List AVal)(c:Int):Ev (cQ EU9 (nA EU9 LL 9) 16 M7 (AP n row) (qG x c) (NB x c)):=by
 refine I2 x n row c (NB x c) ?_;unfold NT;exact⟨rfl,rfl,rfl⟩
theorem IR:Tryz.f85.body=some (.seq (kC m9) (.seq (kC (kD m9)) (.seq (.seq (kC (kC (kD (kD m9)))) (.block 0 (.rangeFunc (.tmp 8) #[9] (D4 rO) (D5 rO)))) (.seq M7 .ret)))):=rfl
def eachS:aH Ob:=fun args h=>match args,h with
 | [.func (.func g) [.ptr 0 0] [],.view n 2 row],[some (.abs (.engine x) [])]=>cond (Nat.beq g 41) (some (.pre (IU x∧n≤4294967296∧rowOk row) (.ret (.int .i64 (runP x 0 (cC n row)).2) [some (.abs (.engine (runP x 0 (cC n row)).1) [])]))) none
 | _,_=>none
theorem TG:sT' 85 eachS:=by
 intro args h o ho K hK;unfold eachS at ho;split at ho
 case h_2=>cases ho
 rename_i g n row x;cases hg:Nat.beq g 41 with
 | false=>rw [hg]at ho;cases ho
 | true=>
 have hg:=Nat.eq_of_beq_eq_true hg;subst hg;simp only [Nat.beq_refl,cond_true,sI']at ho;subst ho;obtain⟨⟨⟨t,m,hx⟩,hn,⟨th,tm,rfl⟩⟩,hK⟩:=hK;obtain⟨xs,hxs⟩: ∃xs,xs=zH th tm n 0 60000:=⟨_,rfl⟩;have hpl:cC n (fun i=>[.int .i64 (th i),.int .i64 (tm i)])=xs:=by rw [hxs];rfl
 rw [hpl]at hK;have hK:K (.int .i64 (runP x 0 xs).2) [some (.abs (.engine (runP x 0 xs).1) [])]:=hK;intro V hR w args' hi hf hr;obtain⟨a0,l0,e0,r0,a1,l1,e1,r1,e2⟩:=hr;have e2:l1=[]:=e2;subst e2;have hargs:args'= #[a0,a1]:=by apply Array.ext';rw [e0,e1]
 subst hargs;have hinl:=nB (E:=EU9) Tryz.checked.mixed LL 9;refine callsIn_wide.1 (callsIn_of_wp_marks (F:=Fence.wide) (n:=0) Tryz.func85 IR trivial ?_)
 have ht0:aG V ([HO,.view n 2 (fun i=>[.int .i64 (th i),.int .i64 (tm i)])]++List.replicate 14 (.raw undef)) (#[a0,a1]++Array.replicate (Tryz.f85.ntmps - (#[a0,a1]:Array Value).size) undef).toList :=
  ⟨_,_,rfl,r0,_,_,rfl,r1,_,_,rfl,rfl,_,_,rfl,rfl,_,_,rfl,rfl,_,_,rfl,rfl,_,_,rfl,rfl,_,_,rfl,rfl,_,_,rfl,rfl,_,_,rfl,rfl,_,_,rfl,rfl,_,_,rfl,rfl,_,_,rfl,rfl,_,_,rfl,rfl,_,_,rfl,rfl,_,_,rfl,rfl,rfl⟩
 refine LI hinl (ro:=none) (ds:=[]) MV (I0 x n (fun i=>[.int .i64 (th i),.int .i64 (tm i)]) (MY x n th tm) (MX x n th tm)) hi hf ht0 rfl ?_;rintro q3 w3 ⟨tm3,V3,g3,⟨e3,e4⟩,y2,y3,y4,y5,y6,y7,y8⟩;subst e3;subst e4;refine wpIn_block ?_;have hcl:=fX y2 (.tmp 8);obtain⟨fs,cs,c1,c2,c3⟩: ∃fs cs,q3.eval (.tmp 8)=.func (.func 114) fs cs∧aG V3 [] fs.toList∧aG V3 [.ptr 3 0] cs.toList:=hcl;obtain⟨v0,vs,c4,⟨blk,k,c5,rfl⟩,c6⟩:=c3;have c6:vs=[]:=c6;subst c6;have c2:fs= #[]:=by apply Array.ext';exact c2
 have c4:cs= #[.pointer (some ⟨blk,0,none⟩)]:=by apply Array.ext';rw [c4]
 subst c2;subst c4
 have htT:aG V3 (AP n (fun i=>[.int .i64 (th i),.int .i64 (tm i)])) q3.tmps.toList:=by
  have hlen:=aG.length y2;obtain⟨z,hz,_⟩:=aG.get y2 8 _ rfl;have:=aG.set y2 8 .O z trivial;rw [P8 hz]at this;exact this
 refine(FO (E:=EU9) hinl (fA:=114) (view:=WB n th tm) (xs:=xs) (by rw [hxs];exact L2 th tm hn) (nt:=16) (m:=3) (tm:=AP n (fun i=>[.int .i64 (th i),.int .i64 (tm i)])) (S:=fun j=>qG (runP x 0 (xs.take j)).1 (runP x 0 (xs.take j)).2) (fun j=>rfl) rfl rfl ?_ y6 y4 c5 htT rfl y8 c1 (by kernel_rfl) ?_)
 ·intro j u hu;have hw:=yP (xs.take j) x 0 hx
  have htk:xs.take (j+1)=xs.take j++ [u]:=by
   rw [List.take_succ,hu];rfl
  have:=MZ (runP x 0 (xs.take j)).1 n (fun i=>[.int .i64 (th i),.int .i64 (tm i)]) (runP x 0 (xs.take j)).2 u (PB u hw);rw [htk,C3];exact this
 ·intro w4 D V4 hv4 hf4 hRD hDw hI4 hg4;rw [List.take_length]at hI4;have htT4:aG V4 (AP n (fun i=>[.int .i64 (th i),.int .i64 (tm i)])) q3.tmps.toList:=KV htT rfl hv4;refine LH hinl (ro:=none) (ds:=[{target:=.collected D,args:= #[] }]) (NA (runP x 0 xs).1 n (fun i=>[.int .i64 (th i),.int .i64 (tm i)]) (runP x 0 xs).2) hI4 hf4 htT4 rfl ?_;rintro q5 w5 ⟨tm5,V5,g5,⟨p1,p2,p3⟩,p4,p5,p6,p7,p8,p9,p10⟩;subst p3;refine wpIn_ret ?_;show LeavesInM Fence.wide 0 Tryz.prog Tryz.f85 q5.tmps _ q5.defers .returning w5;rw [p10]
  have hD5:w5.heap[D]? =some (.deferred (some [])):=by
   obtain⟨_,_,_,_,_,_,s6,_⟩:=p8;exact s6 D _ (if_pos rfl)
  refine⟨by simp,.inl ⟨D,_,rfl,run_takeDeferred hD5,?_⟩⟩
  refine⟨_,results_tmp rfl _ _ _,?_⟩
  have conD:Con.con D=none:=by
   cases e:Con.con D with
   | none=>rfl
   | some o=>
     obtain⟨_,_,_,_,_,_,_,s7⟩:=hi;rw [s7 D o e]at hRD;cases hRD
  obtain⟨V6,t1,t2,t3,t4,t5⟩:=aF.pick (I:=obI tbl) (n:=1) (v:=.bool true) (g:=qG (runP x 0 xs).1 (runP x 0 xs).2) [0] (by kernel_rfl) V5 _ w5 (.bool true) p8 p6 (by show 1≤3;decide) rfl
  have htr:gS [0] (qG (runP x 0 xs).1 (runP x 0 xs).2)=[some (.abs (.engine (runP x 0 xs).1) [])]:=by kernel_rfl
  rw [htr]at t2 t3 t5
  have hvle:V.le V6:=by
   intro i z e
   by_cases h0:i<1
   ·refine t1 i z h0 (p5 _ _ (hv4 i z (by omega) (y3 _ _ e)))
   ·rw [hf i (by show 1≤i;omega)]at e;cases e
  have hres:q5.tmps.getD 4 undef=.int .i64 (runP x 0 xs).2:=by
   have hlt:4<tm5.length:=by rw [p2];decide
   have h4:tm5[4]? =some (.int .i64 (runP x 0 xs).2):=by
    rw [gE' hlt];rw [gD',gE' hlt]at p1;exact congrArg some p1
   obtain⟨z,z1,z2⟩:=aG.get p4 4 _ h4;have z2:z=.int .i64 (runP x 0 xs).2:=z2;subst z2;rw [Array.getElem?_toList]at z1;rw [Array.getD_eq_getD_getElem?,z1];rfl
  refine⟨.int .i64 (runP x 0 xs).2,_,V6,_,hK,rfl,hres,hvle,t2,Nat.le_refl _,?_,(y7.trans hg4).trans (p9.trans (bZ.putD hD5))⟩;refine Inv.shrink (hX:=fun b=>if b=D then some (.deferred none)else hR b) (Inv.put (o:=.deferred (some [])) t5 (if_pos rfl) (if_pos rfl) ?_ conD) ?_ ?_
  ·intro b hb;show(if b=D then _ else _)=(if b=D then _ else _)
   rw [if_neg hb,if_neg hb]
  ·intro b o e;show(if b=D then _ else _)=_
   rw [if_neg (fun e2=>by subst e2;rw [hRD]at e;cases e)]
   exact e
  ·obtain⟨_,_,_,_,_,_,_,s7⟩:=hi;exact s7
noncomputable def EUa:=EU9.addS 85 eachS TG
def YW(x:EGS)(n:Nat)(row:Nat→List AVal)(K:AVal→aC Ob→Prop):Prop:=(IU x∧n≤(4294967296:Nat)∧rowOk row)∧K (.int .i64 (runP x 0 (cC n row)).2) [some (.abs (.engine (runP x 0 (cC n row)).1) [])]
theorem K4(x:EGS)(n:Nat)(row:Nat→List AVal)(K:AVal→aC Ob→Prop)(h:YW x n row K):cT' 27 [.ptr 0 0,.view n 2 row] [some (.abs (.engine x) [])] (gC 1 K):=by
 exact cM' (E:=EUa) (by kernel_rfl) h
def runS:aH Ob:=fun args h=>match args,h with
 | [.ptr 0 0,.view n 2 row],[some (.abs (.engine x) [])]=>some (.pre (IU x∧n≤4294967296∧rowOk row) (.ret (.int .i64 (runP x 0 (cC n row)).2) [some (.abs (.engine (runP x 0 (cC n row)).1) [])]))
 | _,_=>none
theorem F7:sT' 27 runS:=by
 intro args h o ho K hK;unfold runS at ho;split at ho<;>cases ho
 rename_i n row x;obtain⟨hp,hK⟩:=hK;have hK:K (.int .i64 (runP x 0 (cC n row)).2) [some (.abs (.engine (runP x 0 (cC n row)).1) [])]:=hK;exact aGz (K4 x n row K ⟨hp,hK⟩)
noncomputable def EUb:=EUa.addS 27 runS F7
def allT:List (List Int)→Int→List Int
 | [],_=>[]
 | r::rs,left=>List.replicate (min (r.tail.headD 0) left).toNat (r.headD 0)++allT rs (left - ((min (r.tail.headD 0) left).toNat :Int))
abbrev pkK:List Code1:=[some .i64,some .i64]
structure afO (rows:List (List Int)) (R:List Int) (x:Nat×List Int):Prop where
 hi:x.1≤rows.length
 hl:x.2.length≤60000
 hR:x.2++allT (rows.drop x.1) (60000 - (x.2.length:Int))=R
structure afI (rows:List (List Int)) (R:List Int) (i0:Int) (x:Nat×List Int×Int):Prop where
 hi:x.1<rows.length
 h0:(x.1:Int)=i0
 hn:0≤x.2.2∧x.2.2≤(x.2.1.length:Int)
 hl:x.2.1.length≤60000
 hR:x.2.1++allT ([(rows.getD x.1 []).headD 0,(rows.getD x.1 []).tail.headD 0 - x.2.2]::rows.drop (x.1+1)) (60000 - (x.2.1.length:Int))=R
def GK(rows:List (List Int))(R:List Int):Hint Ob:= {X:=Nat×List Int,st:=fun x=>([.tslice 0 0 rows.length 2,.O,.O,.slice 1 0 x.2.length 1,.I (x.1:Int)]++List.replicate 30 .O,[some (.tab pkK rows),iI' x.2]),ok:=afO rows R,mu:=fun x=>rows.length - x.1,keep:=[0,3,4],casts:=[(.slot 3,.ints (some .i64))] }
def RE(rows:List (List Int))(R:List Int)(i0:Int):Hint Ob:= {X:=Nat×List Int×Int,st:=fun x=>([.tslice 0 0 rows.length 2,.O,.O,.slice 1 0 x.2.1.length 1,.I (x.1:Int),.I x.2.2]++List.replicate 29 .O,[some (.tab pkK rows),iI' x.2.1]),ok:=afI rows R i0,mu:=fun x=>(60000 - (x.2.1.length:Int)).toNat,keep:=[0,3,4,5],casts:=[(.slot 3,.ints (some .i64))] }
def LAF(rows:List (List Int))(R:List Int):FuncId→Nat→Option (pD Ob):=fun _ k=>match k with
 | 3=>some (.states (GK rows R))
 | 6=>some (.statesAt 4 (RE rows R))
 | _=>none
abbrev w5a(rows:List (List Int)):Option (aJ Ob):=some (.tab [some .i64,some .i64] rows)
def Y6(rows:List (List Int))(R:List Int)(K:AVal→aC Ob→Prop):Prop:=cV (GK rows R) (Hint.ok (GK rows R)) (.tslice 0 0 rows.length 2::.O::.O::.slice 1 0 0 1::.I 0::(tO' 30 [])) [w5a rows,some (.ints (some .i64) [])]∧ ∀(x:(Nat×List Int)),afO rows R x→bif ilt (↑x.1:Int) (↑rows.length:Int)then cV (RE rows R (↑(Prod.fst x):Int)) (Hint.ok (RE rows R (↑(Prod.fst x):Int))) (.tslice 0 0 rows.length 2::.O::.O::.slice 1 0 x.2.length 1::.I (↑x.1:Int)::.I 0::(tO' 29 [])) [w5a rows,iI' x.2]∧ ∀(x_1:(Nat×List Int×Int)),afI rows R (↑x.1:Int) x_1→((0:Int)≤(↑x_1.1:Int)∧(↑x_1.1:Int)<(↑rows.length:Int))∧0+Int.toNat (↑x_1.1:Int)<rows.length∧bif ilt (Prod.snd x_1).2 (List.headD (List.tail (List.getD rows (0+Int.toNat (↑x_1.1:Int)) [])) 0)then bif ilt (↑(List.length (Prod.snd x_1).1):Int) 60000 then((0:Int)≤(↑x_1.1:Int)∧(↑x_1.1:Int)<(↑rows.length:Int))∧0+Int.toNat (↑x_1.1:Int)<rows.length∧(0=0∧lE' (Prod.snd x_1).1∧1=1∧List.length (Prod.snd x_1).1+(1:Nat)≤(4294967296:Nat))∧cV (RE rows R (↑(Prod.fst x):Int)) (fun x'=>Hint.ok (RE rows R (↑(Prod.fst x):Int)) x'∧Hint.mu (RE rows R (↑(Prod.fst x):Int)) x'<Hint.mu (RE rows R (↑(Prod.fst x):Int)) x_1) (.tslice 0 0 rows.length 2::.O::.O::.slice 1 0 (List.length (Prod.snd x_1).1+1) 1::.I (↑x_1.1:Int)::.I (W ((Prod.snd x_1).2+1))::(tO' 29 [])) [w5a rows,iI' ((Prod.snd x_1).1++ [List.headD (List.getD rows (0+Int.toNat (↑x_1.1:Int)) []) 0])]else cV (GK rows R) (fun x'=>Hint.ok (GK rows R) x'∧Hint.mu (GK rows R) x'<Hint.mu (GK rows R) x) (.tslice 0 0 rows.length 2::.O::.O::.slice 1 0 (List.length (Prod.snd x_1).1) 1::.I (W ((↑x_1.1:Int)+1))::(tO' 30 [])) [w5a rows,iI' (Prod.snd x_1).1]else cV (GK rows R) (fun x'=>Hint.ok (GK rows R) x'∧Hint.mu (GK rows R) x'<Hint.mu (GK rows R) x) (.tslice 0 0 rows.length 2::.O::.O::.slice 1 0 (List.length (Prod.snd x_1).1) 1::.I (W ((↑x_1.1:Int)+1))::(tO' 30 [])) [w5a rows,iI' (Prod.snd x_1).1]else K (.slice 1 0 x.2.length 1) [w5a rows,iI' x.2]
set_option maxRecDepth 100000 in
theorem LW(rows:List (List Int))(R:List Int)(K:AVal→aC Ob→Prop)(h:Y6 rows R K):cT' 40 [.tslice 0 0 rows.length 2] [some (.tab pkK rows)] (gC 1 K):=by
 exact aD (E:=EUb) Tryz.checked.mixed (L:=LAF rows R) (n:=10) (aK (by kernel_rfl) h)
theorem PV(out:List Int)(u:Int)(rest:List (List Int))(a q:Int)(ha:0<a)(hq:0<q):(out++ [u])++(List.replicate (min (a - 1) (q - 1)).toNat u++allT rest (q - 1 - ((min (a - 1) (q - 1)).toNat :Int)))=out++(List.replicate (min a q).toNat u++allT rest (q - ((min a q).toNat :Int))):=by
 have hm:(min a q).toNat =(min (a - 1) (q - 1)).toNat +1:=by omega
 have hq2:q - 1 - ((min (a - 1) (q - 1)).toNat :Int)=q - (((min (a - 1) (q - 1)).toNat +1:Nat):Int):=by omega
 rw [hm,hq2,List.replicate_succ,List.append_assoc];rfl
theorem f7{a b:Int}(h:ilt a b=true):a<b:=by rw [aU]at h;exact of_decide_eq_true h
theorem f5{a b:Int}(h:ilt a b=false): ¬a<b:=by rw [aU]at h;exact of_decide_eq_false h
theorem aC4(rows:List (List Int))(K:AVal→aC Ob→Prop)(hn:rows.length≤4294967296)(hK:K (.slice 1 0 (allT rows 60000).length 1) [some (.tab pkK rows),iI' (allT rows 60000)]):Y6 rows (allT rows 60000) K:=by
 refine⟨aQ (H:=GK rows (allT rows 60000)) (0,[]) rfl ⟨Nat.zero_le _,Nat.zero_le _,rfl⟩,?_⟩;rintro⟨iO,outO⟩ ⟨hiO,hlO,hRO⟩;dsimp only at hiO hlO hRO⊢;refine bI (fun e=>?_) (fun e=>?_)
 ·rw [aU,dT']at e;have hin:iO<rows.length:=by omega
  have hdr:rows.drop iO=rows.getD iO []::rows.drop (iO+1):=by
   rw [List.drop_eq_getElem_cons hin,gD',gE' hin];rfl
  refine⟨aQ (H:=RE rows (allT rows 60000) (iO:Int)) (iO,outO,0) rfl ⟨hin,rfl,⟨Int.le_refl 0,by dsimp only;omega⟩,hlO,?_⟩,?_⟩
  ·dsimp only;rw [←hRO,hdr,Int.sub_zero];rfl
  ·rintro⟨i,out,nn⟩ ⟨hi,h0,⟨hn0,hn1⟩,hl,hR⟩;dsimp only at hi h0 hn0 hn1 hl hR⊢;have h0:i=iO:=by omega
   subst h0;rw [Int.toNat_natCast,Nat.zero_add]
   have e2:W ((i:Int)+1)=((i+1:Nat):Int):=by
    have:=cX (x:=(i:Int)+1) ⟨by omega,by omega⟩
    exact this.trans (by omega)
   generalize hr:rows.getD i []=r at hR⊢
   have fin:(min (r.tail.headD 0 - nn) (60000 - (out.length:Int))).toNat =0→afO rows (allT rows 60000) (i+1,out):=by
    intro hz;refine⟨hi,hl,?_⟩;dsimp only;rw [←hR];show _=out++(List.replicate (min (r.tail.headD 0 - nn) (60000 - (out.length:Int))).toNat _++allT _ (60000 - (out.length:Int) - ((min (r.tail.headD 0 - nn) (60000 - (out.length:Int))).toNat :Int)));rw [hz]
    simp
   refine⟨⟨by omega,by omega⟩,hi,bI (fun e3=>?_) (fun e3=>?_)⟩
   ·rw [aU,dT']at e3;generalize hbb:ilt (out.length:Int) 60000=bb;refine bI (fun e4=>?_) (fun e4=>?_)
    ·have e4:=f7 (hbb.trans e4);refine⟨⟨by omega,by omega⟩,hi,⟨rfl,rfl,rfl,by omega⟩,?_⟩
     have e5:W (nn+1)=nn+1:=cX ⟨by omega,by omega⟩
     rw [e5];refine aQ (H:=RE rows (allT rows 60000) (i:Int)) (i,out++ [r.headD 0],nn+1) (by simp only [RE,List.length_append,List.length_singleton]<;>rfl) ⟨⟨hi,rfl,⟨by dsimp only;omega,by dsimp only;rw [List.length_append,List.length_singleton];omega⟩,by dsimp only;rw [List.length_append,List.length_singleton];omega,?_⟩,?_⟩
     ·dsimp only;rw [hr,List.length_append,List.length_singleton,←hR];show(out++ [r.headD 0])++(List.replicate (min (r.tail.headD 0 - (nn+1)) (60000 - ((out.length+1:Nat):Int))).toNat (r.headD 0)++allT (rows.drop (i+1)) (60000 - ((out.length+1:Nat):Int) - ((min (r.tail.headD 0 - (nn+1)) (60000 - ((out.length+1:Nat):Int))).toNat :Int)))=out++(List.replicate (min (r.tail.headD 0 - nn) (60000 - (out.length:Int))).toNat (r.headD 0)++allT (rows.drop (i+1)) (60000 - (out.length:Int) - ((min (r.tail.headD 0 - nn) (60000 - (out.length:Int))).toNat :Int)));have e6:(60000:Int) - ((out.length+1:Nat):Int)=(60000 - (out.length:Int)) - 1:=by omega
      have e7:r.tail.headD 0 - (nn+1)=(r.tail.headD 0 - nn) - 1:=by omega
      have e8:0<r.tail.headD 0 - nn:=by omega
      have e9:0<(60000:Int) - (out.length:Int):=by omega
      rw [e6,e7];exact PV _ _ _ _ _ e8 e9
     ·show(60000 - ((out++ [r.headD 0]).length :Int)).toNat <(60000 - (out.length:Int)).toNat;rw [List.length_append,List.length_singleton];omega
    ·have e4:=f5 (hbb.trans e4);rw [e2];exact aQ (H:=GK rows (allT rows 60000)) (i+1,out) rfl ⟨fin (by omega),by show rows.length - (i+1)<rows.length - i;omega⟩
   ·rw [aU,dF']at e3;rw [e2];exact aQ (H:=GK rows (allT rows 60000)) (i+1,out) rfl ⟨fin (by omega),by show rows.length - (i+1)<rows.length - i;omega⟩
 ·rw [aU,dF']at e;have hz:rows.drop iO=[]:=List.drop_eq_nil_of_le (by omega)
  rw [hz]at hRO;have hRO:outO++ []=allT rows 60000:=hRO;rw [List.append_nil]at hRO;rw [←hRO]at hK;exact hK
def afS:aH Ob:=fun args h=>match args,h with
 | [.tslice 0 0 n 2],[some (.tab [some .i64,some .i64] rows)]=>some (.pre (n=rows.length∧n≤4294967296) (.ret (.slice 1 0 (allT rows 60000).length 1) [some (.tab pkK rows),iI' (allT rows 60000)]))
 | _,_=>none
theorem aC3:sT' 40 afS:=by
 intro args h o ho K hK;unfold afS at ho;split at ho<;>cases ho
 rename_i n rows;obtain⟨⟨rfl,hn⟩,hK⟩:=hK;exact aGz (LW rows _ K (aC4 rows K hn hK))
noncomputable def EUc:=EUb.addS 40 afS aC3
abbrev FI(m:Nat)(ln:Nat→Nat)(f g:Nat→Nat→Int):AVal:=.view m 1 (fun i=>[.view (ln i) 2 (fun j=>[.I (f i j),.I (g i j)])])
structure er1 (m:Nat) (ln:Nat→Nat) (x:Nat):Prop where
 hi:x≤m
 hl: ∀j,j<x→ln j≤40
structure er2 (sh:Int) (m:Nat) (ln:Nat→Nat) (f g:Nat→Nat→Int) (x:Nat):Prop where
 hi:x≤m
 hl: ∀j,j<x→eJ sh (ln j) (f j) (g j)=true
structure er3 (sh:Int) (m:Nat) (ln:Nat→Nat) (f g:Nat→Nat→Int) (i0:Int) (x:Nat×Nat):Prop where
 hi:x.1<m
 h0:(x.1:Int)=i0
 hk:x.2≤ln x.1
 hl: ∀j,j<x.1→eJ sh (ln j) (f j) (g j)=true
 hr: ∀j,j<x.2→b9 sh (f x.1 j) (g x.1 j)=true
def RO(sh th nd tr:Int)(m:Nat)(ln:Nat→Nat)(f g:Nat→Nat→Int):Hint Ob:= {X:=Nat,st:=fun x=>([.I sh,.I th,.I nd,.I tr,FI m ln f g,.O,.O,.O,.O,.O,.O,.I (x:Int)]++List.replicate 71 .O,[]),ok:=er1 m ln,mu:=fun x=>m - x,keep:=[0,1,2,3,4,11] }
def RP(sh th nd tr:Int)(m:Nat)(ln:Nat→Nat)(f g:Nat→Nat→Int):Hint Ob:= {X:=Nat,st:=fun x=>([.I sh,.O,.O,.O,FI m ln f g,.O,.O,.O,.O,.O,.O,.O,.I (x:Int)]++List.replicate 70 .O,[]),ok:=er2 sh m ln f g,mu:=fun x=>m - x,keep:=[0,4,12] }
def RQ(sh th nd tr:Int)(m:Nat)(ln:Nat→Nat)(f g:Nat→Nat→Int)(i0:Int):Hint Ob:= {X:=Nat×Nat,st:=fun x=>([.I sh,.O,.O,.O,FI m ln f g,.O,.O,.O,.O,.O,.O,.O,.I (x.1:Int),.I (x.2:Int)]++List.replicate 69 .O,[]),ok:=er3 sh m ln f g i0,mu:=fun x=>ln x.1 - x.2,keep:=[0,4,12,13] }
def LER(sh th nd tr:Int)(m:Nat)(ln:Nat→Nat)(f g:Nat→Nat→Int):FuncId→Nat→Option (pD Ob):=fun _ k=>match k with
 | 8=>some (.states (RO sh th nd tr m ln f g))
 | 13=>some (.states (RP sh th nd tr m ln f g))
 | 16=>some (.statesAt 12 (RQ sh th nd tr m ln f g))
 | _=>none
def TR(sh th nd tr:Int)(m:Nat)(ln:Nat→Nat)(f g:Nat→Nat→Int)(K:AVal→aC Ob→Prop):Prop:=bif ilt sh 1 then K (.I 1) []else bif ilt 4 sh then K (.I 1) []else bif ilt th 1 then K (.I 2) []else bif ilt 8 th then K (.I 2) []else bif ilt nd 1 then K (.I 2) []else bif ilt 200 nd then K (.I 2) []else bif ilt tr 0 then K (.I 2) []else bif ilt 50 tr then K (.I 2) []else bif ilt th (↑m:Int)then K (.I 6) []else cV (RO sh th nd tr m ln f g) (Hint.ok (RO sh th nd tr m ln f g)) (.I sh::.I th::.I nd::.I tr::(.view m 1 fun i=>[.view (ln i) 2 fun j=>[.I (f i j),.I (g i j)]])::.O::.O::.O::.O::.O::.O::.I 0::(tO' 71 [])) []∧ ∀(x:Nat),er1 m ln x→bif ilt (↑x:Int) (↑m:Int)then((0:Int)≤(↑x:Int)∧(↑x:Int)<(↑m:Int))∧bif ilt 40 (↑(ln (Int.toNat (↑x:Int))):Int)then K (.I 6) []else cV (RO sh th nd tr m ln f g) (fun x'=>Hint.ok (RO sh th nd tr m ln f g) x'∧Hint.mu (RO sh th nd tr m ln f g) x'<Hint.mu (RO sh th nd tr m ln f g) x) (.I sh::.I th::.I nd::.I tr::(.view m 1 fun i=>[.view (ln i) 2 fun j=>[.I (f i j),.I (g i j)]])::.O::.O::.O::.O::.O::.O::.I (W ((↑x:Int)+1))::(tO' 71 [])) []else cV (RP sh th nd tr m ln f g) (Hint.ok (RP sh th nd tr m ln f g)) (.I sh::.O::.O::.O::(.view m 1 fun i=>[.view (ln i) 2 fun j=>[.I (f i j),.I (g i j)]])::.O::.O::.O::.O::.O::.O::.O::.I 0::(tO' 70 [])) []∧ ∀(x:Nat),er2 sh m ln f g x→bif ilt (↑x:Int) (↑m:Int)then cV (RQ sh th nd tr m ln f g (↑x:Int)) (Hint.ok (RQ sh th nd tr m ln f g (↑x:Int))) (.I sh::.O::.O::.O::(.view m 1 fun i=>[.view (ln i) 2 fun j=>[.I (f i j),.I (g i j)]])::.O::.O::.O::.O::.O::.O::.O::.I (↑x:Int)::.I 0::(tO' 69 [])) []∧ ∀(x_1:(Nat×Nat)),er3 sh m ln f g (↑x:Int) x_1→((0:Int)≤(↑x_1.1:Int)∧(↑x_1.1:Int)<(↑m:Int))∧bif ilt (↑x_1.2:Int) (↑(ln (Int.toNat (↑x_1.1:Int))):Int)then((0:Int)≤(↑x_1.1:Int)∧(↑x_1.1:Int)<(↑m:Int))∧((0:Int)≤(↑x_1.2:Int)∧(↑x_1.2:Int)<(↑(ln (Int.toNat (↑x_1.1:Int))):Int))∧True∧bif !b9 sh (f (Int.toNat (↑x_1.1:Int)) (Int.toNat (↑x_1.2:Int))) (g (Int.toNat (↑x_1.1:Int)) (Int.toNat (↑x_1.2:Int)))then K (.I 1) []else cV (RQ sh th nd tr m ln f g (↑x:Int)) (fun x'=>Hint.ok (RQ sh th nd tr m ln f g (↑x:Int)) x'∧Hint.mu (RQ sh th nd tr m ln f g (↑x:Int)) x'<Hint.mu (RQ sh th nd tr m ln f g (↑x:Int)) x_1) (.I sh::.O::.O::.O::(.view m 1 fun i=>[.view (ln i) 2 fun j=>[.I (f i j),.I (g i j)]])::.O::.O::.O::.O::.O::.O::.O::.I (↑x_1.1:Int)::.I (W ((↑x_1.2:Int)+1))::(tO' 69 [])) []else cV (RP sh th nd tr m ln f g) (fun x'=>Hint.ok (RP sh th nd tr m ln f g) x'∧Hint.mu (RP sh th nd tr m ln f g) x'<Hint.mu (RP sh th nd tr m ln f g) x) (.I sh::.O::.O::.O::(.view m 1 fun i=>[.view (ln i) 2 fun j=>[.I (f i j),.I (g i j)]])::.O::.O::.O::.O::.O::.O::.O::.I (W ((↑x_1.1:Int)+1))::(tO' 70 [])) []else K (.I 0) []
set_option maxRecDepth 100000 in
theorem NN(sh th nd tr:Int)(m:Nat)(ln:Nat→Nat)(f g:Nat→Nat→Int)(K:AVal→aC Ob→Prop)(h:TR sh th nd tr m ln f g K):cT' 78 [.I sh,.I th,.I nd,.I tr,FI m ln f g] [] (gC 0 K):=by
 exact aD (E:=EUc) Tryz.checked.mixed (L:=LER sh th nd tr m ln f g) (n:=10) (aK (by kernel_rfl) h)
theorem X7{sh th nd tr:Int}{m:Nat}{ln:Nat→Nat}{f g:Nat→Nat→Int}(h:gnC sh th nd tr m ln f g=0):wrE sh th nd tr=0:=by
 unfold gnC at h;cases h1:ieq (wrE sh th nd tr) 0 with
 | true=>exact f0 h1
 | false=>rw [h1]at h;exact h
theorem aBc{sh th nd tr:Int}{m:Nat}{ln:Nat→Nat}{f g:Nat→Nat→Int}(h:gnC sh th nd tr m ln f g=0):lgB th m ln=false:=by
 have h0:=X7 h;unfold gnC at h;rw [h0]at h;cases e:lgB th m ln with
 | false=>rfl
 | true=>rw [e]at h;exact absurd (show(6:Int)=0 from h) (by decide)
theorem aBd{sh th nd tr:Int}{m:Nat}{ln:Nat→Nat}{f g:Nat→Nat→Int}(h:gnC sh th nd tr m ln f g=0){i:Nat}(hi:i<m):ln i≤40:=by
 have h1:=aBc h;unfold lgB at h1;rw [Bool.or_eq_false_iff]at h1;have h2:=List.any_eq_false.1 h1.1 i (List.mem_range.2 hi)
 simpa using h2
theorem KE(k:Nat):VX (List.replicate k 0):=by
 refine⟨fun x hx=>?_⟩;rw [List.eq_of_mem_replicate hx];exact⟨by decide,by decide⟩
theorem XG{sh th nd tr:Int}{m:Nat}{ln:Nat→Nat}{f g:Nat→Nat→Int}(h:gnC sh th nd tr m ln f g=0){j:Nat}(hj:(j:Int)<th)(hth:th≤8):XI th nd 0 (dE sh th nd m ln f g j):=by
 have hl:((bif ilt (j:Int) (m:Int)then ofR sh (ln j) (f j) (g j)else []).length :Int)≤40:=by
  cases e:ilt (j:Int) (m:Int)with
  | false=>exact(by decide:((0:Nat):Int)≤40)
  | true=>
    rw [aU,dT']at e;have h1:=aBd h (i:=j) (by omega)
    show((ofR sh (ln j) (f j) (g j)).length :Int)≤40;unfold ofR;cases eJ sh (ln j) (f j) (g j)with
    | false=>exact(by decide:((0:Nat):Int)≤40)
    | true=>show((kP sh (ln j) (f j) (g j)).length :Int)≤40;rw [pU];omega
 unfold dE;generalize (bif ilt (j:Int) (m:Int)then ofR sh (ln j) (f j) (g j)else [])=tk at hl⊢;exact⟨rfl,rfl,⟨⟨by show(0:Int)≤(j:Int);omega,by show(j:Int)≤1000;omega⟩,rX,(by decide:((0:Nat):Int)≤0)⟩,fun e=>Bool.noConfusion e,(by decide:(0:Int)≤0),by show(0:Int)≤(tk.length:Int);omega,rfl,(by decide:((0:Nat):Int)≤0),by show(tk.length:Int)≤100000;omega⟩
theorem GU{sh th nd tr:Int}{m:Nat}{ln:Nat→Nat}{f g:Nat→Nat→Int}(h:gnC sh th nd tr m ln f g=0):egW th nd (dJ sh th nd tr m ln f g):=by
 have h0:=X7 h;obtain⟨_,_,⟨t0,t1,n0,n1⟩,_⟩:=YZ (by rw [cO,h0];rfl)
 refine⟨⟨t0,t1⟩,⟨n0,by omega⟩,rfl,rfl,rfl,rfl,⟨(by decide:(0:Int)≤0),(by decide:(0:Int)≤60000)⟩,rfl,KE _,?_,?_,?_⟩
 ·show(((List.range th.toNat).map _).length :Int)=th;rw [List.length_map,List.length_range];omega
 ·intro i hi;have hi:i<((List.range th.toNat).map (dE sh th nd m ln f g)).length :=hi;rw [List.length_map,List.length_range]at hi
  have e:bE (dJ sh th nd tr m ln f g).ws i=dE sh th nd m ln f g i:=by
   show bE ((List.range th.toNat).map (dE sh th nd m ln f g)) i=_;unfold bE;rw [gD',List.getElem?_map,List.getElem?_range hi];rfl
  rw [e];exact XG h (by omega) t1
 ·refine⟨(by decide:((0:Nat):Int)≤2*0),(by decide:((0:Nat):Int)≤0),?_,?_,?_,?_,?_,?_,?_,?_⟩<;>exact⟨(by decide:(0:Int)≤0),(by decide:(0:Int)≤((0:Nat):Int))⟩
theorem kV{sh th nd tr:Int}{m:Nat}{ln:Nat→Nat}{f g:Nat→Nat→Int}{c:Int}(h:wrE sh th nd tr=c)(h0:ieq c 0=false):gnC sh th nd tr m ln f g=c:=by
 unfold gnC;rw [h,h0];rfl
theorem X8{sh th nd tr:Int}{m:Nat}{ln:Nat→Nat}{f g:Nat→Nat→Int}(h:wrE sh th nd tr=0)(hl:lgB th m ln=true):gnC sh th nd tr m ln f g=6:=by
 unfold gnC;rw [h,hl];rfl
theorem aDS{sh th nd tr:Int}{m:Nat}{ln:Nat→Nat}{f g:Nat→Nat→Int}(h:wrE sh th nd tr=0)(hl:lgB th m ln=false)(ha: ∃i k,i<m∧k<ln i∧b9 sh (f i k) (g i k)=false):gnC sh th nd tr m ln f g=1:=by
 have:((List.range m).all fun j=>eJ sh (ln j) (f j) (g j))=false:=by
  obtain⟨i,k,hi,hk,hr⟩:=ha;rw [List.all_eq_false];refine⟨i,List.mem_range.2 hi,?_⟩;intro e;rw [oO.1 e k hk]at hr;cases hr
 unfold gnC;rw [h,hl,this];rfl
theorem aBe{sh th nd tr:Int}{m:Nat}{ln:Nat→Nat}{f g:Nat→Nat→Int}(h:wrE sh th nd tr=0)(hl:lgB th m ln=false)(ha: ∀i,i<m→eJ sh (ln i) (f i) (g i)=true):gnC sh th nd tr m ln f g=0:=by
 have:((List.range m).all fun j=>eJ sh (ln j) (f j) (g j))=true:=by
  rw [List.all_eq_true];intro i hi;exact ha i (List.mem_range.1 hi)
 unfold gnC;rw [h,hl,this];rfl
theorem qV{t n:Int}(h:t<1∨8<t∨n<1∨200<n):dK t n=false:=by
 cases e:dK t n with
 | false=>rfl
 | true=>have:=sX.1 e;omega
theorem HF{a b:Int}(h:a<b):ilt a b=true:=by rw [aU];exact decide_eq_true h
theorem sT{a b:Int}(h: ¬a<b):ilt a b=false:=by rw [aU];exact decide_eq_false h
theorem W1{i:Nat}{m:Nat}(hi:i<m)(hm:m≤1000000):W ((i:Int)+1)=((i+1:Nat):Int):=by
 have:=cX (x:=(i:Int)+1) ⟨by omega,by omega⟩
 exact this.trans (by omega)
set_option maxRecDepth 10000 in
theorem aDH(sh th nd tr:Int)(m:Nat)(ln:Nat→Nat)(f g:Nat→Nat→Int)(K:AVal→aC Ob→Prop)(hm:m≤1000000)(hK:K (.I (gnC sh th nd tr m ln f g)) []):TR sh th nd tr m ln f g K:=by
 have key: ∀c,gnC sh th nd tr m ln f g=c→K (.I c) []:=fun c e=>by rw [←e];exact hK
 have w1:(sh<1∨4<sh)→wrE sh th nd tr=1:=by
  intro h;unfold wrE
  by_cases h1:sh<1
  ·rw [HF h1];rfl
  ·rw [sT h1,HF (show 4<sh by omega)];rfl
 have w2: ¬(sh<1∨4<sh)→(dK th nd=false∨tr<0∨50<tr)→wrE sh th nd tr=2:=by
  intro h h2;unfold wrE;rw [sT (show¬sh<1 by omega),sT (show¬4<sh by omega)]
  cases e:dK th nd with
  | false=>rfl
  | true=>
    rw [e]at h2
    by_cases h3:tr<0
    ·rw [HF h3];rfl
    ·rw [sT h3,HF (show 50<tr by rcases h2 with h2 | h2 | h2<;>first | (exact Bool.noConfusion h2) | omega)];rfl
 unfold TR;refine bI (fun e1=>key 1 (kV (w1 (.inl (f7 e1))) rfl)) (fun e1=>?_);refine bI (fun e2=>key 1 (kV (w1 (.inr (f7 e2))) rfl)) (fun e2=>?_);have e1:=f5 e1;have e2:=f5 e2;have hs: ¬(sh<1∨4<sh):=by omega
 refine bI (fun e3=>key 2 (kV (w2 hs (.inl (qV (.inl (f7 e3))))) rfl)) (fun e3=>?_);refine bI (fun e4=>key 2 (kV (w2 hs (.inl (qV (.inr (.inl (f7 e4)))))) rfl)) (fun e4=>?_);refine bI (fun e5=>key 2 (kV (w2 hs (.inl (qV (.inr (.inr (.inl (f7 e5))))))) rfl)) (fun e5=>?_);refine bI (fun e6=>key 2 (kV (w2 hs (.inl (qV (.inr (.inr (.inr (f7 e6))))))) rfl)) (fun e6=>?_);refine bI (fun e7=>key 2 (kV (w2 hs (.inr (.inl (f7 e7)))) rfl)) (fun e7=>?_);refine bI (fun e8=>key 2 (kV (w2 hs (.inr (.inr (f7 e8)))) rfl)) (fun e8=>?_);have e3:=f5 e3;have e4:=f5 e4;have e5:=f5 e5;have e6:=f5 e6;have e7:=f5 e7;have e8:=f5 e8;have hr:dK th nd=true:=sX.2 ⟨by omega,by omega,by omega,by omega⟩
 have hw:wrE sh th nd tr=0:=by
  unfold wrE;rw [sT e1,sT e2,hr,sT e7,sT e8];rfl
 refine bI (fun e9=>key 6 (X8 hw (HH (.inr (f7 e9))))) (fun e9=>?_);have e9:=f5 e9;refine⟨aQ (H:=RO sh th nd tr m ln f g) (0:Nat) rfl ⟨Nat.zero_le _,fun j hj=>absurd hj (Nat.not_lt_zero _)⟩,?_⟩;rintro x ⟨hx,hxl⟩;refine bI (fun a1=>?_) (fun a1=>?_)
 ·have a1:=f7 a1;have hxm:x<m:=by omega
  rw [Int.toNat_natCast];refine⟨⟨by omega,by omega⟩,bI (fun a2=>key 6 (X8 hw (HH (.inl ⟨x,hxm,by have:=f7 a2;omega⟩)))) (fun a2=>?_)⟩
  have a2:=f5 a2;rw [W1 hxm hm];refine aQ (H:=RO sh th nd tr m ln f g) (x+1:Nat) rfl ⟨⟨hxm,fun j hj=>?_⟩,by show m - (x+1)<m - x;omega⟩
  by_cases e:j=x
  ·subst e;omega
  ·exact hxl j (by omega)
 ·have a1:=f5 a1;have hxm:x=m:=by omega
  subst hxm;have hlg:lgB th x ln=false:=OX.2 ⟨hxl,by omega⟩
  refine⟨aQ (H:=RP sh th nd tr x ln f g) (0:Nat) rfl ⟨Nat.zero_le _,fun j hj=>absurd hj (Nat.not_lt_zero _)⟩,?_⟩;rintro i ⟨hi,hil⟩;refine bI (fun b1=>?_) (fun b1=>?_)
  ·have b1:=f7 b1;have him:i<x:=by omega
   refine⟨aQ (H:=RQ sh th nd tr x ln f g (i:Int)) (i,(0:Nat)) rfl ⟨him,rfl,Nat.zero_le _,hil,fun j hj=>absurd hj (Nat.not_lt_zero _)⟩,?_⟩;rintro⟨i2,k⟩ ⟨ci,c0,ck,cl,cr⟩;dsimp only at ci c0 ck cl cr⊢;have c0:i2=i:=by omega
   subst c0;rw [Int.toNat_natCast,Int.toNat_natCast];have hln:=hxl i2 ci;refine⟨⟨by omega,by omega⟩,bI (fun d1=>?_) (fun d1=>?_)⟩
   ·have d1:=f7 d1;refine⟨⟨by omega,by omega⟩,⟨by omega,by omega⟩,trivial,bI (fun d2=>key 1 (aDS hw hlg ⟨i2,k,ci,by omega,by simpa using d2⟩)) (fun d2=>?_)⟩
    rw [W1 (show k<ln i2 by omega) (by omega)]
    refine aQ (H:=RQ sh th nd tr x ln f g (i2:Int)) (i2,(k+1:Nat)) rfl ⟨⟨ci,rfl,by dsimp only;omega,cl,fun j hj=>?_⟩,by show ln i2 - (k+1)<ln i2 - k;omega⟩
    dsimp only at hj⊢
    by_cases e:j=k
    ·subst e;simpa using d2
    ·exact cr j (by omega)
   ·have d1:=f5 d1;rw [W1 ci hm];refine aQ (H:=RP sh th nd tr x ln f g) (i2+1:Nat) rfl ⟨⟨ci,fun j hj=>?_⟩,by show x - (i2+1)<x - i2;omega⟩
    by_cases e:j=i2
    ·subst e;exact oO.2 (fun q hq=>cr q (by omega))
    ·exact cl j (by omega)
  ·have b1:=f5 b1;have him:i=x:=by omega
   subst him;exact key 0 (aBe hw hlg hil)
def erS:aH Ob:=fun args h=>match args,h with
 | [.int .i64 sh,.int .i64 th,.int .i64 nd,.int .i64 tr,.view m 1 vr],[]=>some (.pre (m≤1000000∧kL vr) (.ret (.I (gnC sh th nd tr m (vL vr) (vK vr) (vY vr))) []))
 | _,_=>none
theorem aDG:sT' 78 erS:=by
 intro args h o ho K hK;unfold erS at ho;split at ho<;>cases ho
 rename_i sh th nd tr m vr;obtain⟨⟨hm,⟨hr⟩⟩,hK⟩:=hK;rw [hr];exact aGz (NN sh th nd tr m (vL vr) (vK vr) (vY vr) K (aDH sh th nd tr m (vL vr) (vK vr) (vY vr) K hm hK))
noncomputable def EUd:=EUc.addS 78 erS aDG
end Go.Sh
