/-
  The abstract machine, part Q: loops round by round, ranges over functions, and runs of closed calls.
  The abstract machine, part Z: drawn regions that only read and call: a run in the order of the text stands for every order, by a look at the region's text alone.
  Conditions: none but those that each statement names.
-/
import Derived.Test.YtpapgaocjhnoiaaGreatDoorPvN
import Derived.LoopNIn
import Derived.RangeFuncCalls
set_option linter.unusedVariables false
set_option linter.unusedSimpArgs false
namespace Go.Proofs.Pv
open Go
variable {P:Program} {G:Nat→Option (List AV)} {R:Type}
def hput (st:St) (k:Nat) (b:aG):St:=⟨hset st.h k b,st.nx⟩
theorem aIe (st:St) (k:Nat) (b:aG):(hput st k b).hp=cO st.hp k (some b):=wI _ _ _
def Cc (st:St) (k:Nat):St:=⟨hdel st.h k,st.nx⟩
theorem aSn (st:St) (k:Nat):(Cc st k).hp=cO st.hp k none:=oU _ _
def yX (P:Program) (G:Nat→Option (List AV)) (H:Hand R) (c:Code) (K:dR R):Nat→Fr→St→R
 |0,_,_=>H.fail
 |m+1,fr,st=>fA P G H c (fun x fr st=>match x with
  | .normal=>yX P G H c K m fr st
  |x=>K x fr st) fr st
theorem Xe {F:Fence} (hF:Free F) {W:World} {ok:R→Prop} {H:Hand R} (hH:uU F P G W ok H) {c:Code} {K:dR R}: ∀(m:Nat) (fr:Fr) (st:St),ok (yX P G H c K m fr st)→
  sD F P G W (.loop c) (fun x fr st=>ok (K x fr st)) fr st:=by
 intro m fr st h M a w n sim
 refine wpIn_loop_rounds m ?_
 have key: ∀(m:Nat) (fr:Fr) (st:St) (M':Mem) (a:Act) (w:World),M.le M'→uT G W M' fr st a w→ok (yX P G H c K m fr st)→Code.roundsIn F n P c (Post G W M fun x fr st=>ok (K x fr st)) m a w:=by
  intro m
  induction m with
  |zero=>intro fr st M' a w _ _ h;exact absurd h hH.fail
  |succ m ih=>
   intro fr st M' a w hle sim h
   simp only[yX] at h
   refine wpIn_mono (qM hF hH c _ _ _ h M' a w n sim) ?_
   rintro e a' w' ⟨M2,fr',st',x,h1,h2,rfl,h4⟩
   cases x with
   |normal=>exact ih fr' st' M2 a' w' (Mem.le_trans hle h1) h2 h4
   |exit id=>exact⟨M2,fr',st',.exit id,Mem.le_trans hle h1,h2,rfl,h4⟩
   |goto l=>exact⟨M2,fr',st',.goto l,Mem.le_trans hle h1,h2,rfl,h4⟩
   |ret=>exact⟨M2,fr',st',.ret,Mem.le_trans hle h1,h2,rfl,h4⟩
 exact key m fr st M a w M.le_refl sim h
def Ad (s:List AV):List Nat→List AV→List AV
 |p::ps,a::as=>Ad (s.set p a) ps as
 |_,_=>s
def Aq (P:Program) (G:Nat→Option (List AV)) (H:Hand R) (key:Nat) (args:List AV) (K:AV→St→R) (st:St):R:=
 match st.hp key with
 | some (.loop .ready _ s ps assign body _)=>
  if args.length=ps.size then
   fA P G H assign (fun x fr1 st1=>match x with
    | .normal=>match st1.hp key with
     | some (.loop .ready pd1 s1 ps1 as1 bo1 kd1)=>
      fA P G H body (fun x _ st2=>match st2.hp key with
       |some (.loop _ _ s2 ps2 as2 bo2 kd2)=>match x with
        | .normal=>K (.bool true) (hput st2 key (.loop .ready none s2 ps2 as2 bo2 kd2))
        | .ret=>K (.bool false) (hput st2 key (.loop .done (some .ret) s2 ps2 as2 bo2 kd2))
        | .exit id=>K (.bool false) (hput st2 key (.loop .done (some (.exit id)) s2 ps2 as2 bo2 kd2))
        | .goto _=>H.fail
       |_=>H.fail) fr1 (hput st1 key (.loop .busy pd1 s1 ps1 as1 bo1 kd1))
     |_=>H.fail
    |_=>H.fail) ⟨Ad s ps.toList args,[]⟩ st
  else H.fail
 |_=>H.fail
theorem aCn {M:Mem}: ∀(ps:List Nat) (args:List AV) (vs:List Value) (s:List AV) (t:Array Value),aY M.rel args vs→nK M s t→nK M (Ad s ps args) ((ps.zip vs).foldl (fun t (p,v)=>t.setIfInBounds p v) t)
 |[],_,_,s,t,_,h=>by simpa [Ad] using h
 |p::ps,[],vs,s,t,hr,h=>by
  have:vs=[]:=List.eq_nil_of_length_eq_zero (by simpa using hr.1.symm)
  subst this;simpa [Ad] using h
 | p::ps,a::as,vs,s,t,hr,h=>by
  match vs,hr with
  |[],hr=>simp [aY] at hr
  |v::vs,hr=>
   simp only[Ad,List.zip_cons_cons,List.foldl_cons]
   refine aCn ps as vs _ _ ⟨by simpa using hr.1,fun i p q h1 h2=>hr.2 (i+1) p q (by simpa using h1) (by simpa using h2)⟩ ?_
   exact h.set p (hr.2 0 a v rfl rfl)
theorem Jz {M:Mem} {al:Nat→Prop} {hp:Hp} {W w:World} (inv:Inv G M al hp W w) {key l:Nat} (hL:M.L key=some l) {stt pd s ps as bo kd} (h:hp key=some (.loop stt pd s ps as bo kd)):
  ∃r:Loop,w.heap[l]?=some (.loop r)∧r.state=stt∧r.pending=pd∧r.params=ps∧r.assign=as∧r.body=bo∧M.L kd=some r.defers∧r.tmps.size=s.length∧ ∀i (h:i<s.length) (h':i<r.tmps.size),M.rel s[i] r.tmps[i]:=by
 obtain⟨b,ob,g1,g2,g3,g4,g5⟩:=inv.live key _ h
 have hb:b=l:=by simpa [Mem.blockOf,aG.isTok,hL] using g1.symm
 subst hb
 cases ob<;>simp only[bY] at g3
 exact⟨_,g2,g3⟩
theorem Inv.turnLoop {M:Mem} {al:Nat→Prop} {hp:Hp} {W w:World} (inv:Inv G M al hp W w) {key l:Nat} (hL:M.L key=some l) {stt pd s ps as bo kd} (h:hp key=some (.loop stt pd s ps as bo kd)) {r:Loop} (hr:w.heap[l]?=some (.loop r)) (stt':LoopState) (pd':Option Code):
  Inv G M al (cO hp key (some (.loop stt' pd' s ps as bo kd))) W (w.putObj l (.loop {r with state:=stt',pending:=pd'})):=by
 obtain⟨r',g1,g2,g3,g4,g5,g6,g7,g8,g9⟩:=Jz inv hL h
 rw[hr] at g1
 simp only[Option.some.injEq,Obj.loop.injEq] at g1;subst g1
 exact inv.turn (old:= .loop stt pd s ps as bo kd) (ob:= .loop {r with state:=stt',pending:=pd'}) h hL rfl rfl rfl rfl rfl
  (fun q hq=>World.putObj_heap_other hq) (World.putObj_heap_same (lt_of_heap hr)) ⟨rfl,rfl,g4,g5,g6,g7,g8,g9⟩
theorem Ig {F:Fence} (hF:Free F) {W:World} {ok:R→Prop} {H:Hand R} (hH: ∀l,uU (F.inRound l) P G W ok H) (hfail: ¬ok H.fail) {key:Nat} {args:List AV} {K:AV→St→R} {st:St}
    (h:ok (Aq P G H key args K st)): ∀M w vs,Inv G M (· <st.nx) st.hp W w→aY M.rel args vs.toList→ ∀l,M.L key=some l→
    ∃ f tmps assign body,(Instr.yield l vs).run P w= .ok (.round l f tmps assign body) w∧
      ∀n,RoundIn F n P l f tmps assign body w fun e w'=> ∃M' v av st',e= .returned v∧M.le M'∧Inv G M' (· <st'.nx) st'.hp W w'∧M'.rel av v∧ok (K av st'):=by
  intro M w vs inv hargs l hL
  unfold Aq at h
  split at h
  · rename_i pd s ps assign body kd hk
    obtain⟨r,g1,g2,g3,g4,g5,g6,g7,g8,g9⟩:=Jz inv hL hk
    split at h
    · rename_i hlen
      have hsz:vs.size=r.params.size:=by
        have:=hargs.1;simp only[Array.length_toList] at this;rw[g4];omega
      refine⟨_,_,_,_,run_yield g1 hsz,fun n=>?_⟩
      have hF':Free (F.inRound l):=⟨hF.fn,hF.depth⟩
      refine roundIn_of_wpIn (hF.fn _) ?_
      rw[g5]
      have sim:uT G W M ⟨Ad s ps.toList args,[]⟩ st {tmps:=(r.params.zip vs).foldl (fun t (p,v)=>t.setIfInBounds p v) r.tmps,defers:=[]} w:=by
        refine⟨inv,?_,⟨rfl,fun i key hi=>by simp at hi⟩⟩
        have:=aCn ps.toList args vs.toList s r.tmps hargs ⟨g8,g9⟩
        rw[g4,←Array.foldl_toList,Array.toList_zip]
        exact this
      refine wpIn_mono (qM hF' (hH l) assign _ _ _ h M _ w n sim) ?_
      rintro e a1 w1 ⟨M1,fr1,st1,x,hM1,sim1,rfl,h1⟩
      cases x with
      | normal=>
        simp only at h1
        split at h1
        · rename_i pd1 s1 ps1 as1 bo1 kd1 hk1
          have hL1:=hM1.L _ _ hL
          obtain⟨r1,q1,q2,q3,q4,q5,q6,q7,q8,q9⟩:=Jz sim1.inv hL1 hk1
          refine⟨_,run_beginRound q1 q2,?_⟩
          rw[g6]
          have inv2:=sim1.inv.turnLoop hL1 hk1 q1 .busy r1.pending
          have sim2:uT G W M1 fr1 (hput st1 key (.loop .busy pd1 s1 ps1 as1 bo1 kd1)) a1 (w1.putObj l (.loop {r1 with state:= .busy})):=by
            refine⟨?_,sim1.rs,sim1.defers⟩
            rw[aIe]
            rw[←q3];exact inv2
          refine wpIn_mono (qM hF' (hH l) body _ _ _ h1 M1 a1 _ n sim2) ?_
          rintro e a2 w2 ⟨M2,fr2,st2,x2,hM2,sim3,rfl,h2⟩
          have hL2:=hM2.L _ _ hL1
          split at h2
          · rename_i stt2 pd2 s2 ps2 as2 bo2 kd2 hk2
            obtain⟨r2,p1,p2,p3,p4,p5,p6,p7,p8,p9⟩:=Jz sim3.inv hL2 hk2
            have fin: ∀(jump:Option Code) (stt':LoopState),stt'=(if jump.isNone then .ready else .done)→ok (K (.bool jump.isNone) (hput st2 key (.loop stt' jump s2 ps2 as2 bo2 kd2)))→
                ∃v w',(Instr.endRound l jump).run P w2= .ok v w'∧(∃M' v' av st',Ending.returned v= .returned v'∧M.le M'∧Inv G M' (· <st'.nx) st'.hp W w'∧M'.rel av v'∧ok (K av st')):=by
              intro jump stt' hst hok
              subst hst
              refine⟨_,_,run_endRound jump p1,M2,_,_,_,rfl,Mem.le_trans hM1 hM2,?_,.bool,hok⟩
              rw[aIe]
              exact sim3.inv.turnLoop hL2 hk2 p1 _ jump
            cases x2 with
            |normal=>exact fin none _ rfl h2
            |ret=>exact fin (some .ret) _ rfl h2
            |exit id=>exact fin (some (.exit id)) _ rfl h2
            |goto t=>exact absurd h2 hfail
          · exact absurd h2 hfail
        · exact absurd h1 hfail
      |exit id=>exact absurd h1 hfail
      |goto t=>exact absurd h1 hfail
      |ret=>exact absurd h1 hfail
    · exact absurd h hfail
  · exact absurd h hfail
def En (P:Program) (g:FuncId):Bool:=match P.funcs[g]? with
 |some fn=>fn.body.isSome
 |none=>false
theorem qI.of_body {F:Fence} {W:World} {g:FuncId} {args:List AV} {K:AV→St→Prop} {st:St} (h:qI F P G W g args K st) (hb:En P g=true):aO F P G W g args K st:=by
 rcases h with hc|⟨⟨fn',hf1,hf2⟩,_⟩
 ·exact hc
 ·simp [En,hf1,hf2] at hb
def Eo (P:Program) (G:Nat→Option (List AV)) (H:Hand R) (f:Operand) (ps:Array Tmp) (assign body:Code) (K:dR R) (fr:Fr) (st:St):R:=
  match ev P G fr.s 0 f with
  | .fn g first cap=>if En P g=true then
    H.call g (first++[.yld (st.nx+1)]++cap) (fun _ st'=>match st'.hp (st.nx+1) with
       |some (.loop stt pd s1 ps1 as1 bo1 kd1)=>
          if stt= .busy then H.fail else
          match pd with
          |none=>K .normal ⟨fr.s,st.nx::fr.marks⟩ (Cc st' (st.nx+1))
          |some .ret=>K .ret ⟨fr.s,st.nx::fr.marks⟩ (Cc st' (st.nx+1))
          |some (.exit id)=>K (.exit id) ⟨fr.s,st.nx::fr.marks⟩ (Cc st' (st.nx+1))
          |_=>H.fail
       |_=>H.fail)
      ⟨(st.nx+1,.loop .ready none fr.s ps assign body st.nx)::(st.nx,.dfd true)::st.h,st.nx+2⟩
      else H.fail
  |_=>H.fail
theorem Ny {F:Fence} (hF:Free F) (hro:F.round=none) {W:World} {ok:R→Prop} {H:Hand R} (hH:uU F P G W ok H) {f:Operand} {ps:Array Tmp} {assign body:Code} {K:dR R} {fr:Fr} {st:St}
  (h:ok (Eo P G H f ps assign body K fr st)):sD F P G W (.rangeFunc f ps assign body) (fun x fr st=>ok (K x fr st)) fr st:=by
 intro M a w n sim
 unfold Eo at h
 split at h
 ·rename_i g first cap hg
  split at h
  case isFalse=>exact absurd h hH.fail
  rename_i hbody
  refine wpIn_rangeFunc fun fn hfn=>?_
  have hv:=eP (P:=P) sim.inv sim.rs 0 f
  rw[hg] at hv
  generalize hva:a.eval f=v at hv
  cases hv with
  | @fn _ _ _ _ _ fs cs hfs hcs g1 g2=>
   obtain⟨hle1,inv1⟩:=sim.inv.alloc (nx:=st.nx) (Nat.lt_irrefl _) (.dfd true) (.deferred (some [])) rfl (by simp [bY])
   have hrs1:=sim.rs.mono hle1
   have hnx1: ¬kP (· <st.nx) st.nx (st.nx+1):=by rintro(h|h)<;>omega
   have hLd:(M.addL st.nx w.heap.size).L st.nx=some w.heap.size:=by simp [Mem.addL]
   obtain⟨hle2,inv2⟩:=inv1.alloc (nx:=st.nx+1) hnx1 (.loop .ready none fr.s ps assign body st.nx)
    (.loop {state:= .ready,pending:=none,fn:=fn,tmps:=a.tmps,params:=ps,assign,body,defers:=w.heap.size}) rfl (by
     have hle:=Mem.le_addL (M:=M.addL st.nx w.heap.size) (k:=st.nx+1) (b:=(w.alloc (.deferred (some []))).heap.size) (z:=0) (inv1.fresh _ hnx1)
     have hrs2:=hrs1.mono hle
     exact⟨rfl,rfl,rfl,rfl,rfl,hle.L _ _ hLd,hrs2.1,hrs2.2⟩)
   have hle:=Mem.le_trans hle1 hle2
   have hLl:((M.addL st.nx w.heap.size).addL (st.nx+1) (w.alloc (.deferred (some []))).heap.size).L (st.nx+1)=some (w.heap.size+1):=by simp [Mem.addL,World.size_alloc]
   have inv3:Inv G ((M.addL st.nx w.heap.size).addL (st.nx+1) (w.alloc (.deferred (some []))).heap.size) (· <st.nx+2) (hget ((st.nx+1,.loop .ready none fr.s ps assign body st.nx)::(st.nx,.dfd true)::st.h)) W
     ((w.alloc (.deferred (some []))).alloc (.loop {state:= .ready,pending:=none,fn:=fn,tmps:=a.tmps,params:=ps,assign,body,defers:=w.heap.size})):=by
    refine(inv2.more (fun k hk=>?_)).less (fun k b hk=>?_)
    ·rcases hk with(hk|hk)|hk
     ·show k<st.nx+2
      have:k<st.nx:=hk
      omega
     ·show k<st.nx+2
      omega
     ·show k<st.nx+2
      omega
    ·simp only[hget] at hk
     simp only[cO]
     split at hk
     ·rename_i e;simp [e];simpa using hk
     ·rename_i e
      rw[if_neg e]
      split at hk
      ·rename_i e2;rw[if_pos e2];exact hk
      ·rename_i e2;rw[if_neg e2];exact hk
   have hargs:aY ((M.addL st.nx w.heap.size).addL (st.nx+1) (w.alloc (.deferred (some []))).heap.size).rel (first++[.yld (st.nx+1)]++cap) (fs++ #[Value.func (.yield (w.heap.size+1)) #[] #[]]++cs).toList:=by
    simp only[Array.toList_append]
    refine((aY.of_get (by simpa using hfs) (fun i e1 e2=>?_)).append (⟨rfl,fun i a v h1 h2=>?_⟩)).append (aY.of_get (by simpa using hcs) (fun i e1 e2=>?_))
    ·have:=g1 i e1 (by simpa using e2)
     rw[←Array.getElem_toList] at this
     exact Mem.rel_mono hle this
    ·cases i with
     |zero=>simp at h1 h2;subst h1;subst h2;exact .yld hLl
     |succ i=>simp at h1
    ·have:=g2 i e1 (by simpa using e2)
     rw[←Array.getElem_toList] at this
     exact Mem.rel_mono hle this
   have hce':=(hH.call _ _ _ _ h).of_body hbody
   obtain⟨⟨fnn,q1,q2,q3⟩,hcall⟩:=hce' _ _ _ inv3 hargs
   let w2:=((w.alloc (.deferred (some []))).alloc (.loop {state:= .ready,pending:=none,fn:=fn,tmps:=a.tmps,params:=ps,assign,body,defers:=w.heap.size}))
   refine⟨w.heap.size+1,[{target:= .collected w.heap.size,args:= #[]}],w2,{target:=Target.fn (Fn.func g) cs,args:=fs++ #[Value.func (.yield (w.heap.size+1)) #[] #[]]},w2,g,fs++ #[Value.func (.yield (w.heap.size+1)) #[] #[]]++cs,w2,by rw[hro];exact run_enterLoop_outer fn a.tmps ps assign body,?_,fun f' _=>hF.fn f',?_,fun hd=>by rw[hF.depth] at hd;simp at hd,?_⟩
   ·simp only[rangeCall,resolve,hva,Deferred.ofValue]
    simp [Act.eval]
   ·simp [invoke,callFunc,q1,q3]
    intro hb;rw[hb] at q2;cases q2
   ·refine(hcall (n - 1)).mono ?_
    rintro e w3 ⟨M3,v3,av,st3,rfl,hle3,inv4,hv3,hk⟩
    split at hk
    ·rename_i stt pd s1 ps1 as1 bo1 kd1 hkl
     have hL3:=hle3.L _ _ hLl
     obtain⟨r,p1,p2,p3,p4,p5,p6,p7,p8,p9⟩:=Jz inv4 hL3 hkl
     split at hk
     ·exact absurd hk hH.fail
     ·rename_i hst
      refine⟨_,_,run_endLoop p1 (by rw[p2];exact hst),?_⟩
      have inv5:=inv4.turnLoop hL3 hkl p1 .exhausted r.pending
      have sim5:uT G W M3 ⟨fr.s,st.nx::fr.marks⟩ (Cc st3 (st.nx+1)) {a with defers:=[{target:= .collected w.heap.size,args:= #[]}]++a.defers} (w3.putObj (w.heap.size+1) (.loop {r with state:= .exhausted})):=by
       refine⟨?_,sim.rs.mono (Mem.le_trans hle hle3),?_⟩
       ·rw[aSn]
        refine inv5.less fun k b hk=>?_
        simp only[cO] at hk ⊢
        split at hk
        ·cases hk
        ·rename_i e;rw[if_neg e];exact hk
       ·obtain⟨d1,d2⟩:=sim.defers
        refine⟨by simp [d1],fun i key hi=>?_⟩
        cases i with
        |zero=>
         simp at hi;subst hi
         exact⟨w.heap.size,hle3.L _ _ (hle2.L _ _ hLd),by simp⟩
        |succ i=>
         obtain⟨l,e1,e2⟩:=d2 i key (by simpa using hi)
         exact⟨l,hle3.L _ _ (hle.L _ _ e1),by simpa using e2⟩
      rw[p3] at sim5 ⊢
      split at hk
      ·exact⟨M3,_,_,.normal,Mem.le_trans hle hle3,sim5,rfl,hk⟩
      ·exact wpIn_ret ⟨M3,_,_,.ret,Mem.le_trans hle hle3,sim5,rfl,hk⟩
      ·rename_i id
       exact wpIn_exit ⟨M3,_,_,.exit id,Mem.le_trans hle hle3,sim5,rfl,hk⟩
      ·exact absurd hk hH.fail
    ·exact absurd hk hH.fail
 ·exact absurd h hH.fail
mutual
def AV.beq:AV→AV→Bool
 | .ud,y=>match y with
  | .ud=>true
  |_=>false
 | .int k a,y=>match y with
  | .int k' b=>decide (k=k') && decide (a=b)
  |_=>false
 | .bool a,y=>match y with
  | .bool b=>a==b
  |_=>false
 | .str a,y=>match y with
  | .str b=>decide (a=b)
  |_=>false
 | .sl k r t,y=>match y with
  | .sl k' r' t'=>decide (k=k') && AV.beqL r r' && decide (t=t')
  |_=>false
 | .msl a b c d,y=>match y with
  | .msl a' b' c' d'=>decide (a=a') && decide (b=b') && decide (c=c') && decide (d=d')
  |_=>false
 | .mcap a b c d e,y=>match y with
  | .mcap a' b' c' d' e'=>decide (a=a') && decide (b=b') && decide (c=c') && decide (d=d') && decide (e=e')
  |_=>false
 | .vp cs,y=>match y with
  | .vp cs'=>AV.beqL cs cs'
  |_=>false
 | .ptr a b,y=>match y with
  | .ptr a' b'=>decide (a=a') && decide (b=b')
  |_=>false
 | .nilp,y=>match y with
  | .nilp=>true
  |_=>false
 | .fn f a b,y=>match y with
  | .fn f' a' b'=>decide (f=f') && AV.beqL a a' && AV.beqL b b'
  |_=>false
 | .yld a,y=>match y with
  | .yld a'=>decide (a=a')
  |_=>false
 | .nilf,y=>match y with
  | .nilf=>true
  |_=>false
 | .map a,y=>match y with
  | .map a'=>decide (a=a')
  |_=>false
 | .nilm,y=>match y with
  | .nilm=>true
  |_=>false
 | .agg cs,y=>match y with
  | .agg cs'=>AV.beqL cs cs'
  |_=>false
 | .tup cs,y=>match y with
  | .tup cs'=>AV.beqL cs cs'
  |_=>false
 | .nili,y=>match y with
  | .nili=>true
  |_=>false
 | .ifc t v,y=>match y with
  | .ifc t' v'=>decide (t=t') && AV.beq v v'
  |_=>false
def AV.beqL:List AV→List AV→Bool
 |[],y=>match y with
  |[]=>true
  |_=>false
 |a::as,y=>match y with
  |b::bs=>AV.beq a b && AV.beqL as bs
  |_=>false
end
mutual
theorem AV.beq_eq: ∀(x y:AV),AV.beq x y=true→x=y
 | .ud,y,h=>by cases y<;>simp [AV.beq] at h;rfl
 | .int k a,y,h=>by cases y<;>simp [AV.beq] at h;obtain⟨rfl,rfl⟩:=h;rfl
 | .bool a,y,h=>by cases y<;>simp [AV.beq] at h;subst h;rfl
 | .str a,y,h=>by cases y<;>simp [AV.beq] at h;subst h;rfl
 | .sl k r t,y,h=>by
  cases y<;>simp [AV.beq] at h
  obtain⟨⟨rfl,h⟩,rfl⟩:=h
  rw[AV.beqL_eq r _ h]
 | .msl a b c d,y,h=>by cases y<;>simp [AV.beq] at h;obtain⟨⟨⟨rfl,rfl⟩,rfl⟩,rfl⟩:=h;rfl
 | .mcap a b c d e,y,h=>by cases y<;>simp [AV.beq] at h;obtain⟨⟨⟨⟨rfl,rfl⟩,rfl⟩,rfl⟩,rfl⟩:=h;rfl
 | .vp cs,y,h=>by cases y<;>simp [AV.beq] at h;rw[AV.beqL_eq cs _ h]
 | .ptr a b,y,h=>by cases y<;>simp [AV.beq] at h;obtain⟨rfl,rfl⟩:=h;rfl
 | .nilp,y,h=>by cases y<;>simp [AV.beq] at h;rfl
 | .fn f a b,y,h=>by
  cases y<;>simp [AV.beq] at h
  obtain⟨⟨rfl,h1⟩,h2⟩:=h
  rw[AV.beqL_eq a _ h1,AV.beqL_eq b _ h2]
 | .yld a,y,h=>by cases y<;>simp [AV.beq] at h;subst h;rfl
 | .nilf,y,h=>by cases y<;>simp [AV.beq] at h;rfl
 | .map a,y,h=>by cases y<;>simp [AV.beq] at h;subst h;rfl
 | .nilm,y,h=>by cases y<;>simp [AV.beq] at h;rfl
 | .agg cs,y,h=>by cases y<;>simp [AV.beq] at h;rw[AV.beqL_eq cs _ h]
 | .tup cs,y,h=>by cases y<;>simp [AV.beq] at h;rw[AV.beqL_eq cs _ h]
 | .nili,y,h=>by cases y<;>simp [AV.beq] at h;rfl
 | .ifc t v,y,h=>by
  cases y<;>simp [AV.beq] at h
  obtain⟨rfl,h⟩:=h
  rw[AV.beq_eq v _ h]
theorem AV.beqL_eq: ∀(x y:List AV),AV.beqL x y=true→x=y
 |[],y,h=>by cases y<;>simp [AV.beqL] at h;rfl
 |a::as,y,h=>by
  cases y<;>simp [AV.beqL] at h
  rw[AV.beq_eq a _ h.1,AV.beqL_eq as _ h.2]
end
def Uy:List ME→List ME→Bool
 |[],[]=>true
 |a::as,b::bs=>a.key.beq b.key && a.val.beq b.val && decide (a.born=b.born) && Uy as bs
 |_,_=>false
theorem aE6: ∀(x y:List ME),Uy x y=true→x=y
 |[],[],_=>rfl
 |a::as,b::bs,h=>by
  simp only[Uy,Bool.and_eq_true,decide_eq_true_eq] at h
  rw[aE6 as bs h.2]
  obtain⟨k,v,n⟩:=a
  obtain⟨k',v',n'⟩:=b
  rw[AV.beq_eq k k' h.1.1.1,AV.beq_eq v v' h.1.1.2,show n=n' from h.1.2]
 |[],_::_,h=>by simp [Uy] at h
 |_::_,[],h=>by simp [Uy] at h
def aG.beq:aG→aG→Bool
 | .cells a,.cells b=>AV.beqL a b
 | .tok,.tok=>true
 | .map a c,.map b d=>Uy a b && decide (c=d)
 | .sit a c,.sit b d=>decide (a=b) && decide (c=d)
 | .mit a b c d,.mit a' b' c' d'=>decide (a=a') && decide (b=b') && decide (c=c') && decide (d=d')
 | .nmit,.nmit=>true
 | .dfd a,.dfd b=>a==b
 |_,_=>false
theorem aG.beq_eq (x y:aG) (h:aG.beq x y=true):x=y:=by
 cases x<;>cases y<;>simp [aG.beq] at h
 ·rw[AV.beqL_eq _ _ h]
 ·rfl
 ·obtain⟨h1,rfl⟩:=h;rw[aE6 _ _ h1]
 ·obtain⟨rfl,rfl⟩:=h;rfl
 ·obtain⟨⟨⟨rfl,rfl⟩,rfl⟩,rfl⟩:=h;rfl
 ·rfl
 ·subst h;rfl
def aBb:List (Nat×aG)→List (Nat×aG)→Bool
 |[],[]=>true
 |a::as,b::bs=>decide (a.1=b.1) && a.2.beq b.2 && aBb as bs
 |_,_=>false
theorem aIf: ∀(x y:List (Nat×aG)),aBb x y=true→x=y
 |[],[],_=>rfl
 |(k,a)::as,(k',b)::bs,h=>by
  simp only[aBb,Bool.and_eq_true,decide_eq_true_eq] at h
  rw[aIf as bs h.2,show k=k' from h.1.1,aG.beq_eq a b h.1.2]
 |[],_::_,h=>by simp [aBb] at h
 |_::_,[],h=>by simp [aBb] at h
abbrev RC:=Option (AV×St)
def aE7:RC→RC→Bool
 |some (v,st),some (v',st')=>v.beq v' && aBb st.h st'.h && decide (st.nx=st'.nx)
 |_,_=>false
theorem aSo (x y:RC) (h:aE7 x y=true):x=y:=by
 match x,y,h with
 |some (v,⟨h1,n⟩),some (v',⟨h2,n'⟩),h=>
  simp only[aE7,Bool.and_eq_true,decide_eq_true_eq] at h
  rw[AV.beq_eq v v' h.1.1,aIf h1 h2 h.1.2,show n=n' from h.2]
 |none,_,h=>simp [aE7] at h
 |some _,none,h=>simp [aE7] at h
def aD0:List RC→RC
 |[]=>none
 |x::r=>if r.all (aE7 x) then x else none
theorem aPx {l:List RC} {r:AV×St} (h:aD0 l=some r): ∀x∈l,x=some r:=by
 cases l with
 |nil=>simp [aD0] at h
 | cons x l=>
  simp only[aD0] at h
  split at h
  ·rename_i ha
   intro y hy
   rcases List.mem_cons.1 hy with rfl|hy
   ·exact h
   ·rw[←aSo x y (List.all_eq_true.1 ha y hy)];exact h
  ·cases h
def AV.whole (x:AV):Bool:=match x with
 | .agg cs=>cs.all fun c=>c.strip0.pure
 |x=>x.strip0.pure
abbrev Tab:=List (FuncId×List AV×AV)
def look:Tab→FuncId→List AV→Option AV
 |[],_,_=>none
 |(f',args',r)::t,f,args=>match Nat.beq f f' with
  |true=>if AV.beqL args args' then some r else look t f args
  |false=>look t f args
theorem Nz {f:FuncId} {args:List AV} {r:AV}: ∀(t:Tab),look t f args=some r→(f,args,r)∈t
 |[],h=>by simp [look] at h
 | (f',args',r')::t,h=>by
  simp only[look] at h
  split at h
  ·rename_i e
   replace e:=Nat.eq_of_beq_eq_true e
   split at h
   ·rename_i hb
    simp only[Option.some.injEq] at h
    rw[e,AV.beqL_eq _ _ hb,h];simp
   ·exact List.mem_cons_of_mem _ (Nz t h)
  ·exact List.mem_cons_of_mem _ (Nz t h)
def AV.retag:AV→AV
 | .sl k r .full=> .sl k r .mut
 |x=>x
theorem aP.retag {I:jH} {L:Lo} {T:To} {a:AV} {v:Value} (h:aP I L T a v):aP I L T a.retag v:=by
 unfold AV.retag
 split
 ·cases h with
  |sl vs hc hA hI' hk hP hR ht=>exact .sl vs hc hA hI' hk hP hR ht
 ·exact h
structure Fz where
 fz:FuncId→Bool:=fun _=>false
 mt:FuncId→Bool:=fun _=>false
 wd:FuncId→Bool:=fun _=>false
 cps:FuncId→Bool:=fun _=>false
 fa:FuncId→Bool:=fun _=>false
def frzA (b:Bool) (args:List AV) (st:St):List AV×St:=if b then pJ (qU 9) args st else(args,st)
theorem aO.frzA {F:Fence} {W:World} {f:FuncId} {args:List AV} {K:AV→St→Prop} {st:St} {b:Bool} (h:aO F P G W f (frzA b args st).1 K (frzA b args st).2):aO F P G W f args K st:=by
 intro M w vs inv hargs
 unfold Pv.frzA at h
 split at h
 ·obtain⟨M1,a1,a2,a3⟩:=aAz (aA0 9) args vs.toList inv hargs
  obtain⟨g1,g2⟩:=h M1 w vs a2 a3
  refine⟨g1,fun n=>(g2 n).mono ?_⟩
  rintro e w' ⟨M',v,av,st',rfl,hle,inv',hv,hK⟩
  exact⟨M',v,av,st',rfl,Mem.le_trans a1 hle,inv',hv,hK⟩
 ·exact h M w vs inv hargs
def Fz.args (cf:Fz) (f:FuncId) (args:List AV):List AV:=if cf.mt f then args.map AV.retag else args
theorem Fz.args_rel {cf:Fz} {f:FuncId} {M:Mem} {args:List AV} {vs:List Value} (h:aY M.rel args vs):aY M.rel (cf.args f args) vs:=by
 unfold Fz.args
 split
 ·refine⟨by simpa using h.1,fun i a v h1 h2=>?_⟩
  rw[List.getElem?_map] at h1
  cases ha:args[i]? with
  |none=>rw[ha] at h1;cases h1
  |some a0=>
   rw[ha] at h1
   simp only[Option.map_some,Option.some.injEq] at h1
   subst h1
   exact(h.2 i a0 v ha h2).retag
 ·exact h
def CH (P : Program) (G:Nat→Option (List AV)) (cf:Fz) (tab:Tab):Bool→Nat→Hand RC
  |_,0=>⟨none,fun _ _ _ _=>none,fun _ _ _ _=>none,fun _ _ _ _=>none,fun _ _ _ _ _ _ _=>none,fun _ _ _ _=>none,fun _=>none⟩
  | rng,n+1=>
    { fail := none
      call:=fun f args K st=>match look tab f (args.map AV.plain) with
        |some r=>K r st
        | none=>match frzA (cf.fa f) args st with
          | (args,st)=>if cf.cps f then pX P G (CH P G cf tab true n) (Je (cf.fz f)) f (cf.args f args) K st else
            match pX P G (CH P G cf tab true n) (Je (cf.fz f)) f (cf.args f args) (fun v st=>some (v,st)) st with
            |some (v,st)=>K v st
            |none=>none
      loop:=fun c K fr st=>yX P G (CH P G cf tab rng n) c K n fr st
      yield:=fun key args K st=>Aq P G (CH P G cf tab false n) key args K st
      rangeF:=fun f ps assign body K fr st=>if rng then Eo P G (CH P G cf tab true n) f ps assign body K fr st else none
      draw := fun ops K fr st=>aKc P G none (fun f args g K1 K2=>match look tab f (args.map AV.plain) with
        |some r=>K1 r
        | none=>if !cf.wd f && args.all fun a=>a.whole then
            (match pX P G (CH P G cf tab true n) (Je (cf.fz f)) f (cf.args f (args.map AV.plain)) (fun v st=>some (v,st)) st0 with
              |some (v,_)=>if v.stripR.pureR then K1 v.stripR else none
              |none=>none)
          else g fun R st=>(match pX P G (CH P G cf tab true n) (Je (cf.fz f)) f (cf.args f args) (fun v st=>some (v,st)) st with
              |some (v,st')=>K2 R v st'
              |none=>none)) (fun key args K2 R st=>match Aq P G (CH P G cf tab false n) key args (fun v st=>some (v,st)) st with
            |some (v,st')=>K2 R v st'
            |none=>none) ops K fr st
      both:=aD0}
theorem Ih (hname: ∀(f:Nat) (fn:Func),P.funcs[f]?=some fn→fn.name≠ "runtime.NumGoroutine") {F:Fence} (hF:Free F) (hro:F.round=none) {W:World} {H:Hand RC} (hH: ∀r,uU F P G W (fun x=>x=some r) H) {cf:Fz} {f:FuncId} {args:List AV} {st:St} {v:AV} {st':St}
  (h:pX P G H (Je (cf.fz f)) f (cf.args f args) (fun v st=>some (v,st)) st=some (v,st')):aO F P G W f args (fun u su=>u=v∧su=st') st:=by
 have:=qV (ok:=fun x=>x=some (v,st')) hF hro hname (hH (v,st')) (aHw (cf.fz f)) h
 intro M w vs inv hargs
 obtain⟨h1,h2⟩:=this M w vs inv (Fz.args_rel hargs)
 refine⟨h1,fun n=>(h2 n).mono ?_⟩
 rintro e w' ⟨M',v',av,st2,k1,k2,k3,k4,k5⟩
 simp only[Option.some.injEq,Prod.mk.injEq] at k5
 exact⟨M',v',av,st2,k1,k2,k3,k4,k5⟩
theorem CH_ok {cf:Fz} {tab:Tab} (htab: ∀e∈tab,PC P G e.1 e.2.1 (fun v=>v=e.2.2)) (hmix:P.follows .mixedOrders=true) (hname: ∀(f:Nat) (fn:Func),P.funcs[f]?=some fn→fn.name≠ "runtime.NumGoroutine"): ∀(n:Nat) (rng:Bool) (F:Fence),Free F→(rng=true→F.round=none)→ ∀(W:World) (r:AV×St),uU F P G W (fun x=>x=some r) (CH P G cf tab rng n):=by
  intro n
  induction n with
  | zero=>
    intro rng F hF hrng W r
    cases rng<;>exact⟨by simp [CH],fun _ _ _ _ h=>by simp [CH] at h,fun _ _ _ _ h=>by simp [CH] at h,fun _ _ _ _ h=>by simp [CH] at h,fun _ _ _ _ _ _ _ h=>by simp [CH] at h,fun _ _ _ _ _ h=>by simp [CH] at h,fun _ h=>by simp [CH] at h⟩
  | succ n ih =>
    intro rng F hF hrng W r
    have hFp:Free F.plain:=⟨hF.fn,hF.depth⟩
    refine⟨by simp [CH],fun f args K st h=>?_,fun c K fr st h=>?_,fun key args K st h=>?_,fun f ps assign body K fr st h=>?_,fun id ops K fr st h=>?_,fun l h=>aPx h⟩
    · have h':(match look tab f (args.map AV.plain) with
        |some r=>K r st
        | none=>match frzA (cf.fa f) args st with
          | (args,st)=>if cf.cps f then pX P G (CH P G cf tab true n) (Je (cf.fz f)) f (cf.args f args) K st else
            match pX P G (CH P G cf tab true n) (Je (cf.fz f)) f (cf.args f args) (fun v st=>some (v,st)) st with
            |some (v,st)=>K v st
            |none=>none)=some r:=h
      split at h'
      · rename_i r' hl
        exact .inl (PC.callOk hF (htab _ (Nz tab hl)) (fun v (hv:v=r')=>by rw[hv];exact h'))
      refine .inl (aO.frzA (b:=cf.fa f) ?_)
      generalize frzA (cf.fa f) args st=z at h' ⊢
      obtain⟨args,st⟩:=z
      simp only at h' ⊢
      split at h'
      · have:=qV (ok:=fun x=>x=some r) hFp rfl hname (ih true F.plain hFp (fun _=>rfl) W r) (aHw (cf.fz f)) h'
        intro M w vs inv hargs
        obtain⟨h1,h2⟩:=this M w vs inv (Fz.args_rel hargs)
        exact⟨h1,fun n=>h2 n⟩
      split at h'
      · rename_i v st' hv
        have:aO F.plain P G W f args (fun u su=>u=v∧su=st') st:=Ih hname hFp rfl (ih true F.plain hFp (fun _=>rfl) W) hv
        intro M w vs inv hargs
        obtain⟨h1,h2⟩:=this M w vs inv hargs
        refine⟨h1,fun n=>(h2 n).mono ?_⟩
        rintro e w' ⟨M',v',av,st2,k1,k2,k3,k4,rfl,rfl⟩
        exact⟨M',v',_,_,k1,k2,k3,k4,h'⟩
      · cases h'
    · exact Xe hF (ih rng F hF hrng W r) n fr st h
    · exact Ig hF (fun l=>ih false (F.inRound l) ⟨hF.fn,hF.depth⟩ (fun h=>by cases h) W r) (ih false F hF (fun h=>by cases h) W r).fail h
    · cases rng with
      | false=>
        have h':(none:RC)=some r:=h
        cases h'
      |true=>exact Ny hF (hrng rfl) (ih true F hF hrng W r) (by simpa [CH] using h)
    · refine aP2 (gc:=fun y f args st v st'=>if y then aIh F P G W f args (fun u su=>u=v∧su=st') st else aO F P G W f args (fun u su=>u=v∧su=st') st) (ok:=fun x=>x=some r) hF hmix (fun y f args st v st' h=>h) (by simp) (fun f args g K1 K2 hk=>?_) (fun f args K2 R st hk=>?_) h
      split at hk
      · rename_i r' hl
        exact .inl ⟨r',htab _ (Nz tab hl),hk⟩
      · split at hk
        · split at hk
          · rename_i v st' hv
            split at hk
            · rename_i hpure
              refine .inl ⟨v.stripR,PC.of_callOk fun F hF hro W=>?_,hk⟩
              have:=Ih hname hF hro (ih true F hF (fun _=>hro) W) hv
              intro M w vs inv hargs
              obtain⟨h1,h2⟩:=this M w vs inv hargs
              refine⟨h1,fun n=>(h2 n).mono ?_⟩
              rintro e w' ⟨M',v',av,st',k1,k2,k3,k4,rfl,rfl⟩
              exact⟨M',v',_,_,k1,k2,k3,k4,hpure,rfl⟩
            · cases hk
          · cases hk
        · refine .inr ⟨_,hk,fun R st hk=>?_⟩
          split at hk
          · rename_i v st' hv
            refine⟨v,st',?_,hk⟩
            have:aO F.plain P G W f args (fun u su=>u=v∧su=st') st:=Ih hname hFp rfl (ih true F.plain hFp (fun _=>rfl) W) hv
            intro M w vs inv hargs
            obtain⟨h1,h2⟩:=this M w vs inv hargs
            exact⟨h1,fun n=>h2 n⟩
          · cases hk
      · split at hk
        · rename_i v st' hv
          refine⟨v,st',?_,hk⟩
          simp only[if_true]
          intro M w vs inv hargs l hL
          obtain⟨f',tmps,assign,body,g1,g2⟩:=Ig (ok:=fun x=>x=some (v,st')) hF (fun l=>ih false (F.inRound l) ⟨hF.fn,hF.depth⟩ (fun h=>by cases h) W (v,st')) (ih false F hF (fun h=>by cases h) W (v,st')).fail hv M w vs inv hargs l hL
          refine⟨f',tmps,assign,body,g1,fun n=>(g2 n).mono ?_⟩
          rintro e w' ⟨M',v',av,st2,k1,k2,k3,k4,k5⟩
          simp only[Option.some.injEq,Prod.mk.injEq] at k5
          exact⟨M',v',av,st2,k1,k2,k3,k4,k5⟩
        · cases hk
def runC (P:Program) (G:Nat→Option (List AV)) (cf:Fz) (tab:Tab) (n:Nat) (f:FuncId) (args:List AV):Option AV:=
 match pX P G (CH P G cf tab true n) (Je (cf.fz f)) f (cf.args f args) (fun v st=>some (v,st)) st0 with
 |some (v,_)=>if v.stripR.pureR then some v.stripR else none
 |none=>none
theorem PC.of_run {cf:Fz} {tab:Tab} (htab: ∀e∈tab,PC P G e.1 e.2.1 (fun v=>v=e.2.2)) (hmix:P.follows .mixedOrders=true) (hname: ∀(f:Nat) (fn:Func),P.funcs[f]?=some fn→fn.name≠ "runtime.NumGoroutine") {n:Nat} {f:FuncId} {args:List AV} {r:AV} (h:runC P G cf tab n f args=some r):PC P G f args (fun v=>v=r):=by
 refine PC.of_callOk fun F hF hro W=>?_
 unfold runC at h
 split at h
 ·rename_i v st' hv
  split at h
  ·rename_i hpure
   simp only[Option.some.injEq] at h
   have:=Ih hname hF hro (CH_ok htab hmix hname n true F hF (fun _=>hro) W) hv
   intro M w vs inv hargs
   obtain⟨h1,h2⟩:=this M w vs inv hargs
   refine⟨h1,fun n=>(h2 n).mono ?_⟩
   rintro e w' ⟨M',v',av,st',k1,k2,k3,k4,rfl,rfl⟩
   exact⟨M',v',_,_,k1,k2,k3,k4,hpure,h⟩
  ·cases h
 ·cases h
def runB (P:Program) (G:Nat→Option (List AV)) (cf:Fz) (tab:Tab) (n:Nat) (f:FuncId) (args:List AV) (r:AV):Bool:=
 match runC P G cf tab n f args with
 |some v=>v.beq r
 |none=>false
theorem PC.of_runB {cf:Fz} {tab:Tab} (htab: ∀e∈tab,PC P G e.1 e.2.1 (fun v=>v=e.2.2)) (hmix:P.follows .mixedOrders=true) (hname: ∀(f:Nat) (fn:Func),P.funcs[f]?=some fn→fn.name≠ "runtime.NumGoroutine") {n:Nat} {f:FuncId} {args:List AV} {r:AV} (h:runB P G cf tab n f args r=true):PC P G f args (fun v=>v=r):=by
 unfold runB at h
 split at h
 ·rename_i v hv
  rw[←AV.beq_eq v r h]
  exact PC.of_run htab hmix hname hv
 ·cases h
def aIg (P:Program):Bool:=P.funcs.toList.all fun fn=>!(fn.name== "runtime.NumGoroutine")
theorem aKa (h:aIg P=true) (f:Nat) (fn:Func) (hf:P.funcs[f]?=some fn):fn.name≠ "runtime.NumGoroutine" :=by
 simp only[aIg,List.all_eq_true] at h
 have:=h fn (by
  obtain⟨h1,h2⟩:=Array.getElem?_eq_some_iff.1 hf
  rw[←h2];simp)
 simpa using this
end Go.Proofs.Pv
namespace Go.Proofs.Pv
open Go
variable {P:Program} {G:Nat→Option (List AV)}
def uN (o:Oper):Bool:=match o.op with
 | .call c=>(match c.callee with
  | .builtin _=>false
  |_=>true)
 |_=>false
def Rh (o:Oper):Bool:=match o.op with
 | .call c=>(match c.callee with
  | .builtin .len| .builtin .max| .builtin .min=>true
  | .value _=>true
  |_=>false)
 | .move _| .assign _| .pick _ _ _| .build _ _| .load _ _| .nilCheck _| .binOp .. | .unOp .. | .convert _ _ _| .makeFunc .. | .slice .. | .fieldAddr .. | .field .. | .indexAddr .. | .index .. | .extract _ _=>true
 |_=>false
def aA5 (ops:Array Oper) (anc:List (List Nat)):Bool:=
 (List.range ops.size).all fun j=>(List.range j).all fun i=>match ops[i]?,ops[j]? with
  |some a,some b=>!(uN a && uN b)||(anc.getD j []).contains i
  |_,_=>true
def Bv (P:Program) (G:Nat→Option (List AV)) (ops:Array Oper) (K:List AV→Prop) (g:Hp):List Oper→List AV→Prop
 |[],s=>K s
 | o::rest,s=>match lH ops s o with
  |none=>False
  |some false=>Bv P G ops K g rest (fM s o.dst uu)
  |some true=>match jA P G s g 0 o with
   |some (.val v [])=>Bv P G ops K g rest (fM s o.dst v)
   |some (.call f args)=>uN o=true∧ ∃r,Pl P G f args r∧Bv P G ops K g rest (fM s o.dst r)
   |_=>False
theorem aIa {s:List AV} {g:Hp} {nx nx':Nat} {o:Oper} (h:Rh o=true):jA P G s g nx o=jA P G s g nx' o:=by
 obtain⟨dst,op,ty,pos,after,guard⟩:=o
 cases op<;>first
  |rfl
  |(simp [Rh] at h;done)
  |skip
 rename_i c
 obtain⟨callee,args,ats⟩:=c
 cases callee with
 |value f=>rfl
 |invoke a b=>simp [Rh] at h
 | builtin b=>
  simp only[Rh] at h
  split at h
  ·rename_i hb
   cases hb
   have: ∀l,lW P g nx .len ats l=lW P g nx' .len ats l:=fun l=>by
    cases l with
    |nil=>rfl
    |cons a t=>cases t<;>rfl
   simp only[jA,zC,Pz,this]
   rfl
  ·rename_i hb
   cases hb
   have: ∀l,lW P g nx .max ats l=lW P g nx' .max ats l:=fun l=>by
    cases l with
    |nil=>rfl
    |cons a t=>cases t<;>rfl
   simp only[jA,zC,Pz,this]
   rfl
  ·rename_i hb
   cases hb
   have: ∀l,lW P g nx .min ats l=lW P g nx' .min ats l:=fun l=>by
    cases l with
    |nil=>rfl
    |cons a t=>cases t<;>rfl
   simp only[jA,zC,Pz,this]
   rfl
  ·rename_i hb
   cases hb
  ·cases h
theorem aJm {ops:Array Oper} {K:List AV→Prop} {g g':Hp} (hg: ∀k,g k=g' k) (l:List Oper) (s:List AV) (h:Bv P G ops K g l s):Bv P G ops K g' l s:=by
 have:g=g':=funext hg
 subst this;exact h
end Go.Proofs.Pv
