/-
The abstract machine, part Q: loops round by round, ranges over functions, and runs of closed calls.
Conditions: none but those that each statement names.
-/
import Derived.Test.YtoaofjhadfihjaaGreatDoorPvN
import Derived.LoopNIn
import Derived.RangeFuncCalls
set_option linter.unusedVariables false
set_option linter.unusedSimpArgs false
set_option maxRecDepth 100000
set_option maxHeartbeats 16000000
namespace Go.Proofs.Pv
open Go
variable {P:Program} {G:Nat->Option (List AV)} {R:Type}
def hput (st:St) (k:Nat) (b:aI):St:=⟨hset st.h k b,st.nx⟩
theorem aIq (st:St) (k:Nat) (b:aI):(hput st k b).hp=dC st.hp k (some b):=zC _ _ _
def Dw (st:St) (k:Nat):St:=⟨hdel st.h k,st.nx⟩
theorem aTr (st:St) (k:Nat):(Dw st k).hp=dC st.hp k none:=pY _ _
def zW (P:Program) (G:Nat->Option (List AV)) (H:Hand R) (c:Code) (K:dU R):Nat->Fr->St->R
 |0,_,_=>H.fail
 |m+1,fr,st=>fG P G H c (fun x fr st=>match x with
  | .normal=>zW P G H c K m fr st
  |x=>K x fr st) fr st
theorem aFg {F:Fence} (hF:Free F) {W:World} {ok:R->Prop} {H:Hand R} (hH:xY F P G W ok H) {c:Code} {K:dU R}: ∀(m:Nat) (fr:Fr) (st:St),ok (zW P G H c K m fr st)->
  vS F P G W (.loop c) (fun x fr st=>ok (K x fr st)) fr st:=by
 intro m fr st h M a w n sim
 refine wpIn_loop_rounds m ?_
 have key: ∀(m:Nat) (fr:Fr) (st:St) (M':Mem) (a:Act) (w:World),M.le M'->vP G W M' fr st a w->ok (zW P G H c K m fr st)->Code.roundsIn F n P c (Post G W M fun x fr st=>ok (K x fr st)) m a w:=by
  intro m
  induction m with
  |zero=>intro fr st M' a w _ _ h;exact absurd h hH.fail
  |succ m ih=>
   intro fr st M' a w hle sim h
   simp only[zW] at h
   refine wpIn_mono (rG hF hH c _ _ _ h M' a w n sim) ?_
   rintro e a' w' ⟨M2,fr',st',x,h1,h2,rfl,h4⟩
   cases x with
   |normal=>exact ih fr' st' M2 a' w' (Mem.le_trans hle h1) h2 h4
   |exit id=>exact⟨M2,fr',st',.exit id,Mem.le_trans hle h1,h2,rfl,h4⟩
   |goto l=>exact⟨M2,fr',st',.goto l,Mem.le_trans hle h1,h2,rfl,h4⟩
   |ret=>exact⟨M2,fr',st',.ret,Mem.le_trans hle h1,h2,rfl,h4⟩
 exact key m fr st M a w M.le_refl sim h
def Bl (s:List AV):List Nat->List AV->List AV
 |p::ps,a::as=>Bl (s.set p a) ps as
 |_,_=>s
def Lt (P:Program) (G:Nat->Option (List AV)) (H:Hand R) (key:Nat) (args:List AV) (K:AV->St->R) (st:St):R:=
 match st.hp key with
 | some (.loop .ready _ s ps assign body _)=>
  if args.length=ps.size then
   fG P G H assign (fun x fr1 st1=>match x with
    | .normal=>match st1.hp key with
     | some (.loop .ready pd1 s1 ps1 as1 bo1 kd1)=>
      fG P G H body (fun x _ st2=>match st2.hp key with
       |some (.loop _ _ s2 ps2 as2 bo2 kd2)=>match x with
        | .normal=>K (.bool true) (hput st2 key (.loop .ready none s2 ps2 as2 bo2 kd2))
        | .ret=>K (.bool false) (hput st2 key (.loop .done (some .ret) s2 ps2 as2 bo2 kd2))
        | .exit id=>K (.bool false) (hput st2 key (.loop .done (some (.exit id)) s2 ps2 as2 bo2 kd2))
        | .goto _=>H.fail
       |_=>H.fail) fr1 (hput st1 key (.loop .busy pd1 s1 ps1 as1 bo1 kd1))
     |_=>H.fail
    |_=>H.fail) ⟨Bl s ps.toList args,[]⟩ st
  else H.fail
 |_=>H.fail
theorem aCz {M:Mem}: ∀(ps:List Nat) (args:List AV) (vs:List Value) (s:List AV) (t:Array Value),bP M.rel args vs->oI M s t->oI M (Bl s ps args) ((ps.zip vs).foldl (fun t (p,v)=>t.setIfInBounds p v) t)
 |[],_,_,s,t,_,h=>by simpa [Bl] using h
 |p::ps,[],vs,s,t,hr,h=>by
  have:vs=[]:=List.eq_nil_of_length_eq_zero (by simpa using hr.1.symm)
  subst this;simpa [Bl] using h
 | p::ps,a::as,vs,s,t,hr,h=>by
  match vs,hr with
  |[],hr=>simp [bP] at hr
  |v::vs,hr=>
   simp only[Bl,List.zip_cons_cons,List.foldl_cons]
   refine aCz ps as vs _ _ ⟨by simpa using hr.1,fun i p q h1 h2=>hr.2 (i+1) p q (by simpa using h1) (by simpa using h2)⟩ ?_
   exact h.set p (hr.2 0 a v rfl rfl)
theorem Lu {M:Mem} {al:Nat->Prop} {hp:Hp} {W w:World} (inv:Inv G M al hp W w) {key l:Nat} (hL:M.L key=some l) {stt pd s ps as bo kd} (h:hp key=some (.loop stt pd s ps as bo kd)):
  ∃r:Loop,w.heap[l]?=some (.loop r)/\r.state=stt/\r.pending=pd/\r.params=ps/\r.assign=as/\r.body=bo/\M.L kd=some r.defers/\r.tmps.size=s.length/\ ∀i (h:i<s.length) (h':i<r.tmps.size),M.rel s[i] r.tmps[i]:=by
 obtain⟨b,ob,g1,g2,g3,g4,g5⟩:=inv.live key _ h
 have hb:b=l:=by simpa [Mem.blockOf,aI.isTok,hL] using g1.symm
 subst hb
 cases ob<;>simp only[dB] at g3
 exact⟨_,g2,g3⟩
theorem Inv.turnLoop {M:Mem} {al:Nat->Prop} {hp:Hp} {W w:World} (inv:Inv G M al hp W w) {key l:Nat} (hL:M.L key=some l) {stt pd s ps as bo kd} (h:hp key=some (.loop stt pd s ps as bo kd)) {r:Loop} (hr:w.heap[l]?=some (.loop r)) (stt':LoopState) (pd':Option Code):
  Inv G M al (dC hp key (some (.loop stt' pd' s ps as bo kd))) W (w.putObj l (.loop {r with state:=stt',pending:=pd'})):=by
 obtain⟨r',g1,g2,g3,g4,g5,g6,g7,g8,g9⟩:=Lu inv hL h
 rw[hr] at g1
 simp only[Option.some.injEq,Obj.loop.injEq] at g1;subst g1
 exact inv.turn (old:= .loop stt pd s ps as bo kd) (ob:= .loop {r with state:=stt',pending:=pd'}) h hL rfl rfl rfl rfl rfl
  (fun q hq=>World.putObj_heap_other hq) (World.putObj_heap_same (lt_of_heap hr)) ⟨rfl,rfl,g4,g5,g6,g7,g8,g9⟩
theorem aC0 {F:Fence} (hF:Free F) {W:World} {ok:R->Prop} {H:Hand R} (hH: ∀l,xY (F.inRound l) P G W ok H) (hfail: ¬ok H.fail) {key:Nat} {args:List AV} {K:AV->St->R} {st:St}
    (h:ok (Lt P G H key args K st)): ∀M w vs,Inv G M (· <st.nx) st.hp W w->bP M.rel args vs.toList-> ∀l,M.L key=some l->
    ∃ f tmps assign body,(Instr.yield l vs).run P w= .ok (.round l f tmps assign body) w/\
      ∀n,RoundIn F n P l f tmps assign body w fun e w'=> ∃M' v av st',e= .returned v/\M.le M'/\Inv G M' (· <st'.nx) st'.hp W w'/\M'.rel av v/\ok (K av st'):=by
  intro M w vs inv hargs l hL
  unfold Lt at h
  split at h
  · rename_i pd s ps assign body kd hk
    obtain⟨r,g1,g2,g3,g4,g5,g6,g7,g8,g9⟩:=Lu inv hL hk
    split at h
    · rename_i hlen
      have hsz:vs.size=r.params.size:=by
        have:=hargs.1;simp only[Array.length_toList] at this;rw[g4];omega
      refine⟨_,_,_,_,run_yield g1 hsz,fun n=>?_⟩
      have hF':Free (F.inRound l):=⟨hF.fn,hF.depth⟩
      refine roundIn_of_wpIn (hF.fn _) ?_
      rw[g5]
      have sim:vP G W M ⟨Bl s ps.toList args,[]⟩ st {tmps:=(r.params.zip vs).foldl (fun t (p,v)=>t.setIfInBounds p v) r.tmps,defers:=[]} w:=by
        refine⟨inv,?_,⟨rfl,fun i key hi=>by simp at hi⟩⟩
        have:=aCz ps.toList args vs.toList s r.tmps hargs ⟨g8,g9⟩
        rw[g4,<-Array.foldl_toList,Array.toList_zip]
        exact this
      refine wpIn_mono (rG hF' (hH l) assign _ _ _ h M _ w n sim) ?_
      rintro e a1 w1 ⟨M1,fr1,st1,x,hM1,sim1,rfl,h1⟩
      cases x with
      | normal=>
        simp only at h1
        split at h1
        · rename_i pd1 s1 ps1 as1 bo1 kd1 hk1
          have hL1:=hM1.L _ _ hL
          obtain⟨r1,q1,q2,q3,q4,q5,q6,q7,q8,q9⟩:=Lu sim1.inv hL1 hk1
          refine⟨_,run_beginRound q1 q2,?_⟩
          rw[g6]
          have inv2:=sim1.inv.turnLoop hL1 hk1 q1 .busy r1.pending
          have sim2:vP G W M1 fr1 (hput st1 key (.loop .busy pd1 s1 ps1 as1 bo1 kd1)) a1 (w1.putObj l (.loop {r1 with state:= .busy})):=by
            refine⟨?_,sim1.rs,sim1.defers⟩
            rw[aIq]
            rw[<-q3];exact inv2
          refine wpIn_mono (rG hF' (hH l) body _ _ _ h1 M1 a1 _ n sim2) ?_
          rintro e a2 w2 ⟨M2,fr2,st2,x2,hM2,sim3,rfl,h2⟩
          have hL2:=hM2.L _ _ hL1
          split at h2
          · rename_i stt2 pd2 s2 ps2 as2 bo2 kd2 hk2
            obtain⟨r2,p1,p2,p3,p4,p5,p6,p7,p8,p9⟩:=Lu sim3.inv hL2 hk2
            have fin: ∀(jump:Option Code) (stt':LoopState),stt'=(if jump.isNone then .ready else .done)->ok (K (.bool jump.isNone) (hput st2 key (.loop stt' jump s2 ps2 as2 bo2 kd2)))->
                ∃v w',(Instr.endRound l jump).run P w2= .ok v w'/\(∃M' v' av st',Ending.returned v= .returned v'/\M.le M'/\Inv G M' (· <st'.nx) st'.hp W w'/\M'.rel av v'/\ok (K av st')):=by
              intro jump stt' hst hok
              subst hst
              refine⟨_,_,run_endRound jump p1,M2,_,_,_,rfl,Mem.le_trans hM1 hM2,?_,.bool,hok⟩
              rw[aIq]
              exact sim3.inv.turnLoop hL2 hk2 p1 _ jump
            cases x2 with
            |normal=>exact fin none _ rfl h2
            |ret=>exact fin (some .ret) _ rfl h2
            |exit id=>exact fin (some (.exit id)) _ rfl h2
            |goto t=>exact absurd h2 hfail
          · exact absurd h2 hfail
        · exact absurd h1 hfail
      |exit id=>exact absurd h1 hfail
      |goto t=>exact absurd h1 hfail
      |ret=>exact absurd h1 hfail
    · exact absurd h hfail
  · exact absurd h hfail
def Fz (P:Program) (g:FuncId):Bool:=match P.funcs[g]? with
 |some fn=>fn.body.isSome
 |none=>false
theorem qX.of_body {F:Fence} {W:World} {g:FuncId} {args:List AV} {K:AV->St->Prop} {st:St} (h:qX F P G W g args K st) (hb:Fz P g=true):aP F P G W g args K st:=by
 rcases h with hc|⟨⟨fn',hf1,hf2⟩,_⟩
 ·exact hc
 ·simp [Fz,hf1,hf2] at hb
def Mc (P:Program) (G:Nat->Option (List AV)) (H:Hand R) (f:Operand) (ps:Array Tmp) (assign body:Code) (K:dU R) (fr:Fr) (st:St):R:=
  match ev P G fr.s 0 f with
  | .fn g first cap=>if Fz P g=true then
    H.call g (first++[.yld (st.nx+1)]++cap) (fun _ st'=>match st'.hp (st.nx+1) with
       |some (.loop stt pd s1 ps1 as1 bo1 kd1)=>
          if stt= .busy then H.fail else
          match pd with
          |none=>K .normal ⟨fr.s,st.nx::fr.marks⟩ (Dw st' (st.nx+1))
          |some .ret=>K .ret ⟨fr.s,st.nx::fr.marks⟩ (Dw st' (st.nx+1))
          |some (.exit id)=>K (.exit id) ⟨fr.s,st.nx::fr.marks⟩ (Dw st' (st.nx+1))
          |_=>H.fail
       |_=>H.fail)
      ⟨(st.nx+1,.loop .ready none fr.s ps assign body st.nx)::(st.nx,.dfd true)::st.h,st.nx+2⟩
      else H.fail
  |_=>H.fail
theorem Zn {F:Fence} (hF:Free F) (hro:F.round=none) {W:World} {ok:R->Prop} {H:Hand R} (hH:xY F P G W ok H) {f:Operand} {ps:Array Tmp} {assign body:Code} {K:dU R} {fr:Fr} {st:St}
  (h:ok (Mc P G H f ps assign body K fr st)):vS F P G W (.rangeFunc f ps assign body) (fun x fr st=>ok (K x fr st)) fr st:=by
 intro M a w n sim
 unfold Mc at h
 split at h
 ·rename_i g first cap hg
  split at h
  case isFalse=>exact absurd h hH.fail
  rename_i hbody
  refine wpIn_rangeFunc fun fn hfn=>?_
  have hv:=fA (P:=P) sim.inv sim.rs 0 f
  rw[hg] at hv
  generalize hva:a.eval f=v at hv
  cases hv with
  | @fn _ _ _ _ _ fs cs hfs hcs g1 g2=>
   obtain⟨hle1,inv1⟩:=sim.inv.alloc (nx:=st.nx) (Nat.lt_irrefl _) (.dfd true) (.deferred (some [])) rfl (by simp [dB])
   have hrs1:=sim.rs.mono hle1
   have hnx1: ¬kZ (· <st.nx) st.nx (st.nx+1):=by rintro(h|h)<;>omega
   have hLd:(M.addL st.nx w.heap.size).L st.nx=some w.heap.size:=by simp [Mem.addL]
   obtain⟨hle2,inv2⟩:=inv1.alloc (nx:=st.nx+1) hnx1 (.loop .ready none fr.s ps assign body st.nx)
    (.loop {state:= .ready,pending:=none,fn:=fn,tmps:=a.tmps,params:=ps,assign,body,defers:=w.heap.size}) rfl (by
     have hle:=Mem.le_addL (M:=M.addL st.nx w.heap.size) (k:=st.nx+1) (b:=(w.alloc (.deferred (some []))).heap.size) (z:=0) (inv1.fresh _ hnx1)
     have hrs2:=hrs1.mono hle
     exact⟨rfl,rfl,rfl,rfl,rfl,hle.L _ _ hLd,hrs2.1,hrs2.2⟩)
   have hle:=Mem.le_trans hle1 hle2
   have hLl:((M.addL st.nx w.heap.size).addL (st.nx+1) (w.alloc (.deferred (some []))).heap.size).L (st.nx+1)=some (w.heap.size+1):=by simp [Mem.addL,World.size_alloc]
   have inv3:Inv G ((M.addL st.nx w.heap.size).addL (st.nx+1) (w.alloc (.deferred (some []))).heap.size) (· <st.nx+2) (hget ((st.nx+1,.loop .ready none fr.s ps assign body st.nx)::(st.nx,.dfd true)::st.h)) W
     ((w.alloc (.deferred (some []))).alloc (.loop {state:= .ready,pending:=none,fn:=fn,tmps:=a.tmps,params:=ps,assign,body,defers:=w.heap.size})):=by
    refine(inv2.more (fun k hk=>?_)).less (fun k b hk=>?_)
    ·rcases hk with(hk|hk)|hk
     ·show k<st.nx+2
      have:k<st.nx:=hk
      omega
     ·show k<st.nx+2
      omega
     ·show k<st.nx+2
      omega
    ·simp only[hget] at hk
     simp only[dC]
     split at hk
     ·rename_i e;simp [e];simpa using hk
     ·rename_i e
      rw[if_neg e]
      split at hk
      ·rename_i e2;rw[if_pos e2];exact hk
      ·rename_i e2;rw[if_neg e2];exact hk
   have hargs:bP ((M.addL st.nx w.heap.size).addL (st.nx+1) (w.alloc (.deferred (some []))).heap.size).rel (first++[.yld (st.nx+1)]++cap) (fs++ #[Value.func (.yield (w.heap.size+1)) #[] #[]]++cs).toList:=by
    simp only[Array.toList_append]
    refine((bP.of_get (by simpa using hfs) (fun i e1 e2=>?_)).append (⟨rfl,fun i a v h1 h2=>?_⟩)).append (bP.of_get (by simpa using hcs) (fun i e1 e2=>?_))
    ·have:=g1 i e1 (by simpa using e2)
     rw[<-Array.getElem_toList] at this
     exact Mem.rel_mono hle this
    ·cases i with
     |zero=>simp at h1 h2;subst h1;subst h2;exact .yld hLl
     |succ i=>simp at h1
    ·have:=g2 i e1 (by simpa using e2)
     rw[<-Array.getElem_toList] at this
     exact Mem.rel_mono hle this
   have hce':=(hH.call _ _ _ _ h).of_body hbody
   obtain⟨⟨fnn,q1,q2,q3⟩,hcall⟩:=hce' _ _ _ inv3 hargs
   let w2:=((w.alloc (.deferred (some []))).alloc (.loop {state:= .ready,pending:=none,fn:=fn,tmps:=a.tmps,params:=ps,assign,body,defers:=w.heap.size}))
   refine⟨w.heap.size+1,[{target:= .collected w.heap.size,args:= #[]}],w2,{target:=Target.fn (Fn.func g) cs,args:=fs++ #[Value.func (.yield (w.heap.size+1)) #[] #[]]},w2,g,fs++ #[Value.func (.yield (w.heap.size+1)) #[] #[]]++cs,w2,by rw[hro];exact run_enterLoop_outer fn a.tmps ps assign body,?_,fun f' _=>hF.fn f',?_,fun hd=>by rw[hF.depth] at hd;simp at hd,?_⟩
   ·simp only[rangeCall,resolve,hva,Deferred.ofValue]
    simp [Act.eval]
   ·simp [invoke,callFunc,q1,q3]
    intro hb;rw[hb] at q2;cases q2
   ·refine(hcall (n - 1)).mono ?_
    rintro e w3 ⟨M3,v3,av,st3,rfl,hle3,inv4,hv3,hk⟩
    split at hk
    ·rename_i stt pd s1 ps1 as1 bo1 kd1 hkl
     have hL3:=hle3.L _ _ hLl
     obtain⟨r,p1,p2,p3,p4,p5,p6,p7,p8,p9⟩:=Lu inv4 hL3 hkl
     split at hk
     ·exact absurd hk hH.fail
     ·rename_i hst
      refine⟨_,_,run_endLoop p1 (by rw[p2];exact hst),?_⟩
      have inv5:=inv4.turnLoop hL3 hkl p1 .exhausted r.pending
      have sim5:vP G W M3 ⟨fr.s,st.nx::fr.marks⟩ (Dw st3 (st.nx+1)) {a with defers:=[{target:= .collected w.heap.size,args:= #[]}]++a.defers} (w3.putObj (w.heap.size+1) (.loop {r with state:= .exhausted})):=by
       refine⟨?_,sim.rs.mono (Mem.le_trans hle hle3),?_⟩
       ·rw[aTr]
        refine inv5.less fun k b hk=>?_
        simp only[dC] at hk ⊢
        split at hk
        ·cases hk
        ·rename_i e;rw[if_neg e];exact hk
       ·obtain⟨d1,d2⟩:=sim.defers
        refine⟨by simp [d1],fun i key hi=>?_⟩
        cases i with
        |zero=>
         simp at hi;subst hi
         exact⟨w.heap.size,hle3.L _ _ (hle2.L _ _ hLd),by simp⟩
        |succ i=>
         obtain⟨l,e1,e2⟩:=d2 i key (by simpa using hi)
         exact⟨l,hle3.L _ _ (hle.L _ _ e1),by simpa using e2⟩
      rw[p3] at sim5 ⊢
      split at hk
      ·exact⟨M3,_,_,.normal,Mem.le_trans hle hle3,sim5,rfl,hk⟩
      ·exact wpIn_ret ⟨M3,_,_,.ret,Mem.le_trans hle hle3,sim5,rfl,hk⟩
      ·rename_i id
       exact wpIn_exit ⟨M3,_,_,.exit id,Mem.le_trans hle hle3,sim5,rfl,hk⟩
      ·exact absurd hk hH.fail
    ·exact absurd hk hH.fail
 ·exact absurd h hH.fail
def aIr (P:Program):Bool:=P.funcs.toList.all fun fn=>!(fn.name== "runtime.NumGoroutine")
theorem aKp (h:aIr P=true) (f:Nat) (fn:Func) (hf:P.funcs[f]?=some fn):fn.name≠ "runtime.NumGoroutine" :=by
 simp only[aIr,List.all_eq_true] at h
 have:=h fn (by
  obtain⟨h1,h2⟩:=Array.getElem?_eq_some_iff.1 hf
  rw[<-h2];simp)
 simpa using this
end Go.Proofs.Pv
namespace Go.Proofs.Pv
open Go
variable {P:Program} {G:Nat->Option (List AV)}
def vJ (o:Oper):Bool:=match o.op with
 | .call c=>(match c.callee with
  | .builtin _=>false
  |_=>true)
 |_=>false
def Sr (o:Oper):Bool:=match o.op with
 | .call c=>(match c.callee with
  | .builtin .len| .builtin .max| .builtin .min=>true
  | .value _=>true
  |_=>false)
 | .move _| .assign _| .pick _ _ _| .build _ _| .load _ _| .nilCheck _| .binOp .. | .unOp .. | .convert _ _ _| .makeFunc .. | .slice .. | .fieldAddr .. | .field .. | .indexAddr .. | .index .. | .extract _ _=>true
 |_=>false
def aBh (ops:Array Oper) (anc:List (List Nat)):Bool:=
 (List.range ops.size).all fun j=>(List.range j).all fun i=>match ops[i]?,ops[j]? with
  |some a,some b=>!(vJ a && vJ b)||(anc.getD j []).contains i
  |_,_=>true
def Dt (P:Program) (G:Nat->Option (List AV)) (ops:Array Oper) (K:List AV->Prop) (g:Hp):List Oper->List AV->Prop
 |[],s=>K s
 | o::rest,s=>match mV ops s o with
  |none=>False
  |some false=>Dt P G ops K g rest (gQ s o.dst uu)
  |some true=>match jL P G s g 0 o with
   |some (.val v [])=>Dt P G ops K g rest (gQ s o.dst v)
   |some (.call f args)=>vJ o=true/\ ∃r,Pl P G f args r/\Dt P G ops K g rest (gQ s o.dst r)
   |_=>False
theorem aIm {s:List AV} {g:Hp} {nx nx':Nat} {o:Oper} (h:Sr o=true):jL P G s g nx o=jL P G s g nx' o:=by
 obtain⟨dst,op,ty,pos,after,guard⟩:=o
 cases op<;>first
  |rfl
  |(simp [Sr] at h;done)
  |skip
 rename_i c
 obtain⟨callee,args,ats⟩:=c
 cases callee with
 |value f=>rfl
 |invoke a b=>simp [Sr] at h
 | builtin b=>
  simp only[Sr] at h
  split at h
  ·rename_i hb
   cases hb
   have: ∀l,nC P g nx .len ats l=nC P g nx' .len ats l:=fun l=>by
    cases l with
    |nil=>rfl
    |cons a t=>cases t<;>rfl
   simp only[jL,Ad,Qp,this]
   rfl
  ·rename_i hb
   cases hb
   have: ∀l,nC P g nx .max ats l=nC P g nx' .max ats l:=fun l=>by
    cases l with
    |nil=>rfl
    |cons a t=>cases t<;>rfl
   simp only[jL,Ad,Qp,this]
   rfl
  ·rename_i hb
   cases hb
   have: ∀l,nC P g nx .min ats l=nC P g nx' .min ats l:=fun l=>by
    cases l with
    |nil=>rfl
    |cons a t=>cases t<;>rfl
   simp only[jL,Ad,Qp,this]
   rfl
  ·rename_i hb
   cases hb
  ·cases h
theorem aJ2 {ops:Array Oper} {K:List AV->Prop} {g g':Hp} (hg: ∀k,g k=g' k) (l:List Oper) (s:List AV) (h:Dt P G ops K g l s):Dt P G ops K g' l s:=by
 have:g=g':=funext hg
 subst this;exact h
end Go.Proofs.Pv
